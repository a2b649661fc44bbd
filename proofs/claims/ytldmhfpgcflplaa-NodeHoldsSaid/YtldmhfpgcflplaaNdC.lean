/-
  The contracts of what is printed, in the plain words of nodes; the two functions 'with'.
-/
import Derived.Test.YtldmhfpgcflplaaNdFn
import Derived.Lib.Hide
set_option linter.unusedVariables false
set_option linter.unusedSimpArgs false
namespace Go.Proofs.Ytldmhfpgcflplaa
open Go Go.RowKit Go.Proofs.Ytldmhfpgcflplaa.PA Go.Proofs.YtldmhfpgcflplaaW.PrintWords NdP

def pgV (p : Pg) (s : Value) : Value := .agg #[.int .i64 p.lsn, .int .i64 p.kind, .int .i64 p.level, .int .i64 p.right, .string p.high, s]
def enV (e : Ent) : Value := .agg #[.string e.k, .string e.v, .bool e.m]
/-- Entries that are read: of the program's type; of the reference's. -/
def RdN (w : World) (s : Value) (l : List Ent) : Prop := ∃ A c, s = .slice A l.length c ∧ l.length ≤ c ∧ c ≤ maxLen ∧ Kd.C k44 w A (l.map c44).length (l.map c44)
def RdQ (w : World) (s : Value) (l : List Ent) : Prop := ∃ A c, s = .slice A l.length c ∧ l.length ≤ c ∧ c ≤ maxLen ∧ Kd.C k56 w A (l.map c56).length (l.map c56)
/-- Entries in a row of the call's own. -/
def OwN (w : World) (base : Nat) (s : Value) (l : List Ent) : Prop := Kd.R k44 44 w base (fun _ => True) s (l.map c44)
def OwQ (w : World) (base : Nat) (s : Value) (l : List Ent) : Prop := Kd.R k56 56 w base (fun _ => True) s (l.map c56)

theorem R_cap {α : Type} {d : Kd α} {e : Nat} {w : World} {base : Nat} {ok : Nat → Prop} {v : Value} {xs : List α} (h : d.R e w base ok v xs) : ∃ A c, v = .slice A xs.length c ∧ xs.length ≤ c ∧ c ≤ maxLen ∧ d.C w A xs.length xs := by
  obtain ⟨A, c, hv, hc, hr⟩ := Kd.R_reads h
  refine ⟨A, c, hv, hc, ?_, hr⟩
  obtain ⟨inner, ho⟩ := Kd.R_own h
  rcases ho.2 with ⟨e1, _⟩ | ⟨g, cap, cur, e1, _, _, _, hm, _⟩
  · rw [hv] at e1
    injection e1 with _ _ e3
    omega
  · rw [hv] at e1
    injection e1 with _ _ e3
    omega
theorem OwN.rd {w : World} {base : Nat} {s : Value} {l : List Ent} (h : OwN w base s l) : RdN w s l := by
  obtain ⟨A, c, hv, hc, hm, hr⟩ := R_cap h
  exact ⟨A, c, by rw [hv, List.length_map], by simpa using hc, hm, hr⟩
theorem OwQ.rd {w : World} {base : Nat} {s : Value} {l : List Ent} (h : OwQ w base s l) : RdQ w s l := by
  obtain ⟨A, c, hv, hc, hm, hr⟩ := R_cap h
  exact ⟨A, c, by rw [hv, List.length_map], by simpa using hc, hm, hr⟩
theorem RdN.below {w w' : World} {s : Value} {l : List Ent} (h : RdN w s l) (hb : Below w.heap.size w w') : RdN w' s l := by
  obtain ⟨A, c, h1, h2, hm, h3⟩ := h
  exact ⟨A, c, h1, h2, hm, Kd.C_below h3 hb⟩
theorem RdQ.below {w w' : World} {s : Value} {l : List Ent} (h : RdQ w s l) (hb : Below w.heap.size w w') : RdQ w' s l := by
  obtain ⟨A, c, h1, h2, hm, h3⟩ := h
  exact ⟨A, c, h1, h2, hm, Kd.C_below h3 hb⟩
theorem rdN_nil (w : World) : RdN w (.slice none 0 0) [] := ⟨none, 0, rfl, Nat.le_refl _, Nat.zero_le _, rfl, Nat.zero_le _, fun h => absurd h (by simp)⟩
theorem rdQ_nil (w : World) : RdQ w (.slice none 0 0) [] := ⟨none, 0, rfl, Nat.le_refl _, Nat.zero_le _, rfl, Nat.zero_le _, fun h => absurd h (by simp)⟩

variable {w : World} {s : Value} {p : Pg}
theorem free_c (hs : Small p.es) (hh : p.high.size ≤ 1000) (hr : RdN w s p.es) : Calls Try.prog 16 #[pgV p s] w fun e w' => e = .returned (.int .i64 (free p)) ∧ Below w.heap.size w w' := by
  obtain ⟨A, c, rfl, hc, hm, hC⟩ := hr
  obtain ⟨k, hk⟩ := (free_f p hs hh p.lsn p.kind p.level p.right).one
  have := page_Free.calls k p.lsn p.kind p.level p.right p.high A c (p.es.map c44) _ w hC (by simpa using hc) hk
  rw [List.length_map] at this
  exact this
theorem rfree_c (hs : Small p.es) (hh : p.high.size ≤ 1000) (hr : RdQ w s p.es) : Calls Try.prog 34 #[pgV p s] w fun e w' => e = .returned (.int .i64 (free p)) ∧ Below w.heap.size w w' := by
  obtain ⟨A, c, rfl, hc, hm, hC⟩ := hr
  obtain ⟨k, hk⟩ := (rfree_f p hs hh p.lsn p.kind p.level p.right).one
  have := concordanceref05_Free.calls k p.lsn p.kind p.level p.right p.high A c (p.es.map c56) _ w hC (by simpa using hc) hk
  rw [List.length_map] at this
  exact this
theorem size_c {e : Ent} (h : e.k.size ≤ 1000 ∧ e.v.size ≤ 1000) : Calls Try.prog 19 #[enV e] w fun x w' => x = .returned (.int .i64 (size e)) ∧ Below w.heap.size w w' :=
  page_Size.calls e.k e.v e.m _ w (size_f h)
theorem covers_c {key : ByteArray} (hr : RdN w s p.es) : Calls Try.prog 15 #[pgV p s, .string key] w fun e w' => e = .returned (.bool (covers p key)) ∧ Below w.heap.size w w' := by
  obtain ⟨A, c, rfl, hc, hm, hC⟩ := hr
  have hk : node_Covers.f p.lsn p.kind p.level p.right p.high (p.es.map c44) key = some (covers p key) := by
    unfold node_Covers.f covers lss
    by_cases h : p.high.toList = []
    · rw [if_pos h]; simp [h]
    · rw [if_neg h]; simp [h]
  have := node_Covers.calls p.lsn p.kind p.level p.right p.high A c (p.es.map c44) key _ w hC (by simpa using hc) hk
  rw [List.length_map] at this
  exact this
theorem find_c {key : ByteArray} (hS : Sorted p.es) (hl : p.es.length ≤ 1000) (hr : RdN w s p.es) : Calls Try.prog 24 #[pgV p s, .string key] w fun e w' => e = .returned (.tuple #[.int .i64 (place p.es key), .bool (there p.es key)]) ∧ Below w.heap.size w w' := by
  obtain ⟨A, c, rfl, hc, hm, hC⟩ := hr
  obtain ⟨k, hk⟩ := (find_f p.es key hS hl p.lsn p.kind p.level p.right p.high).one
  have := node_Find.calls k p.lsn p.kind p.level p.right p.high A c (p.es.map c44) key _ _ w hC (by simpa using hc) hk
  rw [List.length_map] at this
  exact this
theorem place_c {key : ByteArray} (hl : p.es.length ≤ 1000) (hr : RdQ w s p.es) : Calls Try.prog 33 #[pgV p s, .string key] w fun e w' => e = .returned (.tuple #[.int .i64 (place p.es key), .bool (there p.es key)]) ∧ Below w.heap.size w w' := by
  obtain ⟨A, c, rfl, hc, hm, hC⟩ := hr
  obtain ⟨k, hk⟩ := (place_f p.es key hl p.lsn p.kind p.level p.right p.high).one
  have := concordanceref13_Place.calls k p.lsn p.kind p.level p.right p.high A c (p.es.map c56) key _ _ w hC (by simpa using hc) hk
  rw [List.length_map] at this
  exact this
theorem sizes_c {l : List Ent} (hs : Small l) (hr : RdQ w s l) : Calls Try.prog 29 #[s] w fun e w' => e = .returned (.int .i64 (sizes l)) ∧ Below w.heap.size w w' := by
  obtain ⟨A, c, rfl, hc, hm, hC⟩ := hr
  obtain ⟨k, hk⟩ := (sizes_f l hs).one
  have := concordanceref13_Sizes.calls k A c (l.map c56) _ w hC (by simpa using hc) hk
  rw [List.length_map] at this
  exact this.mono fun _ _ ⟨h1, h2⟩ => ⟨h1, h2.below⟩
theorem clone_c {l : List Ent} (hl : l.length ≤ 1000) (hr : RdN w s l) : Calls Try.prog 28 #[s] w fun e w' => ∃ v, e = .returned v ∧ OwN w' w.heap.size v l ∧ Below w.heap.size w w' := by
  obtain ⟨A, c, rfl, hc, hm, hC⟩ := hr
  have hk : page_Entry_28.f (l.map c44) = some (l.map c44) := by
    unfold page_Entry_28.f
    simp only [Option.bind_some, List.length_nil, List.length_map, Nat.zero_add, List.nil_append]
    rw [if_pos (by omega)]
  have := page_Entry_28.calls A c (l.map c44) _ w hC (by simpa using hc) hk
  rw [List.length_map] at this
  exact this
/-- The number of two bytes. -/
def g2 (s : ByteArray) : Int := bt s 0 * 256 + bt s 1
theorem or_join (x b : Nat) (hx : x < 36028797018963968) (hb : b < 256) : Go.bits .or .i64 (wrap64 ((x : Int) * 256)) (wrap64 (b : Int)) = ((x * 256 + b : Nat) : Int) := by
  have w1 : wrap64 ((x : Int) * 256) = ((x * 256 : Nat) : Int) := by unfold wrap64; omega
  have w2 : wrap64 (b : Int) = (b : Int) := by unfold wrap64; omega
  rw [w1, w2]
  have := bits_join .i64 63 (by decide) (fun n h0 h1 => by rw [IntKind.wrap_i64]; omega) 8 ((x * 256 : Nat) : Int) (b : Int) (by omega) (by omega) (by omega) (by omega) (by omega) (by omega)
  rw [this]
  omega
theorem get_f (t : ByteArray) (ht : t.size = 2) : sum_Get.f 3 t = some (g2 t) := by
  have h0 := bt_range t 0
  have h1 := bt_range t 1
  obtain ⟨x, hx⟩ := Int.eq_ofNat_of_zero_le h0.1
  obtain ⟨y, hy⟩ := Int.eq_ofNat_of_zero_le h1.1
  have e1 := or_join 0 x (by omega) (by omega)
  have e2 := or_join x y (by omega) (by omega)
  rw [show ((0 : Nat) : Int) = 0 from rfl, show ((0 * 256 + x : Nat) : Int) = (x : Int) by omega] at e1
  unfold sum_Get.f g2
  rw [if_neg (by omega), ht, show ((2 : Nat) : Int) = 2 from rfl]
  rw [sum_Get.l0, if_pos (by omega), if_pos (by omega), if_pos (by omega), hx, e1, show wrap64 ((0 : Int) + 1) = 1 by unfold wrap64; omega]
  rw [sum_Get.l0, if_pos (by omega), if_pos (by omega), if_pos (by omega), hy, e2, show wrap64 ((1 : Int) + 1) = 2 by unfold wrap64; omega]
  rw [sum_Get.l0, if_neg (by omega)]
  congr 1
theorem rget_f (t : ByteArray) (ht : t.size = 2) : concordanceref02_Get.f 3 t = some (g2 t) := by
  have h0 := bt_range t 0
  have h1 := bt_range t 1
  obtain ⟨x, hx⟩ := Int.eq_ofNat_of_zero_le h0.1
  obtain ⟨y, hy⟩ := Int.eq_ofNat_of_zero_le h1.1
  unfold concordanceref02_Get.f g2
  have wa : wrap64 ((wrap64 (256 * (0 : Int))) + (wrap64 (x : Int))) = (x : Int) := by
    have e1 : wrap64 (256 * (0 : Int)) = 0 := by unfold wrap64; omega
    have e2 : wrap64 (x : Int) = x := by unfold wrap64; omega
    rw [e1, e2]; unfold wrap64; omega
  have wb : wrap64 ((wrap64 (256 * (x : Int))) + (wrap64 (y : Int))) = ((x * 256 + y : Nat) : Int) := by
    have e1 : wrap64 (256 * (x : Int)) = 256 * (x : Int) := by unfold wrap64; omega
    have e2 : wrap64 (y : Int) = y := by unfold wrap64; omega
    rw [e1, e2]; unfold wrap64; omega
  rw [concordanceref02_Get.l0, if_pos (by omega), if_pos (by omega), if_pos (by decide), hx, wa, show wrap64 ((0 : Int) + 1) = 1 by unfold wrap64; omega]
  rw [concordanceref02_Get.l0, if_pos (by omega), if_pos (by omega), if_pos (by decide), hy, wb, show wrap64 ((1 : Int) + 1) = 2 by unfold wrap64; omega]
  rw [concordanceref02_Get.l0, if_neg (by omega)]
  congr 1
theorem get_c {t : ByteArray} (ht : t.size = 2) : Calls Try.prog 31 #[.string t] w fun e w' => e = .returned (.int .i64 (g2 t)) ∧ Below w.heap.size w w' :=
  (sum_Get.calls 3 t _ w (get_f t ht)).mono fun _ _ ⟨h1, h2⟩ => ⟨h1, h2.below⟩
theorem rget_c {t : ByteArray} (ht : t.size = 2) : Calls Try.prog 26 #[.string t] w fun e w' => e = .returned (.int .i64 (g2 t)) ∧ Below w.heap.size w w' :=
  (concordanceref02_Get.calls 3 t _ w (rget_f t ht)).mono fun _ _ ⟨h1, h2⟩ => ⟨h1, h2.below⟩
theorem link_c : Calls Try.prog 25 #[.int .i64 258] w fun e w' => e = .returned (.string ⟨#[1, 2]⟩) ∧ Below w.heap.size w w' :=
  node_Link.calls 10 258 ⟨#[1, 2]⟩ w (by kernel_rfl)
set_option maxRecDepth 100000 in
theorem with_c (p : Pg) {s s' : Value} {l l' : List Ent} (w : World) (h : RdN w s l) (h' : RdN w s' l') : Calls Try.prog 27 #[pgV p s, s'] w fun e w' => e = .returned (pgV p s') ∧ Below w.heap.size w w' := by
  obtain ⟨A, c, rfl, _⟩ := h
  obtain ⟨A', c', rfl, _⟩ := h'
  unfold pgV
  go_enter Try.func27, Try.ntmps27
  go_wp2
  refine bodyPost_ret (v := .agg #[.int .i64 p.lsn, .int .i64 p.kind, .int .i64 p.level, .int .i64 p.right, .string p.high, .slice A' l'.length c']) (by simp [results, Try.results27, go_sem]) rfl ⟨rfl, ?_⟩
  repeat (first | exact Below.refl _ _ | refine Below.drew ?_ | refine Below.setCell ?_ (by simp) _ | refine Below.alloc ?_ (by simp <;> omega) _)
set_option maxRecDepth 100000 in
theorem rwith_c (p : Pg) {s s' : Value} {l l' : List Ent} (w : World) (h : RdQ w s l) (h' : RdQ w s' l') : Calls Try.prog 30 #[pgV p s, s'] w fun e w' => e = .returned (pgV p s') ∧ Below w.heap.size w w' := by
  obtain ⟨A, c, rfl, _⟩ := h
  obtain ⟨A', c', rfl, _⟩ := h'
  unfold pgV
  go_enter Try.func30, Try.ntmps30
  go_wp2
  refine bodyPost_ret (v := .agg #[.int .i64 p.lsn, .int .i64 p.kind, .int .i64 p.level, .int .i64 p.right, .string p.high, .slice A' l'.length c']) (by simp [results, Try.results30, go_sem]) rfl ⟨rfl, ?_⟩
  repeat (first | exact Below.refl _ _ | refine Below.drew ?_ | refine Below.setCell ?_ (by simp) _ | refine Below.alloc ?_ (by simp <;> omega) _)
end Go.Proofs.Ytldmhfpgcflplaa
