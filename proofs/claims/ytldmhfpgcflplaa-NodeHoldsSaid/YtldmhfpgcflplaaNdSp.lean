/-
  The program's Split.
-/
import Derived.Test.YtldmhfpgcflplaaNdMk
import Derived.Test.YtldmhfpgcflplaaTy
set_option linter.unusedVariables false
set_option linter.unusedSimpArgs false
namespace Go.Proofs.Ytldmhfpgcflplaa
open Go Go.RowKit Go.Proofs.Ytldmhfpgcflplaa.PA Go.Proofs.YtldmhfpgcflplaaW.PrintWords NdP

theorem SpPost.no1 {w w' : World} {p : Pg} {right : Int} (h : right < 1 ∨ 65535 < right) (hb : Below w.heap.size w w') :
    SpPost w p right (.returned (.tuple #[.agg #[.int .i64 0, .int .i64 0, .int .i64 0, .int .i64 0, .string ⟨#[]⟩, .slice none 0 0], .agg #[.int .i64 0, .int .i64 0, .int .i64 0, .int .i64 0, .string ⟨#[]⟩, .slice none 0 0], .int .i64 1])) w' :=
  ⟨zero, zero, _, _, 1, rfl, rdN_nil _, rdN_nil _, hb, Or.inl ⟨h, rfl, rfl, rfl⟩⟩
theorem SpPost.no17 {w w' : World} {p : Pg} {right : Int} (h : 1 ≤ right) (h' : right ≤ 65535) (hl : p.es.length < 2) (hb : Below w.heap.size w w') :
    SpPost w p right (.returned (.tuple #[.agg #[.int .i64 0, .int .i64 0, .int .i64 0, .int .i64 0, .string ⟨#[]⟩, .slice none 0 0], .agg #[.int .i64 0, .int .i64 0, .int .i64 0, .int .i64 0, .string ⟨#[]⟩, .slice none 0 0], .int .i64 17])) w' :=
  ⟨zero, zero, _, _, 17, rfl, rdN_nil _, rdN_nil _, hb, Or.inr (Or.inl ⟨h, h', hl, rfl, rfl, rfl⟩)⟩
def SpR1 (p : Pg) (w1 : World) (v7 v33 : Value) (wr : World) : Prop := ∃ k : Nat, k ≤ p.es.length ∧ v33 = .int .i64 k ∧ v7 = .int .i64 (sizes (p.es.take k) : Nat) ∧ Below w1.heap.size w1 wr

def SpR2 (p : Pg) (w1 : World) (v7 v10 v11 : Value) (wr : World) : Prop := ∃ i : Nat, i ≤ p.es.length - 1 ∧ v11 = .int .i64 i ∧ v10 = .int .i64 (sizes (p.es.take i) : Nat) ∧ v7 = .int .i64 (sizes (p.es.drop i) : Nat) ∧ (∀ j, j < i → cutOn p.es j) ∧ Below w1.heap.size w1 wr
theorem cut_next {l : List Ent} {i : Nat} (h : ∀ j, j < i → cutOn l j) (hi : cutOn l i) : ∀ j, j < i + 1 → cutOn l j := by
  intro j hj
  rcases Nat.lt_or_ge j i with h1 | h1
  · exact h j h1
  · obtain rfl : j = i := by omega
    exact hi
theorem kC_of_rd {w : World} {A : Option Addr} {n c : Nat} {l : List Ent} (h : RdN w (.slice A n c) l) : Kd.C k44 w A (l.map c44).length (l.map c44) := by
  obtain ⟨A', c', he, _, _, h3⟩ := h
  injection he with e1 _ _
  subst e1
  exact h3
theorem rdN_take {w : World} {A : Option Addr} {c i : Nat} {l : List Ent} (h : RdN w (.slice A l.length c) l) (hi : i ≤ l.length) : RdN w (.slice A i c) (l.take i) := by
  obtain ⟨A', c', he, h1, h2, h3⟩ := h
  cases he
  have hl : (l.take i).length = i := by rw [List.length_take]; omega
  exact ⟨A, c, by rw [hl], by omega, h2, C_take44 i hi h3⟩
theorem rdN_drop {w : World} {A : Option Addr} {c i : Nat} {l : List Ent} (h : RdN w (.slice A l.length c) l) (hi : i ≤ l.length) (hc : ¬ c = i) : RdN w (.slice (A.map (·.add (i * 3))) (l.length - i) (c - i)) (l.drop i) := by
  obtain ⟨A', c', he, h1, h2, h3⟩ := h
  cases he
  have := C_drop44 i hi h1 h3
  rw [if_neg hc] at this
  exact ⟨_, c - i, by rw [List.length_drop], by rw [List.length_drop]; omega, by omega, this⟩
theorem sp_le {l : List Ent} (hs : Small l) (k : Nat) : sizes (l.take k) ≤ 2003000 ∧ sizes (l.drop k) ≤ 2003000 := by
  have h1 := small_sizes (l := l) hs.2
  have h2 := sizes_take_drop l k
  have h3 := hs.1
  omega
theorem sp_add {l : List Ent} (hs : Small l) {k : Nat} {x : Ent} (h : l[k]? = some x) : Value.int .i64 (wrap64 ((sizes (l.take k) : Nat) + (size x : Int))) = .int .i64 (sizes (l.take (k + 1)) : Nat) := by
  have h1 := (sp_le hs (k + 1)).1
  rw [sizes_take_succ h] at h1 ⊢
  congr 1
  unfold wrap64
  omega
theorem sp_sub {l : List Ent} (hs : Small l) {k : Nat} {x : Ent} (h : l[k]? = some x) : Value.int .i64 (wrap64 ((sizes (l.drop k) : Nat) - (size x : Int))) = .int .i64 (sizes (l.drop (k + 1)) : Nat) := by
  have h1 := (sp_le hs k).2
  rw [sizes_drop_succ h] at h1 ⊢
  congr 1
  unfold wrap64
  omega
theorem own_set1 {w : World} {base b : Nat} {s : Value} {l : List Ent} {cs : Array Value} (h : OwN w base s l) (hb : Bx w b cs 28) (i : Nat) (u : Value) : OwN (w.setCell ⟨b, i, none⟩ u) base s l :=
  Kd.R_set h hb (by decide) i u
theorem own_set6 {w : World} {base b : Nat} {s : Value} {l : List Ent} {a0 a1 a2 a3 a4 a5 : Value} (h : OwN w base s l) (hb : Bx w b #[a0, a1, a2, a3, a4, a5] 28) (v0 v1 v2 v3 v4 v5 : Value) :
    OwN ((((((w.setCell ⟨b, 0, none⟩ v0).setCell ⟨b, 1, none⟩ v1).setCell ⟨b, 2, none⟩ v2).setCell ⟨b, 3, none⟩ v3).setCell ⟨b, 4, none⟩ v4).setCell ⟨b, 5, none⟩ v5) base s l :=
  own_set1 (own_set1 (own_set1 (own_set1 (own_set1 (own_set1 h hb 0 v0) (hb.set 0 v0) 1 v1) ((hb.set 0 v0).set 1 v1) 2 v2) (((hb.set 0 v0).set 1 v1).set 2 v2) 3 v3) ((((hb.set 0 v0).set 1 v1).set 2 v2).set 3 v3) 4 v4) (((((hb.set 0 v0).set 1 v1).set 2 v2).set 3 v3).set 4 v4) 5 v5
theorem sp_world {wz W : World} {ba bb : Nat} {a0 a1 a2 a3 a4 a5 b0 b1 b2 b3 b4 b5 k4 k3 : Value} (hne : ¬ ba = bb) (hne' : ¬ bb = ba) (Xa : Bx wz ba pzV 28) (Xb : Bx wz bb pzV 28)
    (hW : ((((((((((((((wz.setCell ⟨ba, 0, none⟩ a0).setCell ⟨ba, 1, none⟩ a1).setCell ⟨ba, 2, none⟩ a2).setCell ⟨ba, 3, none⟩ a3).setCell ⟨ba, 4, none⟩ a4).setCell ⟨ba, 5, none⟩ a5).setCell ⟨bb, 0, none⟩ b0).setCell ⟨bb, 1, none⟩ b1).setCell ⟨bb, 2, none⟩ b2).setCell ⟨bb, 3, none⟩ b3).setCell ⟨bb, 4, none⟩ b4).setCell ⟨bb, 5, none⟩ b5).setCell ⟨ba, 4, none⟩ k4).setCell ⟨ba, 3, none⟩ k3) = W) :
    Bx W ba #[a0, a1, a2, k3, k4, a5] 28 ∧ Bx W bb #[b0, b1, b2, b3, b4, b5] 28 ∧ (∀ B, B ≤ ba → B ≤ bb → Below B wz W) ∧ (∀ base s l, OwN wz base s l → OwN W base s l) := by
  unfold pzV at Xa Xb
  have Xa1 := Xa.set6 (v0 := a0) (v1 := a1) (v2 := a2) (v3 := a3) (v4 := a4) (v5 := a5) rfl
  have Xb1 := Xb.far6 hne' a0 a1 a2 a3 a4 a5
  have Xa2 := Xa1.far6 hne b0 b1 b2 b3 b4 b5
  have Xb2 := Xb1.set6 (v0 := b0) (v1 := b1) (v2 := b2) (v3 := b3) (v4 := b4) (v5 := b5) rfl
  subst hW
  refine ⟨(Xa2.set 4 k4).set 3 k3, (Xb2.far (p := ⟨ba, 4, none⟩) hne' k4).far (p := ⟨ba, 3, none⟩) hne' k3, ?_, ?_⟩
  · intro B h1 h2
    exact ((bel_set6 (bel_set6 (Below.refl B wz) h1 rfl) h2 rfl).setCell h1 k4).setCell h1 k3
  · intro base s l h
    exact own_set1 (own_set1 (own_set6 (own_set6 h Xa a0 a1 a2 a3 a4 a5) Xb1 b0 b1 b2 b3 b4 b5) Xa2 4 k4) (Xa2.set 4 k4) 3 k3
theorem sp_world2 {w W : World} {b c : Nat} {a0 a1 a2 a3 a4 a5 b0 b1 b2 b3 b4 b5 u0 u1 u2 u3 u4 u5 v0 v1 v2 v3 v4 v5 : Value} (hne : b < c) (Xa : Bx w b #[u0, u1, u2, u3, u4, u5] 28) (Xb : Bx w c #[v0, v1, v2, v3, v4, v5] 28)
    (hW : ((((((((((((w.setCell ⟨b, 0, none⟩ a0).setCell ⟨b, 1, none⟩ a1).setCell ⟨b, 2, none⟩ a2).setCell ⟨b, 3, none⟩ a3).setCell ⟨b, 4, none⟩ a4).setCell ⟨b, 5, none⟩ a5).setCell ⟨c, 0, none⟩ b0).setCell ⟨c, 1, none⟩ b1).setCell ⟨c, 2, none⟩ b2).setCell ⟨c, 3, none⟩ b3).setCell ⟨c, 4, none⟩ b4).setCell ⟨c, 5, none⟩ b5) = W) :
    Bx W b #[a0, a1, a2, a3, a4, a5] 28 ∧ Bx W c #[b0, b1, b2, b3, b4, b5] 28 ∧ (∀ B, B ≤ b → B ≤ c → Below B w W) ∧ (∀ base s l, OwN w base s l → OwN W base s l) := by
  have Xa1 := Xa.set6 (v0 := a0) (v1 := a1) (v2 := a2) (v3 := a3) (v4 := a4) (v5 := a5) rfl
  have hcb : ¬ c = b := by omega
  have hbc : ¬ b = c := by omega
  have Xb1 := Xb.far6 (b := b) hcb a0 a1 a2 a3 a4 a5
  subst hW
  refine ⟨Xa1.far6 (b := c) hbc b0 b1 b2 b3 b4 b5, Xb1.set6 rfl, ?_, ?_⟩
  · intro B h1 h2
    exact bel_set6 (bel_set6 (Below.refl B w) h1 rfl) h2 rfl
  · intro base s l h
    exact own_set6 (own_set6 h Xa a0 a1 a2 a3 a4 a5) Xb1 b0 b1 b2 b3 b4 b5
theorem twelve {w : World} {ba bb t t' : Nat} {a0 a1 a2 a3 a4 a5 b0 b1 b2 b3 b4 b5 : Value} (h : Bx w ba #[a0, a1, a2, a3, a4, a5] t) (k : Bx w bb #[b0, b1, b2, b3, b4, b5] t') :
    w.cell? ⟨ba, 0, none⟩ = some a0 ∧ w.cell? ⟨ba, 1, none⟩ = some a1 ∧ w.cell? ⟨ba, 2, none⟩ = some a2 ∧ w.cell? ⟨ba, 3, none⟩ = some a3 ∧ w.cell? ⟨ba, 4, none⟩ = some a4 ∧ w.cell? ⟨ba, 5, none⟩ = some a5 ∧
    w.cell? ⟨bb, 0, none⟩ = some b0 ∧ w.cell? ⟨bb, 1, none⟩ = some b1 ∧ w.cell? ⟨bb, 2, none⟩ = some b2 ∧ w.cell? ⟨bb, 3, none⟩ = some b3 ∧ w.cell? ⟨bb, 4, none⟩ = some b4 ∧ w.cell? ⟨bb, 5, none⟩ = some b5 :=
  ⟨h.cell 0, h.cell 1, h.cell 2, h.cell 3, h.cell 4, h.cell 5, k.cell 0, k.cell 1, k.cell 2, k.cell 3, k.cell 4, k.cell 5⟩
theorem Fr3.over {w w1 w2 : World} {cs0 cs1 cs2 : Array Value} {t0 t1 t2 : Nat} (h : Fr3 w w1 cs0 t0 cs1 t1 cs2 t2) (hb : Below (w.heap.size + 1 + 1 + 1) w1 w2) : Fr3 w w2 cs0 t0 cs1 t1 cs2 t2 := by
  obtain ⟨h0, h1, h2, h3, h4⟩ := h
  exact ⟨h0.trans (hb.mono (by omega)), h1.below hb (by omega), h2.below hb (by omega), h3.below hb (by omega), Nat.lt_of_lt_of_le h4 hb.size⟩
theorem Fr3.lt_of_le {w w1 : World} {cs0 cs1 cs2 : Array Value} {t0 t1 t2 b : Nat} (h : Fr3 w w1 cs0 t0 cs1 t1 cs2 t2) (hb : w1.heap.size ≤ b) : w.heap.size + 1 + 1 + 1 ≤ b := by have := h.2.2.2.2; omega
set_option maxRecDepth 100000 in
set_option maxHeartbeats 1600000 in
theorem split_c (p : Pg) (right : Int) {s : Value} (w : World) (hs : Small p.es) (hr : RdN w s p.es) : Calls Try.prog 11 #[pgV p s, .int .i64 right] w (SpPost w p right) := by
  by_cases h1 : right < 1
  · obtain ⟨A, c, rfl, _⟩ := hr
    unfold pgV
    go_enter Try.func11, Try.ntmps11
    go_wp2_with fail
    refine bodyPost_ret (v := .tuple #[.agg #[.int .i64 0, .int .i64 0, .int .i64 0, .int .i64 0, .string ⟨#[]⟩, .slice none 0 0], .agg #[.int .i64 0, .int .i64 0, .int .i64 0, .int .i64 0, .string ⟨#[]⟩, .slice none 0 0], .int .i64 1]) (by simp [results, Try.results11, go_sem]) rfl (SpPost.no1 (Or.inl h1) ?_)
    repeat (first | exact Below.refl _ _ | assumption | refine Below.drew ?_ | refine Below.setCell ?_ (by simp <;> omega) _ | refine Below.alloc ?_ (by simp <;> omega) _)
  by_cases h2 : 65535 < right
  · obtain ⟨A, c, rfl, _⟩ := hr
    unfold pgV
    go_enter Try.func11, Try.ntmps11
    go_wp2_with fail
    refine bodyPost_ret (v := .tuple #[.agg #[.int .i64 0, .int .i64 0, .int .i64 0, .int .i64 0, .string ⟨#[]⟩, .slice none 0 0], .agg #[.int .i64 0, .int .i64 0, .int .i64 0, .int .i64 0, .string ⟨#[]⟩, .slice none 0 0], .int .i64 1]) (by simp [results, Try.results11, go_sem]) rfl (SpPost.no1 (Or.inr h2) ?_)
    repeat (first | exact Below.refl _ _ | assumption | refine Below.drew ?_ | refine Below.setCell ?_ (by simp <;> omega) _ | refine Below.alloc ?_ (by simp <;> omega) _)
  by_cases h3 : p.es.length < 2
  · obtain ⟨A, c, rfl, _⟩ := hr
    have h3' : (p.es.length : Int) < 2 := by omega
    unfold pgV
    go_enter Try.func11, Try.ntmps11
    go_wp2_with fail
    refine bodyPost_ret (v := .tuple #[.agg #[.int .i64 0, .int .i64 0, .int .i64 0, .int .i64 0, .string ⟨#[]⟩, .slice none 0 0], .agg #[.int .i64 0, .int .i64 0, .int .i64 0, .int .i64 0, .string ⟨#[]⟩, .slice none 0 0], .int .i64 17]) (by simp [results, Try.results11, go_sem]) rfl (SpPost.no17 (by omega) (by omega) h3 ?_)
    repeat (first | exact Below.refl _ _ | assumption | refine Below.drew ?_ | refine Below.setCell ?_ (by simp <;> omega) _ | refine Below.alloc ?_ (by simp <;> omega) _)
  have h3' : ¬ (p.es.length : Int) < 2 := by omega
  have HS := Lib.hid hs
  have HR := Lib.hid hr
  obtain ⟨A, c, rfl, hc, hm, hC⟩ := hr
  have HC := Lib.hid hC
  clear hs hm hC
  unfold pgV
  go_enter Try.func11, Try.ntmps11
  go_wp2_with fail
  have F0 := Fr3.start w #[.int .i64 p.lsn, .int .i64 p.kind, .int .i64 p.level, .int .i64 p.right, .string p.high, .slice A p.es.length c] 28 #[.int .i64 0, .int .i64 0, .int .i64 0, .int .i64 0, .string ⟨#[]⟩, .slice none 0 0] 28 #[.int .i64 0, .int .i64 0, .int .i64 0, .int .i64 0, .string ⟨#[]⟩, .slice none 0 0] 28
  generalize hw1 : World.alloc _ _ = w1 at F0 ⊢
  clear hw1
  have HC1 := Lib.hid (Kd.C_below HC.out F0.bel)
  have HL := Lib.hid HS.out.1
  go_loopw [7, 33] (fun v7 v33 wr => SpR1 p w1 v7 v33 wr) (fun _ i _ => p.es.length - (intOf i).toNat)
  case atStart => exact ⟨0, Nat.zero_le _, rfl, rfl, Below.refl _ _⟩
  case round =>
    obtain ⟨k, hk, rfl, rfl, hbw⟩ := hrel
    by_cases hlt : k < p.es.length
    · obtain ⟨x, hx⟩ : ∃ y, p.es[k]? = some y := ⟨p.es[k], by simp [hlt]⟩
      have hlt' : (k : Int) < (p.es.length : Int) := by omega
      obtain ⟨ad, hA, a0, a1, a2⟩ := at_T44 (Kd.C_below HC1.out hbw) (k : Int) (by omega) (by rw [List.length_map]; exact hlt')
      rw [rd44 hx] at a0 a1 a2
      rw [Int.toNat_natCast] at a0 a1 a2
      change wr.cell? _ = some (Value.string x.k) at a0
      change wr.cell? _ = some (Value.string x.v) at a1
      change wr.cell? _ = some (Value.bool x.m) at a2
      have HX := Lib.hid hx
      clear hx
      subst hA
      have hxs : Hid (x.k.size ≤ 1000 ∧ x.v.size ≤ 1000) := HS.out.2 x (List.mem_of_getElem? HX.out)
      go_wp2_with fail
      refine (size_c (e := x) hxs.out).mono ?_
      rintro _ w2 ⟨rfl, hb2⟩
      go_wp2_with fail
      have hL := HL.out
      go_roundw
      case rel => exact ⟨k + 1, hlt, rt_next hlt (Nat.le_trans hL (by decide)), sp_add HS.out HX.out, hbw.trans ((((Below.refl _ _).alloc (Nat.le_refl _) _).trans (hb2.mono (by simp))).mono hbw.size)⟩
      case measure => exact rt_measure hlt (Nat.le_trans hL (by decide))
    · have hkl : k = p.es.length := by omega
      have hlt' : ¬ (k : Int) < (p.es.length : Int) := by omega
      obtain ⟨n, hn⟩ : ∃ n, p.es.length = n + 1 := ⟨p.es.length - 1, by omega⟩
      have HK := Lib.hid hkl
      have HN := Lib.hid hn
      have hnw : IntKind.i64.wrap ((p.es.length : Int) - 1) = (n : Int) := by rw [IntKind.wrap_i64]; have := HL.out; omega
      clear hn hkl
      have F1 := F0.below hbw
      have hc5 := F1.b0.cell 5
      go_wp2_with fail
      obtain ⟨wo, rfl⟩ : ∃ wo, wo = wr := ⟨_, rfl⟩
      go_loopw [7, 10, 11] (fun v7 v10 v11 wr => SpR2 p w1 v7 v10 v11 wr) (fun _ _ i _ => p.es.length - (intOf i).toNat)
      case atStart => exact ⟨0, Nat.zero_le _, rfl, rfl, by rw [HK.out, List.take_length]; rfl, fun j hj => absurd hj (by omega), hbw⟩
      case round =>
        obtain ⟨i, hi, rfl, rfl, rfl, hcu, hbw2⟩ := hrel
        have HCU := Lib.hid hcu
        clear hcu
        have F2 := F0.below hbw2
        obtain ⟨c0, c1, c2, c3, c4, c5⟩ := F2.b0.six
        have hi' : i ≤ n := by have := HN.out; omega
        have hnl : n + 1 = p.es.length := by have := HN.out; omega
        rcases Nat.lt_or_ge i n with hin | hin
        · have hin' : (i : Int) < (n : Int) := by omega
          rcases Nat.eq_zero_or_pos i with hi0 | hi0
          · have hz : ((i : Int) == 0) = true := by simp [hi0]
            have HI0 := Lib.hid hi0
            clear hi0
            obtain ⟨x, hx⟩ : ∃ y, p.es[i]? = some y := ⟨p.es[i]'(by omega), List.getElem?_eq_getElem (by omega)⟩
            have hlt3 : (i : Int) < (p.es.length : Int) := by omega
            obtain ⟨ad, hA, a0, a1, a2⟩ := at_T44 (Kd.C_below HC1.out hbw2) (i : Int) (by omega) (by rw [List.length_map]; exact hlt3)
            rw [rd44 hx] at a0 a1 a2
            rw [Int.toNat_natCast] at a0 a1 a2
            change wr.cell? _ = some (Value.string x.k) at a0
            change wr.cell? _ = some (Value.string x.v) at a1
            change wr.cell? _ = some (Value.bool x.m) at a2
            have HX := Lib.hid hx
            clear hx
            subst hA
            have hxs : Hid (x.k.size ≤ 1000 ∧ x.v.size ≤ 1000) := HS.out.2 x (List.mem_of_getElem? HX.out)
            have hc5 := c5
            go_wp2_with fail
            refine (size_c (e := x) hxs.out).mono ?_
            rintro _ w2 ⟨rfl, hb2⟩
            have a0' := old hb2 a0
            have a1' := old hb2 a1
            have a2' := old hb2 a2
            have c5' := old hb2 c5
            go_wp2_with fail
            refine (size_c (e := x) hxs.out).mono ?_
            rintro _ w3 ⟨rfl, hb3⟩
            go_wp2_with fail
            have hL := HL.out
            go_roundw
            case rel => exact ⟨i + 1, by omega, rt_next (n := p.es.length) (by omega) (Nat.le_trans hL (by decide)), sp_add HS.out HX.out, sp_sub HS.out HX.out, cut_next HCU.out (Or.inl HI0.out), hbw2.trans ((hb2.trans (hb3.mono hb2.size)).mono hbw2.size)⟩
            case measure => exact rt_measure (n := p.es.length) (by omega) (Nat.le_trans hL (by decide))
          have hz : ((i : Int) == 0) = false := by simp; omega
          rcases Nat.lt_or_ge (sizes (p.es.take i)) (sizes (p.es.drop i)) with hsz | hsz
          · have hsz' : ((sizes (p.es.take i) : Nat) : Int) < ((sizes (p.es.drop i) : Nat) : Int) := by omega
            obtain ⟨x, hx⟩ : ∃ y, p.es[i]? = some y := ⟨p.es[i]'(by omega), List.getElem?_eq_getElem (by omega)⟩
            have hlt3 : (i : Int) < (p.es.length : Int) := by omega
            obtain ⟨ad, hA, a0, a1, a2⟩ := at_T44 (Kd.C_below HC1.out hbw2) (i : Int) (by omega) (by rw [List.length_map]; exact hlt3)
            rw [rd44 hx] at a0 a1 a2
            rw [Int.toNat_natCast] at a0 a1 a2
            change wr.cell? _ = some (Value.string x.k) at a0
            change wr.cell? _ = some (Value.string x.v) at a1
            change wr.cell? _ = some (Value.bool x.m) at a2
            have HX := Lib.hid hx
            clear hx
            subst hA
            have hxs : Hid (x.k.size ≤ 1000 ∧ x.v.size ≤ 1000) := HS.out.2 x (List.mem_of_getElem? HX.out)
            have hc5 := c5
            go_wp2_with fail
            refine (size_c (e := x) hxs.out).mono ?_
            rintro _ w2 ⟨rfl, hb2⟩
            have a0' := old hb2 a0
            have a1' := old hb2 a1
            have a2' := old hb2 a2
            have c5' := old hb2 c5
            go_wp2_with fail
            refine (size_c (e := x) hxs.out).mono ?_
            rintro _ w3 ⟨rfl, hb3⟩
            go_wp2_with fail
            have hL := HL.out
            go_roundw
            case rel => exact ⟨i + 1, by omega, rt_next (n := p.es.length) (by omega) (Nat.le_trans hL (by decide)), sp_add HS.out HX.out, sp_sub HS.out HX.out, cut_next HCU.out (Or.inr hsz), hbw2.trans ((hb2.trans (hb3.mono hb2.size)).mono hbw2.size)⟩
            case measure => exact rt_measure (n := p.es.length) (by omega) (Nat.le_trans hL (by decide))
          have hsz' : ¬ ((sizes (p.es.take i) : Nat) : Int) < ((sizes (p.es.drop i) : Nat) : Int) := by omega
          have HCT : Hid (IsCut p.es i) := ⟨hi, HCU.out, fun h => by rcases h.2 with h | h <;> omega⟩
          go_wp2_with fail
          obtain ⟨x, hx⟩ : ∃ y, p.es[i]? = some y := ⟨p.es[i]'(by omega), List.getElem?_eq_getElem (by omega)⟩
          have HX := Lib.hid hx
          clear hx
          have hci : ¬ c = i := by omega
          have hi0' : (0 : Int) ≤ (i : Int) := by omega
          have hi1' : (i : Int) ≤ (p.es.length : Int) := by omega
          have hi2' : (i : Int) ≤ (c : Int) := by omega
          have HCr := Lib.hid (Kd.C_below HC1.out hbw2)
          obtain ⟨La, hLa⟩ : ∃ L, L = p.es.take i := ⟨_, rfl⟩
          obtain ⟨Lb, hLb⟩ : ∃ L, L = p.es.drop i := ⟨_, rfl⟩
          have RA : Hid (RdN wr.drew (.slice A i c) La) := by rw [hLa]; exact rdN_take (HR.out.below (F0.below hbw2).drew.bel) (by omega)
          have RB : Hid (RdN wr.drew (.slice (A.map (·.add (i * 3))) (p.es.length - i) (c - i)) Lb) := by rw [hLb]; exact rdN_drop (HR.out.below (F0.below hbw2).drew.bel) (by omega) hci
          have NA : Hid (La.length ≤ 1000) := by rw [hLa, List.length_take]; have := HL.out; unfold Hid; omega
          have NB : Hid (Lb.length ≤ 1000) := by rw [hLb, List.length_drop]; have := HL.out; unfold Hid; omega
          have HLa := Lib.hid hLa
          have HLb := Lib.hid hLb
          clear hLa hLb
          have F2d := F2.drew
          refine Ty.wp_region_ty 16 (by kernel_rfl) (by kernel_rfl) ?_
          simp only [List.take_succ_cons, List.take_zero, List.drop_succ_cons, List.drop_zero]
          refine Ty.pure_ ?_ (fun _ => by rfl) (fun vs wv hb => ?_) ?_
          rotate_left
          · obtain ⟨c0, c1, c2, c3, c4, c5⟩ := (F2d.below hb).b0.six
            go_simp
            first | done | rfl
          simp only [Act.put, List.setIfInBounds_toArray, List.set_cons_zero, List.set_cons_succ, List.nil_append, List.cons_append, List.length_nil, List.length_cons, Nat.zero_add]
          refine Ty.pure_ ?_ (fun _ => by rfl) (fun vs wv hb => ?_) ?_
          rotate_left
          · obtain ⟨c0, c1, c2, c3, c4, c5⟩ := (F2d.below hb).b0.six
            go_simp
            first | done | rfl
          simp only [Act.put, List.setIfInBounds_toArray, List.set_cons_zero, List.set_cons_succ, List.nil_append, List.cons_append, List.length_nil, List.length_cons, Nat.zero_add]
          refine Ty.pure_ ?_ (fun _ => by rfl) (fun vs wv hb => ?_) ?_
          rotate_left
          · obtain ⟨c0, c1, c2, c3, c4, c5⟩ := (F2d.below hb).b0.six
            go_simp
            first | done | rfl
          simp only [Act.put, List.setIfInBounds_toArray, List.set_cons_zero, List.set_cons_succ, List.nil_append, List.cons_append, List.length_nil, List.length_cons, Nat.zero_add]
          refine Ty.pure_ ?_ (fun _ => by rfl) (fun vs wv hb => ?_) ?_
          rotate_left
          · obtain ⟨c0, c1, c2, c3, c4, c5⟩ := (F2d.below hb).b0.six
            go_simp
            first | done | rfl
          simp only [Act.put, List.setIfInBounds_toArray, List.set_cons_zero, List.set_cons_succ, List.nil_append, List.cons_append, List.length_nil, List.length_cons, Nat.zero_add]
          refine Ty.pure_ ?_ (fun _ => by rfl) (fun vs wv hb => ?_) ?_
          rotate_left
          · obtain ⟨c0, c1, c2, c3, c4, c5⟩ := (F2d.below hb).b0.six
            go_simp
            first | done | rfl
          simp only [Act.put, List.setIfInBounds_toArray, List.set_cons_zero, List.set_cons_succ, List.nil_append, List.cons_append, List.length_nil, List.length_cons, Nat.zero_add]
          refine Ty.call_ (fun v w' => OwN w' wr.drew.heap.size v La) (fun v w w' hb h => Kd.R_below h hb) (fun _ => by rfl) (fun vs wv hb hd => ?_) ?_
          · unfold Ty.tyAt
            go_simp
            simp only [Ty.tyUpon]
            refine (clone_c (l := La) NA.out (RA.out.below hb)).mono ?_
            rintro _ g1 ⟨v1, rfl, hO1, hg1⟩
            exact ⟨v1, rfl, hg1, Kd.R_lower hO1 hb.size⟩
          simp only [Act.put, List.setIfInBounds_toArray, List.set_cons_zero, List.set_cons_succ, List.nil_append, List.cons_append, List.length_nil, List.length_cons, Nat.zero_add]
          refine Ty.call_ (fun v w' => ∃ s, v = pgV p s ∧ OwN w' wr.drew.heap.size s La) (fun v w w' hb h => ⟨h.choose, h.choose_spec.1, Kd.R_below h.choose_spec.2 hb⟩) (fun _ => by rfl) (fun vs wv hb hd => ?_) ?_
          · have h5 : OwN wv wr.drew.heap.size (vs 5) La := hd.get 1 rfl rfl rfl
            unfold Ty.tyAt
            go_simp
            simp only [Ty.tyUpon]
            refine (with_c p wv (HR.out.below (F2d.below hb).bel) h5.rd).mono ?_
            rintro _ g1 ⟨rfl, hg1⟩
            exact ⟨_, rfl, hg1, vs 5, rfl, Kd.R_below h5 hg1⟩
          simp only [Act.put, List.setIfInBounds_toArray, List.set_cons_zero, List.set_cons_succ, List.nil_append, List.cons_append, List.length_nil, List.length_cons, Nat.zero_add]
          refine Ty.pure_ ?_ (fun _ => by rfl) (fun vs wv hb => ?_) ?_
          rotate_left
          · obtain ⟨c0, c1, c2, c3, c4, c5⟩ := (F2d.below hb).b0.six
            go_simp
            first | done | rfl
          simp only [Act.put, List.setIfInBounds_toArray, List.set_cons_zero, List.set_cons_succ, List.nil_append, List.cons_append, List.length_nil, List.length_cons, Nat.zero_add]
          refine Ty.pure_ ?_ (fun _ => by rfl) (fun vs wv hb => ?_) ?_
          rotate_left
          · obtain ⟨c0, c1, c2, c3, c4, c5⟩ := (F2d.below hb).b0.six
            go_simp
            first | done | rfl
          simp only [Act.put, List.setIfInBounds_toArray, List.set_cons_zero, List.set_cons_succ, List.nil_append, List.cons_append, List.length_nil, List.length_cons, Nat.zero_add]
          refine Ty.pure_ ?_ (fun _ => by rfl) (fun vs wv hb => ?_) ?_
          rotate_left
          · obtain ⟨c0, c1, c2, c3, c4, c5⟩ := (F2d.below hb).b0.six
            go_simp
            first | done | rfl
          simp only [Act.put, List.setIfInBounds_toArray, List.set_cons_zero, List.set_cons_succ, List.nil_append, List.cons_append, List.length_nil, List.length_cons, Nat.zero_add]
          refine Ty.pure_ ?_ (fun _ => by rfl) (fun vs wv hb => ?_) ?_
          rotate_left
          · obtain ⟨c0, c1, c2, c3, c4, c5⟩ := (F2d.below hb).b0.six
            go_simp
            first | done | rfl
          simp only [Act.put, List.setIfInBounds_toArray, List.set_cons_zero, List.set_cons_succ, List.nil_append, List.cons_append, List.length_nil, List.length_cons, Nat.zero_add]
          refine Ty.pure_ ?_ (fun _ => by rfl) (fun vs wv hb => ?_) ?_
          rotate_left
          · obtain ⟨c0, c1, c2, c3, c4, c5⟩ := (F2d.below hb).b0.six
            go_simp
            first | done | rfl
          simp only [Act.put, List.setIfInBounds_toArray, List.set_cons_zero, List.set_cons_succ, List.nil_append, List.cons_append, List.length_nil, List.length_cons, Nat.zero_add]
          refine Ty.call_ (fun v w' => OwN w' wr.drew.heap.size v Lb) (fun v w w' hb h => Kd.R_below h hb) (fun _ => by rfl) (fun vs wv hb hd => ?_) ?_
          · unfold Ty.tyAt
            go_simp
            simp only [Ty.tyUpon]
            refine (clone_c (l := Lb) NB.out (RB.out.below hb)).mono ?_
            rintro _ g1 ⟨v1, rfl, hO1, hg1⟩
            exact ⟨v1, rfl, hg1, Kd.R_lower hO1 hb.size⟩
          simp only [Act.put, List.setIfInBounds_toArray, List.set_cons_zero, List.set_cons_succ, List.nil_append, List.cons_append, List.length_nil, List.length_cons, Nat.zero_add]
          refine Ty.call_ (fun v w' => ∃ s, v = pgV p s ∧ OwN w' wr.drew.heap.size s Lb) (fun v w w' hb h => ⟨h.choose, h.choose_spec.1, Kd.R_below h.choose_spec.2 hb⟩) (fun _ => by rfl) (fun vs wv hb hd => ?_) ?_
          · have h5 : OwN wv wr.drew.heap.size (vs 12) Lb := hd.get 1 rfl rfl rfl
            unfold Ty.tyAt
            go_simp
            simp only [Ty.tyUpon]
            refine (with_c p wv (HR.out.below (F2d.below hb).bel) h5.rd).mono ?_
            rintro _ g1 ⟨rfl, hg1⟩
            exact ⟨_, rfl, hg1, vs 12, rfl, Kd.R_below h5 hg1⟩
          simp only [Act.put, List.setIfInBounds_toArray, List.set_cons_zero, List.set_cons_succ, List.nil_append, List.cons_append, List.length_nil, List.length_cons, Nat.zero_add]
          refine Ty.alloc_ pzV 28 (fun _ => by rfl) (fun vs wv => ?_) ?_
          · unfold pzV
            go_simp
          simp only [Act.put, List.setIfInBounds_toArray, List.set_cons_zero, List.set_cons_succ, List.nil_append, List.cons_append, List.length_nil, List.length_cons, Nat.zero_add]
          refine Ty.alloc_ pzV 28 (fun _ => by rfl) (fun vs wv => ?_) ?_
          · unfold pzV
            go_simp
          simp only [Act.put, List.setIfInBounds_toArray, List.set_cons_zero, List.set_cons_succ, List.nil_append, List.cons_append, List.length_nil, List.length_cons, Nat.zero_add]
          intro vs wz hbz hG hAp
          obtain ⟨sa, e6, ra⟩ := hG 6 _ rfl
          obtain ⟨sb, e13, rb⟩ := hG 13 _ rfl
          obtain ⟨ba, e14, l14, x14⟩ := hG 14 _ rfl
          obtain ⟨bb, e15, l15, x15⟩ := hG 15 _ rfl
          have hne := hAp 14 15 _ _ (by decide) rfl rfl rfl rfl
          clear hG hAp
          rw [e14, e15] at hne
          simp only [e6, e13, e14, e15]
          clear e6 e13 e14 e15
          generalize vs 5 = u5
          generalize vs 12 = u12
          clear vs
          change ba ≠ bb at hne
          have hne2 : ¬ ba = bb := hne
          have hne3 : ¬ bb = ba := fun h => hne h.symm
          clear hne
          have Xa : Bx wz ba pzV 28 := x14
          have Xb : Bx wz bb pzV 28 := x15
          clear x14 x15
          have hxb : Hid (Lb[0]? = some x) := by unfold Hid; rw [HLb.out, List.getElem?_drop]; exact HX.out
          have hlb : 0 < Lb.length := by have := hxb.out; cases hl : Lb with
            | nil => rw [hl] at this; cases this
            | cons _ _ => simp
          obtain ⟨g, cap, rfl, hg, hcap⟩ := own_form rb hlb
          have hga := Kd.R_ne rb Xa (by decide)
          have hgb := Kd.R_ne rb Xb (by decide)
          have hg1 : ¬ ba = g := fun h => hga (by rw [h]; rfl)
          have hg2 : ¬ g = ba := fun h => hga (by rw [h]; rfl)
          have hg3 : ¬ bb = g := fun h => hgb (by rw [h]; rfl)
          have hg4 : ¬ g = bb := fun h => hgb (by rw [h]; rfl)
          clear hga hgb
          obtain ⟨ad, hAd, a0, a1, a2⟩ := at_T44 (kC_of_rd rb.rd) ((0 : Nat) : Int) (by omega) (by rw [List.length_map]; omega)
          obtain rfl : (⟨g, 0, none⟩ : Addr) = ad := by injection hAd
          rw [rd44 hxb.out] at a0
          change wz.cell? ⟨g, 0 + 0 * 3, none⟩ = some (Value.string x.k) at a0
          clear hAd a1 a2
          obtain ⟨z0, z1, z2, z3, z4, z5⟩ := Bx.six Xa
          obtain ⟨y0, y1, y2, y3, y4, y5⟩ := Bx.six Xb
          obtain ⟨zf0, zf1, zf2, zf3, zf4, zf5⟩ := Bx.six_free Xa
          obtain ⟨yf0, yf1, yf2, yf3, yf4, yf5⟩ := Bx.six_free Xb
          obtain ⟨Aa, ca, rfl, _⟩ := ra.rd
          unfold pgV
          go_wp2_with fail
          generalize hW : World.setCell _ _ _ = W
          obtain ⟨Wa, Wb, hBW, hOW⟩ := sp_world hne2 hne3 Xa Xb hW
          have oa := hOW _ _ _ ra
          have ob := hOW _ _ _ rb
          have FW := (F2d.below hbz).over (hBW _ (F2d.lt_of_le l14) (F2d.lt_of_le l15))
          clear hW hBW hOW z0 z1 z2 z3 z4 z5 y0 y1 y2 y3 y4 y5 zf0 zf1 zf2 zf3 zf4 zf5 yf0 yf1 yf2 yf3 yf4 yf5 a0 Xa Xb ra rb
          have ga1 : ¬ ba = w.heap.size + 1 := by have := F2d.lt_of_le l14; omega
          have ga2 : ¬ ba = w.heap.size + 1 + 1 := by have := F2d.lt_of_le l14; omega
          have gb1 : ¬ bb = w.heap.size + 1 := by have := F2d.lt_of_le l15; omega
          have gb2 : ¬ bb = w.heap.size + 1 + 1 := by have := F2d.lt_of_le l15; omega
          obtain ⟨z0, z1, z2, z3, z4, z5⟩ := Bx.six FW.b1
          obtain ⟨y0, y1, y2, y3, y4, y5⟩ := Bx.six FW.b2
          obtain ⟨zf0, zf1, zf2, zf3, zf4, zf5⟩ := Bx.six_free FW.b1
          obtain ⟨yf0, yf1, yf2, yf3, yf4, yf5⟩ := Bx.six_free FW.b2
          have hz12 : ¬ w.heap.size + 1 = w.heap.size + 1 + 1 := by omega
          have hz21 : ¬ w.heap.size + 1 + 1 = w.heap.size + 1 := by omega
          go_region_held3 (fun w' => w'.cell? ⟨ba, 0, none⟩ = some (.int .i64 p.lsn) ∧ w'.cell? ⟨ba, 1, none⟩ = some (.int .i64 p.kind) ∧ w'.cell? ⟨ba, 2, none⟩ = some (.int .i64 p.level) ∧ w'.cell? ⟨ba, 3, none⟩ = some (.int .i64 right) ∧ w'.cell? ⟨ba, 4, none⟩ = some (.string x.k) ∧ w'.cell? ⟨ba, 5, none⟩ = some (.slice Aa La.length ca) ∧
              w'.cell? ⟨bb, 0, none⟩ = some (.int .i64 p.lsn) ∧ w'.cell? ⟨bb, 1, none⟩ = some (.int .i64 p.kind) ∧ w'.cell? ⟨bb, 2, none⟩ = some (.int .i64 p.level) ∧ w'.cell? ⟨bb, 3, none⟩ = some (.int .i64 p.right) ∧ w'.cell? ⟨bb, 4, none⟩ = some (.string p.high) ∧ w'.cell? ⟨bb, 5, none⟩ = some (.slice (some ⟨g, 0, none⟩) Lb.length cap))
            (first | with_reducible exact twelve Wa Wb | with_reducible exact twelve (Bx.drew Wa) (Bx.drew Wb) | with_reducible exact twelve (Wa.far6 ga1 _ _ _ _ _ _) (Wb.far6 gb1 _ _ _ _ _ _) | with_reducible exact twelve (Bx.drew (Wa.far6 ga1 _ _ _ _ _ _)) (Bx.drew (Wb.far6 gb1 _ _ _ _ _ _)) | with_reducible exact twelve ((Wa.far6 ga1 _ _ _ _ _ _).far6 ga2 _ _ _ _ _ _) ((Wb.far6 gb1 _ _ _ _ _ _).far6 gb2 _ _ _ _ _ _) | with_reducible exact twelve (Bx.drew ((Wa.far6 ga1 _ _ _ _ _ _).far6 ga2 _ _ _ _ _ _)) (Bx.drew ((Wb.far6 gb1 _ _ _ _ _ _).far6 gb2 _ _ _ _ _ _))) (fail)
          go_wp2_with fail
          generalize hW2 : World.setCell _ _ _ = W2
          obtain ⟨V1, V2, hB2, hO2⟩ := sp_world2 (by omega) FW.b1 FW.b2 hW2
          have oa2 := hO2 _ _ _ oa
          have ob2 := hO2 _ _ _ ob
          have hbel := FW.bel.trans (hB2 w.heap.size (by omega) (by omega))
          obtain ⟨x0, x1, x2, x3, x4, x5⟩ := Bx.six V1
          obtain ⟨v0, v1, v2, v3, v4, v5⟩ := Bx.six V2
          clear hW2 hB2 hO2
          refine bodyPost_ret (v := .tuple #[.agg #[.int .i64 p.lsn, .int .i64 p.kind, .int .i64 p.level, .int .i64 right, .string x.k, .slice Aa La.length ca], .agg #[.int .i64 p.lsn, .int .i64 p.kind, .int .i64 p.level, .int .i64 p.right, .string p.high, .slice (some ⟨g, 0, none⟩) Lb.length cap], .int .i64 0]) (by simp [results, Try.results11, go_sem, x0, x1, x2, x3, x4, x5, v0, v1, v2, v3, v4, v5]) rfl ?_
          refine ⟨cutA p i right x.k, cutB p i, _, _, 0, rfl, ?_, ?_, hbel.drew, Or.inr (Or.inr ⟨by omega, by omega, by omega, rfl, i, x, HCT.out, HX.out, rfl, rfl⟩)⟩
          · have h := oa2.rd
            rw [HLa.out] at h
            rw [HLa.out]
            exact h
          · have h := ob2.rd
            rw [HLb.out] at h
            rw [HLb.out]
            exact h
        · have hin' : ¬ (i : Int) < (n : Int) := by omega
          have HCT : Hid (IsCut p.es i) := ⟨hi, HCU.out, fun h => by omega⟩
          go_wp2_with fail
          obtain ⟨x, hx⟩ : ∃ y, p.es[i]? = some y := ⟨p.es[i]'(by omega), List.getElem?_eq_getElem (by omega)⟩
          have HX := Lib.hid hx
          clear hx
          have hci : ¬ c = i := by omega
          have hi0' : (0 : Int) ≤ (i : Int) := by omega
          have hi1' : (i : Int) ≤ (p.es.length : Int) := by omega
          have hi2' : (i : Int) ≤ (c : Int) := by omega
          have HCr := Lib.hid (Kd.C_below HC1.out hbw2)
          obtain ⟨La, hLa⟩ : ∃ L, L = p.es.take i := ⟨_, rfl⟩
          obtain ⟨Lb, hLb⟩ : ∃ L, L = p.es.drop i := ⟨_, rfl⟩
          have RA : Hid (RdN wr.drew (.slice A i c) La) := by rw [hLa]; exact rdN_take (HR.out.below (F0.below hbw2).drew.bel) (by omega)
          have RB : Hid (RdN wr.drew (.slice (A.map (·.add (i * 3))) (p.es.length - i) (c - i)) Lb) := by rw [hLb]; exact rdN_drop (HR.out.below (F0.below hbw2).drew.bel) (by omega) hci
          have NA : Hid (La.length ≤ 1000) := by rw [hLa, List.length_take]; have := HL.out; unfold Hid; omega
          have NB : Hid (Lb.length ≤ 1000) := by rw [hLb, List.length_drop]; have := HL.out; unfold Hid; omega
          have HLa := Lib.hid hLa
          have HLb := Lib.hid hLb
          clear hLa hLb
          have F2d := F2.drew
          refine Ty.wp_region_ty 16 (by kernel_rfl) (by kernel_rfl) ?_
          simp only [List.take_succ_cons, List.take_zero, List.drop_succ_cons, List.drop_zero]
          refine Ty.pure_ ?_ (fun _ => by rfl) (fun vs wv hb => ?_) ?_
          rotate_left
          · obtain ⟨c0, c1, c2, c3, c4, c5⟩ := (F2d.below hb).b0.six
            go_simp
            first | done | rfl
          simp only [Act.put, List.setIfInBounds_toArray, List.set_cons_zero, List.set_cons_succ, List.nil_append, List.cons_append, List.length_nil, List.length_cons, Nat.zero_add]
          refine Ty.pure_ ?_ (fun _ => by rfl) (fun vs wv hb => ?_) ?_
          rotate_left
          · obtain ⟨c0, c1, c2, c3, c4, c5⟩ := (F2d.below hb).b0.six
            go_simp
            first | done | rfl
          simp only [Act.put, List.setIfInBounds_toArray, List.set_cons_zero, List.set_cons_succ, List.nil_append, List.cons_append, List.length_nil, List.length_cons, Nat.zero_add]
          refine Ty.pure_ ?_ (fun _ => by rfl) (fun vs wv hb => ?_) ?_
          rotate_left
          · obtain ⟨c0, c1, c2, c3, c4, c5⟩ := (F2d.below hb).b0.six
            go_simp
            first | done | rfl
          simp only [Act.put, List.setIfInBounds_toArray, List.set_cons_zero, List.set_cons_succ, List.nil_append, List.cons_append, List.length_nil, List.length_cons, Nat.zero_add]
          refine Ty.pure_ ?_ (fun _ => by rfl) (fun vs wv hb => ?_) ?_
          rotate_left
          · obtain ⟨c0, c1, c2, c3, c4, c5⟩ := (F2d.below hb).b0.six
            go_simp
            first | done | rfl
          simp only [Act.put, List.setIfInBounds_toArray, List.set_cons_zero, List.set_cons_succ, List.nil_append, List.cons_append, List.length_nil, List.length_cons, Nat.zero_add]
          refine Ty.pure_ ?_ (fun _ => by rfl) (fun vs wv hb => ?_) ?_
          rotate_left
          · obtain ⟨c0, c1, c2, c3, c4, c5⟩ := (F2d.below hb).b0.six
            go_simp
            first | done | rfl
          simp only [Act.put, List.setIfInBounds_toArray, List.set_cons_zero, List.set_cons_succ, List.nil_append, List.cons_append, List.length_nil, List.length_cons, Nat.zero_add]
          refine Ty.call_ (fun v w' => OwN w' wr.drew.heap.size v La) (fun v w w' hb h => Kd.R_below h hb) (fun _ => by rfl) (fun vs wv hb hd => ?_) ?_
          · unfold Ty.tyAt
            go_simp
            simp only [Ty.tyUpon]
            refine (clone_c (l := La) NA.out (RA.out.below hb)).mono ?_
            rintro _ g1 ⟨v1, rfl, hO1, hg1⟩
            exact ⟨v1, rfl, hg1, Kd.R_lower hO1 hb.size⟩
          simp only [Act.put, List.setIfInBounds_toArray, List.set_cons_zero, List.set_cons_succ, List.nil_append, List.cons_append, List.length_nil, List.length_cons, Nat.zero_add]
          refine Ty.call_ (fun v w' => ∃ s, v = pgV p s ∧ OwN w' wr.drew.heap.size s La) (fun v w w' hb h => ⟨h.choose, h.choose_spec.1, Kd.R_below h.choose_spec.2 hb⟩) (fun _ => by rfl) (fun vs wv hb hd => ?_) ?_
          · have h5 : OwN wv wr.drew.heap.size (vs 5) La := hd.get 1 rfl rfl rfl
            unfold Ty.tyAt
            go_simp
            simp only [Ty.tyUpon]
            refine (with_c p wv (HR.out.below (F2d.below hb).bel) h5.rd).mono ?_
            rintro _ g1 ⟨rfl, hg1⟩
            exact ⟨_, rfl, hg1, vs 5, rfl, Kd.R_below h5 hg1⟩
          simp only [Act.put, List.setIfInBounds_toArray, List.set_cons_zero, List.set_cons_succ, List.nil_append, List.cons_append, List.length_nil, List.length_cons, Nat.zero_add]
          refine Ty.pure_ ?_ (fun _ => by rfl) (fun vs wv hb => ?_) ?_
          rotate_left
          · obtain ⟨c0, c1, c2, c3, c4, c5⟩ := (F2d.below hb).b0.six
            go_simp
            first | done | rfl
          simp only [Act.put, List.setIfInBounds_toArray, List.set_cons_zero, List.set_cons_succ, List.nil_append, List.cons_append, List.length_nil, List.length_cons, Nat.zero_add]
          refine Ty.pure_ ?_ (fun _ => by rfl) (fun vs wv hb => ?_) ?_
          rotate_left
          · obtain ⟨c0, c1, c2, c3, c4, c5⟩ := (F2d.below hb).b0.six
            go_simp
            first | done | rfl
          simp only [Act.put, List.setIfInBounds_toArray, List.set_cons_zero, List.set_cons_succ, List.nil_append, List.cons_append, List.length_nil, List.length_cons, Nat.zero_add]
          refine Ty.pure_ ?_ (fun _ => by rfl) (fun vs wv hb => ?_) ?_
          rotate_left
          · obtain ⟨c0, c1, c2, c3, c4, c5⟩ := (F2d.below hb).b0.six
            go_simp
            first | done | rfl
          simp only [Act.put, List.setIfInBounds_toArray, List.set_cons_zero, List.set_cons_succ, List.nil_append, List.cons_append, List.length_nil, List.length_cons, Nat.zero_add]
          refine Ty.pure_ ?_ (fun _ => by rfl) (fun vs wv hb => ?_) ?_
          rotate_left
          · obtain ⟨c0, c1, c2, c3, c4, c5⟩ := (F2d.below hb).b0.six
            go_simp
            first | done | rfl
          simp only [Act.put, List.setIfInBounds_toArray, List.set_cons_zero, List.set_cons_succ, List.nil_append, List.cons_append, List.length_nil, List.length_cons, Nat.zero_add]
          refine Ty.pure_ ?_ (fun _ => by rfl) (fun vs wv hb => ?_) ?_
          rotate_left
          · obtain ⟨c0, c1, c2, c3, c4, c5⟩ := (F2d.below hb).b0.six
            go_simp
            first | done | rfl
          simp only [Act.put, List.setIfInBounds_toArray, List.set_cons_zero, List.set_cons_succ, List.nil_append, List.cons_append, List.length_nil, List.length_cons, Nat.zero_add]
          refine Ty.call_ (fun v w' => OwN w' wr.drew.heap.size v Lb) (fun v w w' hb h => Kd.R_below h hb) (fun _ => by rfl) (fun vs wv hb hd => ?_) ?_
          · unfold Ty.tyAt
            go_simp
            simp only [Ty.tyUpon]
            refine (clone_c (l := Lb) NB.out (RB.out.below hb)).mono ?_
            rintro _ g1 ⟨v1, rfl, hO1, hg1⟩
            exact ⟨v1, rfl, hg1, Kd.R_lower hO1 hb.size⟩
          simp only [Act.put, List.setIfInBounds_toArray, List.set_cons_zero, List.set_cons_succ, List.nil_append, List.cons_append, List.length_nil, List.length_cons, Nat.zero_add]
          refine Ty.call_ (fun v w' => ∃ s, v = pgV p s ∧ OwN w' wr.drew.heap.size s Lb) (fun v w w' hb h => ⟨h.choose, h.choose_spec.1, Kd.R_below h.choose_spec.2 hb⟩) (fun _ => by rfl) (fun vs wv hb hd => ?_) ?_
          · have h5 : OwN wv wr.drew.heap.size (vs 12) Lb := hd.get 1 rfl rfl rfl
            unfold Ty.tyAt
            go_simp
            simp only [Ty.tyUpon]
            refine (with_c p wv (HR.out.below (F2d.below hb).bel) h5.rd).mono ?_
            rintro _ g1 ⟨rfl, hg1⟩
            exact ⟨_, rfl, hg1, vs 12, rfl, Kd.R_below h5 hg1⟩
          simp only [Act.put, List.setIfInBounds_toArray, List.set_cons_zero, List.set_cons_succ, List.nil_append, List.cons_append, List.length_nil, List.length_cons, Nat.zero_add]
          refine Ty.alloc_ pzV 28 (fun _ => by rfl) (fun vs wv => ?_) ?_
          · unfold pzV
            go_simp
          simp only [Act.put, List.setIfInBounds_toArray, List.set_cons_zero, List.set_cons_succ, List.nil_append, List.cons_append, List.length_nil, List.length_cons, Nat.zero_add]
          refine Ty.alloc_ pzV 28 (fun _ => by rfl) (fun vs wv => ?_) ?_
          · unfold pzV
            go_simp
          simp only [Act.put, List.setIfInBounds_toArray, List.set_cons_zero, List.set_cons_succ, List.nil_append, List.cons_append, List.length_nil, List.length_cons, Nat.zero_add]
          intro vs wz hbz hG hAp
          obtain ⟨sa, e6, ra⟩ := hG 6 _ rfl
          obtain ⟨sb, e13, rb⟩ := hG 13 _ rfl
          obtain ⟨ba, e14, l14, x14⟩ := hG 14 _ rfl
          obtain ⟨bb, e15, l15, x15⟩ := hG 15 _ rfl
          have hne := hAp 14 15 _ _ (by decide) rfl rfl rfl rfl
          clear hG hAp
          rw [e14, e15] at hne
          simp only [e6, e13, e14, e15]
          clear e6 e13 e14 e15
          generalize vs 5 = u5
          generalize vs 12 = u12
          clear vs
          change ba ≠ bb at hne
          have hne2 : ¬ ba = bb := hne
          have hne3 : ¬ bb = ba := fun h => hne h.symm
          clear hne
          have Xa : Bx wz ba pzV 28 := x14
          have Xb : Bx wz bb pzV 28 := x15
          clear x14 x15
          have hxb : Hid (Lb[0]? = some x) := by unfold Hid; rw [HLb.out, List.getElem?_drop]; exact HX.out
          have hlb : 0 < Lb.length := by have := hxb.out; cases hl : Lb with
            | nil => rw [hl] at this; cases this
            | cons _ _ => simp
          obtain ⟨g, cap, rfl, hg, hcap⟩ := own_form rb hlb
          have hga := Kd.R_ne rb Xa (by decide)
          have hgb := Kd.R_ne rb Xb (by decide)
          have hg1 : ¬ ba = g := fun h => hga (by rw [h]; rfl)
          have hg2 : ¬ g = ba := fun h => hga (by rw [h]; rfl)
          have hg3 : ¬ bb = g := fun h => hgb (by rw [h]; rfl)
          have hg4 : ¬ g = bb := fun h => hgb (by rw [h]; rfl)
          clear hga hgb
          obtain ⟨ad, hAd, a0, a1, a2⟩ := at_T44 (kC_of_rd rb.rd) ((0 : Nat) : Int) (by omega) (by rw [List.length_map]; omega)
          obtain rfl : (⟨g, 0, none⟩ : Addr) = ad := by injection hAd
          rw [rd44 hxb.out] at a0
          change wz.cell? ⟨g, 0 + 0 * 3, none⟩ = some (Value.string x.k) at a0
          clear hAd a1 a2
          obtain ⟨z0, z1, z2, z3, z4, z5⟩ := Bx.six Xa
          obtain ⟨y0, y1, y2, y3, y4, y5⟩ := Bx.six Xb
          obtain ⟨zf0, zf1, zf2, zf3, zf4, zf5⟩ := Bx.six_free Xa
          obtain ⟨yf0, yf1, yf2, yf3, yf4, yf5⟩ := Bx.six_free Xb
          obtain ⟨Aa, ca, rfl, _⟩ := ra.rd
          unfold pgV
          go_wp2_with fail
          generalize hW : World.setCell _ _ _ = W
          obtain ⟨Wa, Wb, hBW, hOW⟩ := sp_world hne2 hne3 Xa Xb hW
          have oa := hOW _ _ _ ra
          have ob := hOW _ _ _ rb
          have FW := (F2d.below hbz).over (hBW _ (F2d.lt_of_le l14) (F2d.lt_of_le l15))
          clear hW hBW hOW z0 z1 z2 z3 z4 z5 y0 y1 y2 y3 y4 y5 zf0 zf1 zf2 zf3 zf4 zf5 yf0 yf1 yf2 yf3 yf4 yf5 a0 Xa Xb ra rb
          have ga1 : ¬ ba = w.heap.size + 1 := by have := F2d.lt_of_le l14; omega
          have ga2 : ¬ ba = w.heap.size + 1 + 1 := by have := F2d.lt_of_le l14; omega
          have gb1 : ¬ bb = w.heap.size + 1 := by have := F2d.lt_of_le l15; omega
          have gb2 : ¬ bb = w.heap.size + 1 + 1 := by have := F2d.lt_of_le l15; omega
          obtain ⟨z0, z1, z2, z3, z4, z5⟩ := Bx.six FW.b1
          obtain ⟨y0, y1, y2, y3, y4, y5⟩ := Bx.six FW.b2
          obtain ⟨zf0, zf1, zf2, zf3, zf4, zf5⟩ := Bx.six_free FW.b1
          obtain ⟨yf0, yf1, yf2, yf3, yf4, yf5⟩ := Bx.six_free FW.b2
          have hz12 : ¬ w.heap.size + 1 = w.heap.size + 1 + 1 := by omega
          have hz21 : ¬ w.heap.size + 1 + 1 = w.heap.size + 1 := by omega
          go_region_held3 (fun w' => w'.cell? ⟨ba, 0, none⟩ = some (.int .i64 p.lsn) ∧ w'.cell? ⟨ba, 1, none⟩ = some (.int .i64 p.kind) ∧ w'.cell? ⟨ba, 2, none⟩ = some (.int .i64 p.level) ∧ w'.cell? ⟨ba, 3, none⟩ = some (.int .i64 right) ∧ w'.cell? ⟨ba, 4, none⟩ = some (.string x.k) ∧ w'.cell? ⟨ba, 5, none⟩ = some (.slice Aa La.length ca) ∧
              w'.cell? ⟨bb, 0, none⟩ = some (.int .i64 p.lsn) ∧ w'.cell? ⟨bb, 1, none⟩ = some (.int .i64 p.kind) ∧ w'.cell? ⟨bb, 2, none⟩ = some (.int .i64 p.level) ∧ w'.cell? ⟨bb, 3, none⟩ = some (.int .i64 p.right) ∧ w'.cell? ⟨bb, 4, none⟩ = some (.string p.high) ∧ w'.cell? ⟨bb, 5, none⟩ = some (.slice (some ⟨g, 0, none⟩) Lb.length cap))
            (first | with_reducible exact twelve Wa Wb | with_reducible exact twelve (Bx.drew Wa) (Bx.drew Wb) | with_reducible exact twelve (Wa.far6 ga1 _ _ _ _ _ _) (Wb.far6 gb1 _ _ _ _ _ _) | with_reducible exact twelve (Bx.drew (Wa.far6 ga1 _ _ _ _ _ _)) (Bx.drew (Wb.far6 gb1 _ _ _ _ _ _)) | with_reducible exact twelve ((Wa.far6 ga1 _ _ _ _ _ _).far6 ga2 _ _ _ _ _ _) ((Wb.far6 gb1 _ _ _ _ _ _).far6 gb2 _ _ _ _ _ _) | with_reducible exact twelve (Bx.drew ((Wa.far6 ga1 _ _ _ _ _ _).far6 ga2 _ _ _ _ _ _)) (Bx.drew ((Wb.far6 gb1 _ _ _ _ _ _).far6 gb2 _ _ _ _ _ _))) (fail)
          go_wp2_with fail
          generalize hW2 : World.setCell _ _ _ = W2
          obtain ⟨V1, V2, hB2, hO2⟩ := sp_world2 (by omega) FW.b1 FW.b2 hW2
          have oa2 := hO2 _ _ _ oa
          have ob2 := hO2 _ _ _ ob
          have hbel := FW.bel.trans (hB2 w.heap.size (by omega) (by omega))
          obtain ⟨x0, x1, x2, x3, x4, x5⟩ := Bx.six V1
          obtain ⟨v0, v1, v2, v3, v4, v5⟩ := Bx.six V2
          clear hW2 hB2 hO2
          refine bodyPost_ret (v := .tuple #[.agg #[.int .i64 p.lsn, .int .i64 p.kind, .int .i64 p.level, .int .i64 right, .string x.k, .slice Aa La.length ca], .agg #[.int .i64 p.lsn, .int .i64 p.kind, .int .i64 p.level, .int .i64 p.right, .string p.high, .slice (some ⟨g, 0, none⟩) Lb.length cap], .int .i64 0]) (by simp [results, Try.results11, go_sem, x0, x1, x2, x3, x4, x5, v0, v1, v2, v3, v4, v5]) rfl ?_
          refine ⟨cutA p i right x.k, cutB p i, _, _, 0, rfl, ?_, ?_, hbel.drew, Or.inr (Or.inr ⟨by omega, by omega, by omega, rfl, i, x, HCT.out, HX.out, rfl, rfl⟩)⟩
          · have h := oa2.rd
            rw [HLa.out] at h
            rw [HLa.out]
            exact h
          · have h := ob2.rd
            rw [HLb.out] at h
            rw [HLb.out]
            exact h
end Go.Proofs.Ytldmhfpgcflplaa
