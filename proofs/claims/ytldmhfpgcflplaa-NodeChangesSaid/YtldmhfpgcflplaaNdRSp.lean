/-
  The reference's Split.
-/
import Derived.Test.YtldmhfpgcflplaaNdRRt
import Derived.Test.YtldmhfpgcflplaaNdSpk
set_option linter.unusedVariables false
set_option linter.unusedSimpArgs false
namespace Go.Proofs.Ytldmhfpgcflplaa
open Go Go.RowKit Go.Proofs.Ytldmhfpgcflplaa.PA Go.Proofs.YtldmhfpgcflplaaW.PrintWords NdP

def SpPostQ (w : World) (p : Pg) (right : Int) (x : Ending) (w' : World) : Prop :=
  ∃ (a b : Pg) (va vb : Value) (n : Int), x = .returned (.tuple #[pgV a va, pgV b vb, .int .i64 n]) ∧ RdQ w' va a.es ∧ RdQ w' vb b.es ∧ Below w.heap.size w w' ∧
    (((right < 1 ∨ 65535 < right) ∧ a = zero ∧ b = zero ∧ n = 1) ∨
     (1 ≤ right ∧ right ≤ 65535 ∧ p.es.length < 2 ∧ a = zero ∧ b = zero ∧ n = 17) ∨
     (1 ≤ right ∧ right ≤ 65535 ∧ 2 ≤ p.es.length ∧ n = 0 ∧ ∃ i e, IsCut p.es i ∧ p.es[i]? = some e ∧ a = cutA p i right e.k ∧ b = cutB p i))
theorem SpPostQ.no1 {w w' : World} {p : Pg} {right : Int} (h : right < 1 ∨ 65535 < right) (hb : Below w.heap.size w w') :
    SpPostQ w p right (.returned (.tuple #[.agg #[.int .i64 0, .int .i64 0, .int .i64 0, .int .i64 0, .string ⟨#[]⟩, .slice none 0 0], .agg #[.int .i64 0, .int .i64 0, .int .i64 0, .int .i64 0, .string ⟨#[]⟩, .slice none 0 0], .int .i64 1])) w' :=
  ⟨zero, zero, _, _, 1, rfl, rdQ_nil _, rdQ_nil _, hb, Or.inl ⟨h, rfl, rfl, rfl⟩⟩
theorem SpPostQ.no17 {w w' : World} {p : Pg} {right : Int} (h : 1 ≤ right) (h' : right ≤ 65535) (hl : p.es.length < 2) (hb : Below w.heap.size w w') :
    SpPostQ w p right (.returned (.tuple #[.agg #[.int .i64 0, .int .i64 0, .int .i64 0, .int .i64 0, .string ⟨#[]⟩, .slice none 0 0], .agg #[.int .i64 0, .int .i64 0, .int .i64 0, .int .i64 0, .string ⟨#[]⟩, .slice none 0 0], .int .i64 17])) w' :=
  ⟨zero, zero, _, _, 17, rfl, rdQ_nil _, rdQ_nil _, hb, Or.inr (Or.inl ⟨h, h', hl, rfl, rfl, rfl⟩)⟩
theorem rdQ_take {w : World} {A : Option Addr} {c i : Nat} {l : List Ent} (h : RdQ w (.slice A l.length c) l) (hi : i ≤ l.length) : RdQ w (.slice A i c) (l.take i) := by
  obtain ⟨A', c', he, h1, h2, h3⟩ := h
  cases he
  have hl : (l.take i).length = i := by rw [List.length_take]; omega
  exact ⟨A, c, by rw [hl], by omega, h2, C_take56 i hi h3⟩
theorem rdQ_drop {w : World} {A : Option Addr} {c i : Nat} {l : List Ent} (h : RdQ w (.slice A l.length c) l) (hi : i ≤ l.length) (hc : ¬ c = i) : RdQ w (.slice (A.map (·.add (i * 3))) (l.length - i) (c - i)) (l.drop i) := by
  obtain ⟨A', c', he, h1, h2, h3⟩ := h
  cases he
  have h4 := C_drop56 i hi h1 h3
  rw [if_neg hc] at h4
  have hl : (l.drop i).length = l.length - i := by rw [List.length_drop]
  exact ⟨_, c - i, by rw [hl], by omega, by omega, h4⟩
theorem two_store {w W : World} {b c t t' : Nat} {a0 a1 a2 a3 a4 a5 b0 b1 b2 b3 b4 b5 u0 u1 u2 u3 u4 u5 v0 v1 v2 v3 v4 v5 : Value} (hbc : ¬ b = c) (hcb : ¬ c = b) (Xa : Bx w b #[u0, u1, u2, u3, u4, u5] t) (Xb : Bx w c #[v0, v1, v2, v3, v4, v5] t')
    (hW : ((((((((((((w.setCell ⟨b, 0, none⟩ a0).setCell ⟨b, 1, none⟩ a1).setCell ⟨b, 2, none⟩ a2).setCell ⟨b, 3, none⟩ a3).setCell ⟨b, 4, none⟩ a4).setCell ⟨b, 5, none⟩ a5).setCell ⟨c, 0, none⟩ b0).setCell ⟨c, 1, none⟩ b1).setCell ⟨c, 2, none⟩ b2).setCell ⟨c, 3, none⟩ b3).setCell ⟨c, 4, none⟩ b4).setCell ⟨c, 5, none⟩ b5) = W) :
    Bx W b #[a0, a1, a2, a3, a4, a5] t ∧ Bx W c #[b0, b1, b2, b3, b4, b5] t' ∧ (∀ B, B ≤ b → B ≤ c → Below B w W) := by
  have Xa1 := Xa.set6 (v0 := a0) (v1 := a1) (v2 := a2) (v3 := a3) (v4 := a4) (v5 := a5) rfl
  have Xb1 := Xb.far6 (b := b) hcb a0 a1 a2 a3 a4 a5
  subst hW
  exact ⟨Xa1.far6 (b := c) hbc b0 b1 b2 b3 b4 b5, Xb1.set6 rfl, fun B h1 h2 => bel_set6 (bel_set6 (Below.refl B w) h1 rfl) h2 rfl⟩
theorem two_cells {w W : World} {b c t t' : Nat} {a0 a1 a2 a3 a4 a5 b0 b1 b2 b3 b4 b5 k4 k3 : Value} (hcb : ¬ c = b) (Xa : Bx w b #[a0, a1, a2, a3, a4, a5] t) (Xb : Bx w c #[b0, b1, b2, b3, b4, b5] t')
    (hW : (w.setCell ⟨b, 4, none⟩ k4).setCell ⟨b, 3, none⟩ k3 = W) : Bx W b #[a0, a1, a2, k3, k4, a5] t ∧ Bx W c #[b0, b1, b2, b3, b4, b5] t' ∧ (∀ B, B ≤ b → Below B w W) := by
  subst hW
  exact ⟨(Xa.set 4 k4).set 3 k3, (Xb.far (p := ⟨b, 4, none⟩) hcb k4).far (p := ⟨b, 3, none⟩) hcb k3, fun B h1 => ((Below.refl B w).setCell h1 k4).setCell h1 k3⟩
def RSpR (p : Pg) (w1 : World) (v7 : Value) (wr : World) : Prop := ∃ i : Nat, 1 ≤ i ∧ i ≤ p.es.length - 1 ∧ v7 = .int .i64 i ∧ (∀ j, j < i → cutOn p.es j) ∧ Below w1.heap.size w1 wr

set_option maxRecDepth 100000 in
set_option maxHeartbeats 3200000 in
theorem rsplit_c (p : Pg) (right : Int) {s : Value} (w : World) (hs : Small p.es) (hr : RdQ w s p.es) : Calls Try.prog 12 #[pgV p s, .int .i64 right] w (SpPostQ w p right) := by
  by_cases h1 : right < 1
  ·
    obtain ⟨A, c, rfl, _⟩ := hr
    unfold pgV
    go_enter Try.func12, Try.ntmps12
    go_wp2_with fail
    refine bodyPost_ret (v := .tuple #[.agg #[.int .i64 0, .int .i64 0, .int .i64 0, .int .i64 0, .string ⟨#[]⟩, .slice none 0 0], .agg #[.int .i64 0, .int .i64 0, .int .i64 0, .int .i64 0, .string ⟨#[]⟩, .slice none 0 0], .int .i64 1]) (by simp [results, Try.results12, go_sem]) rfl (SpPostQ.no1 (Or.inl h1) ?_)
    repeat (first | exact Below.refl _ _ | assumption | refine Below.drew ?_ | refine Below.setCell ?_ (by simp <;> omega) _ | refine Below.alloc ?_ (by simp <;> omega) _)
  by_cases h2 : 65535 < right
  ·
    obtain ⟨A, c, rfl, _⟩ := hr
    unfold pgV
    go_enter Try.func12, Try.ntmps12
    go_wp2_with fail
    refine bodyPost_ret (v := .tuple #[.agg #[.int .i64 0, .int .i64 0, .int .i64 0, .int .i64 0, .string ⟨#[]⟩, .slice none 0 0], .agg #[.int .i64 0, .int .i64 0, .int .i64 0, .int .i64 0, .string ⟨#[]⟩, .slice none 0 0], .int .i64 1]) (by simp [results, Try.results12, go_sem]) rfl (SpPostQ.no1 (Or.inr h2) ?_)
    repeat (first | exact Below.refl _ _ | assumption | refine Below.drew ?_ | refine Below.setCell ?_ (by simp <;> omega) _ | refine Below.alloc ?_ (by simp <;> omega) _)
  by_cases h3 : p.es.length < 2
  · have h3' : (p.es.length : Int) < 2 := by omega
    obtain ⟨A, c, rfl, _⟩ := hr
    unfold pgV
    go_enter Try.func12, Try.ntmps12
    go_wp2_with fail
    refine bodyPost_ret (v := .tuple #[.agg #[.int .i64 0, .int .i64 0, .int .i64 0, .int .i64 0, .string ⟨#[]⟩, .slice none 0 0], .agg #[.int .i64 0, .int .i64 0, .int .i64 0, .int .i64 0, .string ⟨#[]⟩, .slice none 0 0], .int .i64 17]) (by simp [results, Try.results12, go_sem]) rfl (SpPostQ.no17 (by omega) (by omega) h3 ?_)
    repeat (first | exact Below.refl _ _ | assumption | refine Below.drew ?_ | refine Below.setCell ?_ (by simp <;> omega) _ | refine Below.alloc ?_ (by simp <;> omega) _)
  have h3' : ¬ (p.es.length : Int) < 2 := by omega
  have HS := Lib.hid hs
  have HR := Lib.hid hr
  obtain ⟨A, c, rfl, hc, hm, hC⟩ := hr
  have HC := Lib.hid hC
  clear hs hm hC
  unfold pgV
  go_enter Try.func12, Try.ntmps12
  go_wp2_with fail
  have F0 := Fr3.start w #[.int .i64 p.lsn, .int .i64 p.kind, .int .i64 p.level, .int .i64 p.right, .string p.high, .slice A p.es.length c] 31 #[.int .i64 0, .int .i64 0, .int .i64 0, .int .i64 0, .string ⟨#[]⟩, .slice none 0 0] 31 #[.int .i64 0, .int .i64 0, .int .i64 0, .int .i64 0, .string ⟨#[]⟩, .slice none 0 0] 31
  generalize hw1 : World.alloc _ _ = w1 at F0 ⊢
  clear hw1
  have HC1 := Lib.hid (Kd.C_below HC.out F0.bel)
  have HL := Lib.hid HS.out.1
  obtain ⟨n, hn⟩ : ∃ n, p.es.length = n + 1 := ⟨p.es.length - 1, by omega⟩
  have HN := Lib.hid hn
  have hnw : IntKind.i64.wrap ((p.es.length : Int) - 1) = (n : Int) := by rw [IntKind.wrap_i64]; have := HL.out; omega
  clear hn
  go_loopw [7] (fun v7 wr => RSpR p w1 v7 wr) (fun i _ => p.es.length - (intOf i).toNat)
  case atStart => exact ⟨1, Nat.le_refl _, by omega, rfl, fun j hj => Or.inl (by omega), Below.refl _ _⟩
  case round =>
    obtain ⟨i, hi1, hi, rfl, hcu, hbw⟩ := hrel
    have HCU := Lib.hid hcu
    clear hcu
    have F2 := F0.below hbw
    have F2d := F2.drew
    have hi' : i ≤ n := by have := HN.out; omega
    have hnl : n + 1 = p.es.length := HN.out.symm
    have hci : ¬ c = i := by omega
    have hi0' : (0 : Int) ≤ (i : Int) := by omega
    have hi1' : (i : Int) ≤ (p.es.length : Int) := by omega
    have hi2' : (i : Int) ≤ (c : Int) := by omega
    have RA : Hid (RdQ wr.drew (.slice A i c) (p.es.take i)) := rdQ_take (HR.out.below F2d.bel) (by omega)
    have RB : Hid (RdQ wr.drew (.slice (A.map (·.add (i * 3))) (p.es.length - i) (c - i)) (p.es.drop i)) := rdQ_drop (HR.out.below F2d.bel) (by omega) hci
    have SA : Hid (Small (p.es.take i)) := sm_take HS.out i
    have SB : Hid (Small (p.es.drop i)) := ⟨by rw [List.length_drop]; have := HL.out; omega, fun e he => HS.out.2 e (List.mem_of_mem_drop he)⟩
    by_cases hin : i < n
    · have hin1 : decide ((i : Int) < (n : Int)) = true := by simp; omega
      have hin2 : decide (i < n) = true := by simp; omega
      go_wp2_with fail
      refine wp_region_quiet (C := fun w' => Below wr.drew.heap.size wr.drew w') (by kernel_rfl) (by kernel_rfl) (Below.refl wr.drew.heap.size wr.drew) ?_
      simp only [List.toList_toArray]
      repeat (first
        | go_big_quiet_skip
        | (go_big_quiet_want
           refine quiet_of (v := ?_) (fun wv hwv => ?_) ?_
           rotate_left
           · obtain ⟨c0, c1, c2, c3, c4, c5⟩ := (F2d.below hwv).b0.six
             go_simp
             first | done | exact ⟨rfl, rfl⟩ | rfl | (first | ((with_reducible refine (sizes_c SA.out (RA.out.below hwv)).mono ?_); rintro _ _ ⟨rfl, hb⟩; (refine ⟨?_, hwv.trans (hb.mono hwv.size)⟩; rfl)) | ((with_reducible refine (sizes_c SB.out (RB.out.below hwv)).mono ?_); rintro _ _ ⟨rfl, hb⟩; (refine ⟨?_, hwv.trans (hb.mono hwv.size)⟩; rfl)))
           (try simp only [Act.put, List.setIfInBounds_toArray, List.set_cons_zero, List.set_cons_succ])
           go_big_quiet_on))
      refine wpQuiet_nil ?_
      intro w2 hw2
      have hb2 := hbw.trans (((Below.refl wr.heap.size wr).drew.trans hw2).mono hbw.size)
      rcases Nat.lt_or_ge (sizes (p.es.take i)) (sizes (p.es.drop i)) with hsz | hsz
      · go_wp2_with fail
        have hL := HL.out
        go_roundw
        case rel => exact ⟨i + 1, by omega, by omega, rt_next (n := p.es.length) (by omega) (Nat.le_trans hL (by decide)), cut_next HCU.out (Or.inr hsz), hb2⟩
        case measure => exact rt_measure (n := p.es.length) (by omega) (Nat.le_trans hL (by decide))
      · have hsz' : ¬ sizes (p.es.take i) < sizes (p.es.drop i) := by omega
        have HCT : Hid (IsCut p.es i) := ⟨hi, HCU.out, fun h => by rcases h.2 with h | h <;> omega⟩
        go_wp2_with fail
        obtain ⟨x, hx⟩ : ∃ y, p.es[i]? = some y := ⟨p.es[i]'(by omega), List.getElem?_eq_getElem (by omega)⟩
        have HX := Lib.hid hx
        clear hx
        have F0d := ((F2d.below hw2).drew)
        have F2d := F0d
        have RA : Hid (RdQ w2.drew (.slice A i c) (p.es.take i)) := rdQ_take (HR.out.below F2d.bel) (by omega)
        have RB : Hid (RdQ w2.drew (.slice (A.map (·.add (i * 3))) (p.es.length - i) (c - i)) (p.es.drop i)) := rdQ_drop (HR.out.below F2d.bel) (by omega) hci
        refine Ty.wp_region_ty 14 (by kernel_rfl) (by kernel_rfl) ?_
        simp only [List.take_succ_cons, List.take_zero, List.drop_succ_cons, List.drop_zero]
        refine Ty.pure_ ?_ (fun _ => by rfl) (fun vs wv hb => ?_) ?_
        rotate_left
        · obtain ⟨c0, c1, c2, c3, c4, c5⟩ := (F2d.below hb).b0.six
          go_simp
          first | done | rfl
        simp only [Act.put, List.setIfInBounds_toArray, List.set_cons_zero, List.set_cons_succ, List.nil_append, List.cons_append, List.length_nil, List.length_cons, Nat.zero_add]
        refine Ty.pure_ ?_ (fun _ => by rfl) (fun vs wv hb => ?_) ?_
        rotate_left
        · obtain ⟨c0, c1, c2, c3, c4, c5⟩ := (F2d.below hb).b0.six
          go_simp
          first | done | rfl
        simp only [Act.put, List.setIfInBounds_toArray, List.set_cons_zero, List.set_cons_succ, List.nil_append, List.cons_append, List.length_nil, List.length_cons, Nat.zero_add]
        refine Ty.pure_ ?_ (fun _ => by rfl) (fun vs wv hb => ?_) ?_
        rotate_left
        · obtain ⟨c0, c1, c2, c3, c4, c5⟩ := (F2d.below hb).b0.six
          go_simp
          first | done | rfl
        simp only [Act.put, List.setIfInBounds_toArray, List.set_cons_zero, List.set_cons_succ, List.nil_append, List.cons_append, List.length_nil, List.length_cons, Nat.zero_add]
        refine Ty.pure_ ?_ (fun _ => by rfl) (fun vs wv hb => ?_) ?_
        rotate_left
        · obtain ⟨c0, c1, c2, c3, c4, c5⟩ := (F2d.below hb).b0.six
          go_simp
          first | done | rfl
        simp only [Act.put, List.setIfInBounds_toArray, List.set_cons_zero, List.set_cons_succ, List.nil_append, List.cons_append, List.length_nil, List.length_cons, Nat.zero_add]
        refine Ty.pure_ ?_ (fun _ => by rfl) (fun vs wv hb => ?_) ?_
        rotate_left
        · obtain ⟨c0, c1, c2, c3, c4, c5⟩ := (F2d.below hb).b0.six
          go_simp
          first | done | rfl
        simp only [Act.put, List.setIfInBounds_toArray, List.set_cons_zero, List.set_cons_succ, List.nil_append, List.cons_append, List.length_nil, List.length_cons, Nat.zero_add]
        refine Ty.call_ (fun v _ => v = (pgV p (.slice A i c))) (fun v w w' hb h => h) (fun _ => by rfl) (fun vs wv hb hd => ?_) ?_
        · unfold Ty.tyAt
          go_simp
          simp only [Ty.tyUpon]
          refine (rwith_c p wv (HR.out.below (F2d.below hb).bel) (RA.out.below hb)).mono ?_
          rintro _ g1 ⟨rfl, hg1⟩
          exact ⟨_, rfl, hg1, rfl⟩
        simp only [Act.put, List.setIfInBounds_toArray, List.set_cons_zero, List.set_cons_succ, List.nil_append, List.cons_append, List.length_nil, List.length_cons, Nat.zero_add]
        refine Ty.pure_ ?_ (fun _ => by rfl) (fun vs wv hb => ?_) ?_
        rotate_left
        · obtain ⟨c0, c1, c2, c3, c4, c5⟩ := (F2d.below hb).b0.six
          go_simp
          first | done | rfl
        simp only [Act.put, List.setIfInBounds_toArray, List.set_cons_zero, List.set_cons_succ, List.nil_append, List.cons_append, List.length_nil, List.length_cons, Nat.zero_add]
        refine Ty.pure_ ?_ (fun _ => by rfl) (fun vs wv hb => ?_) ?_
        rotate_left
        · obtain ⟨c0, c1, c2, c3, c4, c5⟩ := (F2d.below hb).b0.six
          go_simp
          first | done | rfl
        simp only [Act.put, List.setIfInBounds_toArray, List.set_cons_zero, List.set_cons_succ, List.nil_append, List.cons_append, List.length_nil, List.length_cons, Nat.zero_add]
        refine Ty.pure_ ?_ (fun _ => by rfl) (fun vs wv hb => ?_) ?_
        rotate_left
        · obtain ⟨c0, c1, c2, c3, c4, c5⟩ := (F2d.below hb).b0.six
          go_simp
          first | done | rfl
        simp only [Act.put, List.setIfInBounds_toArray, List.set_cons_zero, List.set_cons_succ, List.nil_append, List.cons_append, List.length_nil, List.length_cons, Nat.zero_add]
        refine Ty.pure_ ?_ (fun _ => by rfl) (fun vs wv hb => ?_) ?_
        rotate_left
        · obtain ⟨c0, c1, c2, c3, c4, c5⟩ := (F2d.below hb).b0.six
          go_simp
          first | done | rfl
        simp only [Act.put, List.setIfInBounds_toArray, List.set_cons_zero, List.set_cons_succ, List.nil_append, List.cons_append, List.length_nil, List.length_cons, Nat.zero_add]
        refine Ty.pure_ ?_ (fun _ => by rfl) (fun vs wv hb => ?_) ?_
        rotate_left
        · obtain ⟨c0, c1, c2, c3, c4, c5⟩ := (F2d.below hb).b0.six
          go_simp
          first | done | rfl
        simp only [Act.put, List.setIfInBounds_toArray, List.set_cons_zero, List.set_cons_succ, List.nil_append, List.cons_append, List.length_nil, List.length_cons, Nat.zero_add]
        refine Ty.call_ (fun v _ => v = (pgV p (.slice (A.map (·.add (i * 3))) (p.es.length - i) (c - i)))) (fun v w w' hb h => h) (fun _ => by rfl) (fun vs wv hb hd => ?_) ?_
        · unfold Ty.tyAt
          go_simp
          simp only [Ty.tyUpon]
          refine (rwith_c p wv (HR.out.below (F2d.below hb).bel) (RB.out.below hb)).mono ?_
          rintro _ g1 ⟨rfl, hg1⟩
          exact ⟨_, rfl, hg1, rfl⟩
        simp only [Act.put, List.setIfInBounds_toArray, List.set_cons_zero, List.set_cons_succ, List.nil_append, List.cons_append, List.length_nil, List.length_cons, Nat.zero_add]
        refine Ty.alloc_ pzV 31 (fun _ => by rfl) (fun vs wv => ?_) ?_
        · unfold pzV
          go_simp
        simp only [Act.put, List.setIfInBounds_toArray, List.set_cons_zero, List.set_cons_succ, List.nil_append, List.cons_append, List.length_nil, List.length_cons, Nat.zero_add]
        refine Ty.alloc_ pzV 31 (fun _ => by rfl) (fun vs wv => ?_) ?_
        · unfold pzV
          go_simp
        simp only [Act.put, List.setIfInBounds_toArray, List.set_cons_zero, List.set_cons_succ, List.nil_append, List.cons_append, List.length_nil, List.length_cons, Nat.zero_add]
        intro vs wz hbz hG hAp
        have e6 := hG 5 _ rfl
        have e13 := hG 11 _ rfl
        obtain ⟨ba, e14, l14, x14⟩ := hG 12 _ rfl
        obtain ⟨bb, e15, l15, x15⟩ := hG 13 _ rfl
        have hne := hAp 12 13 _ _ (by decide) rfl rfl rfl rfl
        clear hG hAp
        rw [e14, e15] at hne
        simp only at e6 e13
        simp only [e6, e13, e14, e15]
        clear e6 e13 e14 e15 vs
        change ba ≠ bb at hne
        have hne2 : ¬ ba = bb := hne
        have hne3 : ¬ bb = ba := fun h => hne h.symm
        clear hne
        have Xa : Bx wz ba pzV 31 := x14
        have Xb : Bx wz bb pzV 31 := x15
        clear x14 x15
        have Fz := F2d.below hbz
        have l14' := Fz.2.2.2.2
        have ga0 : ¬ ba = w.heap.size := by have := F2d.lt_of_le l14; omega
        have ga1 : ¬ ba = w.heap.size + 1 := by have := F2d.lt_of_le l14; omega
        have ga2 : ¬ ba = w.heap.size + 1 + 1 := by have := F2d.lt_of_le l14; omega
        have gb0 : ¬ bb = w.heap.size := by have := F2d.lt_of_le l15; omega
        have gb1 : ¬ bb = w.heap.size + 1 := by have := F2d.lt_of_le l15; omega
        have gb2 : ¬ bb = w.heap.size + 1 + 1 := by have := F2d.lt_of_le l15; omega
        have ga0' : ¬ w.heap.size = ba := fun h => ga0 h.symm
        have gb0' : ¬ w.heap.size = bb := fun h => gb0 h.symm
        obtain ⟨ad, hA, a0, a1, a2⟩ := at_T56 (Kd.C_below HC1.out (hbw.trans ((((Below.refl wr.heap.size wr).drew.trans hw2).mono hbw.size)))) (i : Int) (by omega) (by rw [List.length_map]; omega)
        rw [rd56 HX.out] at a0
        rw [Int.toNat_natCast] at a0
        change w2.cell? _ = some (Value.string x.k) at a0
        have hab := World.block_lt_of_cell? w2 _ a0
        have hka : ¬ ba = (ad.add (i * 3)).block := by intro h; rw [← h] at hab; have l : w2.heap.size ≤ ba := l14; have hab : ba < w2.heap.size := hab; omega
        have hkb : ¬ bb = (ad.add (i * 3)).block := by intro h; rw [← h] at hab; have l : w2.heap.size ≤ bb := l15; have hab : bb < w2.heap.size := hab; omega
        have hka' : ¬ (ad.add (i * 3)).block = ba := fun h => hka h.symm
        have hkb' : ¬ (ad.add (i * 3)).block = bb := fun h => hkb h.symm
        have HA0 := Lib.hid a0
        subst hA
        clear a0 a1 a2 hab l14'
        unfold pzV at Xa Xb
        obtain ⟨z0, z1, z2, z3, z4, z5⟩ := Bx.six Xa
        obtain ⟨y0, y1, y2, y3, y4, y5⟩ := Bx.six Xb
        obtain ⟨zf0, zf1, zf2, zf3, zf4, zf5⟩ := Bx.six_free Xa
        obtain ⟨yf0, yf1, yf2, yf3, yf4, yf5⟩ := Bx.six_free Xb
        unfold pgV
        go_upto_region 9 with (fail)
        generalize hW : World.setCell _ _ _ = W1
        obtain ⟨Xa1, Xb1, hB1⟩ := two_store hne2 hne3 Xa Xb hW
        have F1 := Fz.over (hB1 _ (F2d.lt_of_le l14) (F2d.lt_of_le l15))
        have a01 : W1.cell? (ad.add (i * 3)) = some (Value.string x.k) := old (w := w2) (((Below.refl w2.heap.size w2).drew.trans hbz).trans (hB1 _ l14 l15)) HA0.out
        clear hW hB1 Xa Xb z0 z1 z2 z3 z4 z5 y0 y1 y2 y3 y4 y5 zf0 zf1 zf2 zf3 zf4 zf5 yf0 yf1 yf2 yf3 yf4 yf5
        obtain ⟨z0, z1, z2, z3, z4, z5⟩ := Bx.six Xa1
        obtain ⟨zf0, zf1, zf2, zf3, zf4, zf5⟩ := Bx.six_free Xa1
        obtain ⟨p0, p1, p2, p3, p4, p5⟩ := Bx.six F1.b0
        go_upto_region 10 with (fail)
        generalize hW : World.setCell _ _ _ = W
        obtain ⟨Wa, Wb, hB2⟩ := two_cells hne3 Xa1 Xb1 hW
        have Wb : Bx W bb #[.int .i64 p.lsn, .int .i64 p.kind, .int .i64 p.level, .int .i64 p.right, .string p.high, .slice (some (ad.add (i * 3))) (p.es.length - i) (c - i)] 31 := Wb
        have FW := F1.over (hB2 _ (F2d.lt_of_le l14))
        clear hW z0 z1 z2 z3 z4 z5 zf0 zf1 zf2 zf3 zf4 zf5 p0 p1 p2 p3 p4 p5 a01 Xa1 Xb1
        obtain ⟨z0, z1, z2, z3, z4, z5⟩ := Bx.six FW.b1
        obtain ⟨y0, y1, y2, y3, y4, y5⟩ := Bx.six FW.b2
        obtain ⟨zf0, zf1, zf2, zf3, zf4, zf5⟩ := Bx.six_free FW.b1
        obtain ⟨yf0, yf1, yf2, yf3, yf4, yf5⟩ := Bx.six_free FW.b2
        have hz12 : ¬ w.heap.size + 1 = w.heap.size + 1 + 1 := by omega
        have hz21 : ¬ w.heap.size + 1 + 1 = w.heap.size + 1 := by omega
        go_region_held3 (fun w' => w'.cell? ⟨ba, 0, none⟩ = some (.int .i64 p.lsn) ∧ w'.cell? ⟨ba, 1, none⟩ = some (.int .i64 p.kind) ∧ w'.cell? ⟨ba, 2, none⟩ = some (.int .i64 p.level) ∧ w'.cell? ⟨ba, 3, none⟩ = some (.int .i64 right) ∧ w'.cell? ⟨ba, 4, none⟩ = some (.string x.k) ∧ w'.cell? ⟨ba, 5, none⟩ = some (.slice (some ad) i c) ∧
            w'.cell? ⟨bb, 0, none⟩ = some (.int .i64 p.lsn) ∧ w'.cell? ⟨bb, 1, none⟩ = some (.int .i64 p.kind) ∧ w'.cell? ⟨bb, 2, none⟩ = some (.int .i64 p.level) ∧ w'.cell? ⟨bb, 3, none⟩ = some (.int .i64 p.right) ∧ w'.cell? ⟨bb, 4, none⟩ = some (.string p.high) ∧ w'.cell? ⟨bb, 5, none⟩ = some (.slice (some (ad.add (i * 3))) (p.es.length - i) (c - i)))
          (first | with_reducible exact twelve Wa Wb | with_reducible exact twelve (Bx.drew Wa) (Bx.drew Wb) | with_reducible exact twelve (Wa.far6 ga1 _ _ _ _ _ _) (Wb.far6 gb1 _ _ _ _ _ _) | with_reducible exact twelve (Bx.drew (Wa.far6 ga1 _ _ _ _ _ _)) (Bx.drew (Wb.far6 gb1 _ _ _ _ _ _)) | with_reducible exact twelve ((Wa.far6 ga1 _ _ _ _ _ _).far6 ga2 _ _ _ _ _ _) ((Wb.far6 gb1 _ _ _ _ _ _).far6 gb2 _ _ _ _ _ _) | with_reducible exact twelve (Bx.drew ((Wa.far6 ga1 _ _ _ _ _ _).far6 ga2 _ _ _ _ _ _)) (Bx.drew ((Wb.far6 gb1 _ _ _ _ _ _).far6 gb2 _ _ _ _ _ _))) (fail)
        go_wp2_with fail
        generalize hW2 : World.setCell _ _ _ = W2
        obtain ⟨V1, V2, hB3⟩ := two_store hz12 hz21 FW.b1 FW.b2 hW2
        have hbel := FW.bel.trans (hB3 w.heap.size (by omega) (by omega))
        obtain ⟨x0, x1, x2, x3, x4, x5⟩ := Bx.six V1
        obtain ⟨v0, v1, v2, v3, v4, v5⟩ := Bx.six V2
        clear hW2 hB3
        have HXA := Lib.hid (HR.out.below hbel.drew)
        refine bodyPost_ret (v := .tuple #[.agg #[.int .i64 p.lsn, .int .i64 p.kind, .int .i64 p.level, .int .i64 right, .string x.k, .slice (some ad) i c], .agg #[.int .i64 p.lsn, .int .i64 p.kind, .int .i64 p.level, .int .i64 p.right, .string p.high, .slice (some (ad.add (i * 3))) (p.es.length - i) (c - i)], .int .i64 0]) (by simp [results, Try.results12, go_sem, x0, x1, x2, x3, x4, x5, v0, v1, v2, v3, v4, v5]) rfl ?_
        exact ⟨cutA p i right x.k, cutB p i, _, _, 0, rfl, rdQ_take HXA.out (by omega), rdQ_drop HXA.out (by omega) hci, hbel.drew, Or.inr (Or.inr ⟨by omega, by omega, by omega, rfl, i, x, HCT.out, HX.out, rfl, rfl⟩)⟩
    · have hin1 : decide ((i : Int) < (n : Int)) = false := by simp; omega
      have hin2 : decide (i < n) = false := by simp; omega
      have HCT : Hid (IsCut p.es i) := ⟨hi, HCU.out, fun h => by omega⟩
      go_wp2_with fail
      refine wp_region_quiet (C := fun w' => Below wr.drew.heap.size wr.drew w') (by kernel_rfl) (by kernel_rfl) (Below.refl wr.drew.heap.size wr.drew) ?_
      simp only [List.toList_toArray]
      repeat (first
        | go_big_quiet_skip
        | (go_big_quiet_want
           refine quiet_of (v := ?_) (fun wv hwv => ?_) ?_
           rotate_left
           · obtain ⟨c0, c1, c2, c3, c4, c5⟩ := (F2d.below hwv).b0.six
             go_simp
             first | done | exact ⟨rfl, rfl⟩ | rfl | (fail)
           (try simp only [Act.put, List.setIfInBounds_toArray, List.set_cons_zero, List.set_cons_succ])
           go_big_quiet_on))
      refine wpQuiet_nil ?_
      intro w2 hw2
      go_wp2_with fail
      obtain ⟨x, hx⟩ : ∃ y, p.es[i]? = some y := ⟨p.es[i]'(by omega), List.getElem?_eq_getElem (by omega)⟩
      have HX := Lib.hid hx
      clear hx
      have F0d := ((F2d.below hw2).drew)
      have F2d := F0d
      have RA : Hid (RdQ w2.drew (.slice A i c) (p.es.take i)) := rdQ_take (HR.out.below F2d.bel) (by omega)
      have RB : Hid (RdQ w2.drew (.slice (A.map (·.add (i * 3))) (p.es.length - i) (c - i)) (p.es.drop i)) := rdQ_drop (HR.out.below F2d.bel) (by omega) hci
      refine Ty.wp_region_ty 14 (by kernel_rfl) (by kernel_rfl) ?_
      simp only [List.take_succ_cons, List.take_zero, List.drop_succ_cons, List.drop_zero]
      refine Ty.pure_ ?_ (fun _ => by rfl) (fun vs wv hb => ?_) ?_
      rotate_left
      · obtain ⟨c0, c1, c2, c3, c4, c5⟩ := (F2d.below hb).b0.six
        go_simp
        first | done | rfl
      simp only [Act.put, List.setIfInBounds_toArray, List.set_cons_zero, List.set_cons_succ, List.nil_append, List.cons_append, List.length_nil, List.length_cons, Nat.zero_add]
      refine Ty.pure_ ?_ (fun _ => by rfl) (fun vs wv hb => ?_) ?_
      rotate_left
      · obtain ⟨c0, c1, c2, c3, c4, c5⟩ := (F2d.below hb).b0.six
        go_simp
        first | done | rfl
      simp only [Act.put, List.setIfInBounds_toArray, List.set_cons_zero, List.set_cons_succ, List.nil_append, List.cons_append, List.length_nil, List.length_cons, Nat.zero_add]
      refine Ty.pure_ ?_ (fun _ => by rfl) (fun vs wv hb => ?_) ?_
      rotate_left
      · obtain ⟨c0, c1, c2, c3, c4, c5⟩ := (F2d.below hb).b0.six
        go_simp
        first | done | rfl
      simp only [Act.put, List.setIfInBounds_toArray, List.set_cons_zero, List.set_cons_succ, List.nil_append, List.cons_append, List.length_nil, List.length_cons, Nat.zero_add]
      refine Ty.pure_ ?_ (fun _ => by rfl) (fun vs wv hb => ?_) ?_
      rotate_left
      · obtain ⟨c0, c1, c2, c3, c4, c5⟩ := (F2d.below hb).b0.six
        go_simp
        first | done | rfl
      simp only [Act.put, List.setIfInBounds_toArray, List.set_cons_zero, List.set_cons_succ, List.nil_append, List.cons_append, List.length_nil, List.length_cons, Nat.zero_add]
      refine Ty.pure_ ?_ (fun _ => by rfl) (fun vs wv hb => ?_) ?_
      rotate_left
      · obtain ⟨c0, c1, c2, c3, c4, c5⟩ := (F2d.below hb).b0.six
        go_simp
        first | done | rfl
      simp only [Act.put, List.setIfInBounds_toArray, List.set_cons_zero, List.set_cons_succ, List.nil_append, List.cons_append, List.length_nil, List.length_cons, Nat.zero_add]
      refine Ty.call_ (fun v _ => v = (pgV p (.slice A i c))) (fun v w w' hb h => h) (fun _ => by rfl) (fun vs wv hb hd => ?_) ?_
      · unfold Ty.tyAt
        go_simp
        simp only [Ty.tyUpon]
        refine (rwith_c p wv (HR.out.below (F2d.below hb).bel) (RA.out.below hb)).mono ?_
        rintro _ g1 ⟨rfl, hg1⟩
        exact ⟨_, rfl, hg1, rfl⟩
      simp only [Act.put, List.setIfInBounds_toArray, List.set_cons_zero, List.set_cons_succ, List.nil_append, List.cons_append, List.length_nil, List.length_cons, Nat.zero_add]
      refine Ty.pure_ ?_ (fun _ => by rfl) (fun vs wv hb => ?_) ?_
      rotate_left
      · obtain ⟨c0, c1, c2, c3, c4, c5⟩ := (F2d.below hb).b0.six
        go_simp
        first | done | rfl
      simp only [Act.put, List.setIfInBounds_toArray, List.set_cons_zero, List.set_cons_succ, List.nil_append, List.cons_append, List.length_nil, List.length_cons, Nat.zero_add]
      refine Ty.pure_ ?_ (fun _ => by rfl) (fun vs wv hb => ?_) ?_
      rotate_left
      · obtain ⟨c0, c1, c2, c3, c4, c5⟩ := (F2d.below hb).b0.six
        go_simp
        first | done | rfl
      simp only [Act.put, List.setIfInBounds_toArray, List.set_cons_zero, List.set_cons_succ, List.nil_append, List.cons_append, List.length_nil, List.length_cons, Nat.zero_add]
      refine Ty.pure_ ?_ (fun _ => by rfl) (fun vs wv hb => ?_) ?_
      rotate_left
      · obtain ⟨c0, c1, c2, c3, c4, c5⟩ := (F2d.below hb).b0.six
        go_simp
        first | done | rfl
      simp only [Act.put, List.setIfInBounds_toArray, List.set_cons_zero, List.set_cons_succ, List.nil_append, List.cons_append, List.length_nil, List.length_cons, Nat.zero_add]
      refine Ty.pure_ ?_ (fun _ => by rfl) (fun vs wv hb => ?_) ?_
      rotate_left
      · obtain ⟨c0, c1, c2, c3, c4, c5⟩ := (F2d.below hb).b0.six
        go_simp
        first | done | rfl
      simp only [Act.put, List.setIfInBounds_toArray, List.set_cons_zero, List.set_cons_succ, List.nil_append, List.cons_append, List.length_nil, List.length_cons, Nat.zero_add]
      refine Ty.pure_ ?_ (fun _ => by rfl) (fun vs wv hb => ?_) ?_
      rotate_left
      · obtain ⟨c0, c1, c2, c3, c4, c5⟩ := (F2d.below hb).b0.six
        go_simp
        first | done | rfl
      simp only [Act.put, List.setIfInBounds_toArray, List.set_cons_zero, List.set_cons_succ, List.nil_append, List.cons_append, List.length_nil, List.length_cons, Nat.zero_add]
      refine Ty.call_ (fun v _ => v = (pgV p (.slice (A.map (·.add (i * 3))) (p.es.length - i) (c - i)))) (fun v w w' hb h => h) (fun _ => by rfl) (fun vs wv hb hd => ?_) ?_
      · unfold Ty.tyAt
        go_simp
        simp only [Ty.tyUpon]
        refine (rwith_c p wv (HR.out.below (F2d.below hb).bel) (RB.out.below hb)).mono ?_
        rintro _ g1 ⟨rfl, hg1⟩
        exact ⟨_, rfl, hg1, rfl⟩
      simp only [Act.put, List.setIfInBounds_toArray, List.set_cons_zero, List.set_cons_succ, List.nil_append, List.cons_append, List.length_nil, List.length_cons, Nat.zero_add]
      refine Ty.alloc_ pzV 31 (fun _ => by rfl) (fun vs wv => ?_) ?_
      · unfold pzV
        go_simp
      simp only [Act.put, List.setIfInBounds_toArray, List.set_cons_zero, List.set_cons_succ, List.nil_append, List.cons_append, List.length_nil, List.length_cons, Nat.zero_add]
      refine Ty.alloc_ pzV 31 (fun _ => by rfl) (fun vs wv => ?_) ?_
      · unfold pzV
        go_simp
      simp only [Act.put, List.setIfInBounds_toArray, List.set_cons_zero, List.set_cons_succ, List.nil_append, List.cons_append, List.length_nil, List.length_cons, Nat.zero_add]
      intro vs wz hbz hG hAp
      have e6 := hG 5 _ rfl
      have e13 := hG 11 _ rfl
      obtain ⟨ba, e14, l14, x14⟩ := hG 12 _ rfl
      obtain ⟨bb, e15, l15, x15⟩ := hG 13 _ rfl
      have hne := hAp 12 13 _ _ (by decide) rfl rfl rfl rfl
      clear hG hAp
      rw [e14, e15] at hne
      simp only at e6 e13
      simp only [e6, e13, e14, e15]
      clear e6 e13 e14 e15 vs
      change ba ≠ bb at hne
      have hne2 : ¬ ba = bb := hne
      have hne3 : ¬ bb = ba := fun h => hne h.symm
      clear hne
      have Xa : Bx wz ba pzV 31 := x14
      have Xb : Bx wz bb pzV 31 := x15
      clear x14 x15
      have Fz := F2d.below hbz
      have l14' := Fz.2.2.2.2
      have ga0 : ¬ ba = w.heap.size := by have := F2d.lt_of_le l14; omega
      have ga1 : ¬ ba = w.heap.size + 1 := by have := F2d.lt_of_le l14; omega
      have ga2 : ¬ ba = w.heap.size + 1 + 1 := by have := F2d.lt_of_le l14; omega
      have gb0 : ¬ bb = w.heap.size := by have := F2d.lt_of_le l15; omega
      have gb1 : ¬ bb = w.heap.size + 1 := by have := F2d.lt_of_le l15; omega
      have gb2 : ¬ bb = w.heap.size + 1 + 1 := by have := F2d.lt_of_le l15; omega
      have ga0' : ¬ w.heap.size = ba := fun h => ga0 h.symm
      have gb0' : ¬ w.heap.size = bb := fun h => gb0 h.symm
      obtain ⟨ad, hA, a0, a1, a2⟩ := at_T56 (Kd.C_below HC1.out (hbw.trans ((((Below.refl wr.heap.size wr).drew.trans hw2).mono hbw.size)))) (i : Int) (by omega) (by rw [List.length_map]; omega)
      rw [rd56 HX.out] at a0
      rw [Int.toNat_natCast] at a0
      change w2.cell? _ = some (Value.string x.k) at a0
      have hab := World.block_lt_of_cell? w2 _ a0
      have hka : ¬ ba = (ad.add (i * 3)).block := by intro h; rw [← h] at hab; have l : w2.heap.size ≤ ba := l14; have hab : ba < w2.heap.size := hab; omega
      have hkb : ¬ bb = (ad.add (i * 3)).block := by intro h; rw [← h] at hab; have l : w2.heap.size ≤ bb := l15; have hab : bb < w2.heap.size := hab; omega
      have hka' : ¬ (ad.add (i * 3)).block = ba := fun h => hka h.symm
      have hkb' : ¬ (ad.add (i * 3)).block = bb := fun h => hkb h.symm
      have HA0 := Lib.hid a0
      subst hA
      clear a0 a1 a2 hab l14'
      unfold pzV at Xa Xb
      obtain ⟨z0, z1, z2, z3, z4, z5⟩ := Bx.six Xa
      obtain ⟨y0, y1, y2, y3, y4, y5⟩ := Bx.six Xb
      obtain ⟨zf0, zf1, zf2, zf3, zf4, zf5⟩ := Bx.six_free Xa
      obtain ⟨yf0, yf1, yf2, yf3, yf4, yf5⟩ := Bx.six_free Xb
      unfold pgV
      go_upto_region 9 with (fail)
      generalize hW : World.setCell _ _ _ = W1
      obtain ⟨Xa1, Xb1, hB1⟩ := two_store hne2 hne3 Xa Xb hW
      have F1 := Fz.over (hB1 _ (F2d.lt_of_le l14) (F2d.lt_of_le l15))
      have a01 : W1.cell? (ad.add (i * 3)) = some (Value.string x.k) := old (w := w2) (((Below.refl w2.heap.size w2).drew.trans hbz).trans (hB1 _ l14 l15)) HA0.out
      clear hW hB1 Xa Xb z0 z1 z2 z3 z4 z5 y0 y1 y2 y3 y4 y5 zf0 zf1 zf2 zf3 zf4 zf5 yf0 yf1 yf2 yf3 yf4 yf5
      obtain ⟨z0, z1, z2, z3, z4, z5⟩ := Bx.six Xa1
      obtain ⟨zf0, zf1, zf2, zf3, zf4, zf5⟩ := Bx.six_free Xa1
      obtain ⟨p0, p1, p2, p3, p4, p5⟩ := Bx.six F1.b0
      go_upto_region 10 with (fail)
      generalize hW : World.setCell _ _ _ = W
      obtain ⟨Wa, Wb, hB2⟩ := two_cells hne3 Xa1 Xb1 hW
      have Wb : Bx W bb #[.int .i64 p.lsn, .int .i64 p.kind, .int .i64 p.level, .int .i64 p.right, .string p.high, .slice (some (ad.add (i * 3))) (p.es.length - i) (c - i)] 31 := Wb
      have FW := F1.over (hB2 _ (F2d.lt_of_le l14))
      clear hW z0 z1 z2 z3 z4 z5 zf0 zf1 zf2 zf3 zf4 zf5 p0 p1 p2 p3 p4 p5 a01 Xa1 Xb1
      obtain ⟨z0, z1, z2, z3, z4, z5⟩ := Bx.six FW.b1
      obtain ⟨y0, y1, y2, y3, y4, y5⟩ := Bx.six FW.b2
      obtain ⟨zf0, zf1, zf2, zf3, zf4, zf5⟩ := Bx.six_free FW.b1
      obtain ⟨yf0, yf1, yf2, yf3, yf4, yf5⟩ := Bx.six_free FW.b2
      have hz12 : ¬ w.heap.size + 1 = w.heap.size + 1 + 1 := by omega
      have hz21 : ¬ w.heap.size + 1 + 1 = w.heap.size + 1 := by omega
      go_region_held3 (fun w' => w'.cell? ⟨ba, 0, none⟩ = some (.int .i64 p.lsn) ∧ w'.cell? ⟨ba, 1, none⟩ = some (.int .i64 p.kind) ∧ w'.cell? ⟨ba, 2, none⟩ = some (.int .i64 p.level) ∧ w'.cell? ⟨ba, 3, none⟩ = some (.int .i64 right) ∧ w'.cell? ⟨ba, 4, none⟩ = some (.string x.k) ∧ w'.cell? ⟨ba, 5, none⟩ = some (.slice (some ad) i c) ∧
          w'.cell? ⟨bb, 0, none⟩ = some (.int .i64 p.lsn) ∧ w'.cell? ⟨bb, 1, none⟩ = some (.int .i64 p.kind) ∧ w'.cell? ⟨bb, 2, none⟩ = some (.int .i64 p.level) ∧ w'.cell? ⟨bb, 3, none⟩ = some (.int .i64 p.right) ∧ w'.cell? ⟨bb, 4, none⟩ = some (.string p.high) ∧ w'.cell? ⟨bb, 5, none⟩ = some (.slice (some (ad.add (i * 3))) (p.es.length - i) (c - i)))
        (first | with_reducible exact twelve Wa Wb | with_reducible exact twelve (Bx.drew Wa) (Bx.drew Wb) | with_reducible exact twelve (Wa.far6 ga1 _ _ _ _ _ _) (Wb.far6 gb1 _ _ _ _ _ _) | with_reducible exact twelve (Bx.drew (Wa.far6 ga1 _ _ _ _ _ _)) (Bx.drew (Wb.far6 gb1 _ _ _ _ _ _)) | with_reducible exact twelve ((Wa.far6 ga1 _ _ _ _ _ _).far6 ga2 _ _ _ _ _ _) ((Wb.far6 gb1 _ _ _ _ _ _).far6 gb2 _ _ _ _ _ _) | with_reducible exact twelve (Bx.drew ((Wa.far6 ga1 _ _ _ _ _ _).far6 ga2 _ _ _ _ _ _)) (Bx.drew ((Wb.far6 gb1 _ _ _ _ _ _).far6 gb2 _ _ _ _ _ _))) (fail)
      go_wp2_with fail
      generalize hW2 : World.setCell _ _ _ = W2
      obtain ⟨V1, V2, hB3⟩ := two_store hz12 hz21 FW.b1 FW.b2 hW2
      have hbel := FW.bel.trans (hB3 w.heap.size (by omega) (by omega))
      obtain ⟨x0, x1, x2, x3, x4, x5⟩ := Bx.six V1
      obtain ⟨v0, v1, v2, v3, v4, v5⟩ := Bx.six V2
      clear hW2 hB3
      have HXA := Lib.hid (HR.out.below hbel.drew)
      refine bodyPost_ret (v := .tuple #[.agg #[.int .i64 p.lsn, .int .i64 p.kind, .int .i64 p.level, .int .i64 right, .string x.k, .slice (some ad) i c], .agg #[.int .i64 p.lsn, .int .i64 p.kind, .int .i64 p.level, .int .i64 p.right, .string p.high, .slice (some (ad.add (i * 3))) (p.es.length - i) (c - i)], .int .i64 0]) (by simp [results, Try.results12, go_sem, x0, x1, x2, x3, x4, x5, v0, v1, v2, v3, v4, v5]) rfl ?_
      exact ⟨cutA p i right x.k, cutB p i, _, _, 0, rfl, rdQ_take HXA.out (by omega), rdQ_drop HXA.out (by omega) hci, hbel.drew, Or.inr (Or.inr ⟨by omega, by omega, by omega, rfl, i, x, HCT.out, HX.out, rfl, rfl⟩)⟩
end Go.Proofs.Ytldmhfpgcflplaa
