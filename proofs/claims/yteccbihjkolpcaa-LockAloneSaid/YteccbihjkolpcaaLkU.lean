import Derived.Test.YteccbihjkolpcaaLkT
set_option linter.unusedVariables false
set_option linter.unusedSimpArgs false
namespace Go.Proofs.Yteccbihjkolpcaa
open Go.RowKit Go.Maps LockP

def Post (w w' : World) (a : Addr) (F : Nat → Prop) (N : Nat) (L : List H) : Prop := ∃ F', Rep w' a F' N L ∧ (∀ i, F' i → F i ∨ w.heap.size ≤ i) ∧ Turn F w w'

theorem Rep.mono {w : World} {a : Addr} {F : Nat → Prop} {N N' : Nat} {L : List H} (h : Rep w a F N L) (hN : N ≤ N') : Rep w a F N' L := by
  refine ⟨h.wfs, h.nodup, Nat.le_trans h.len hN, h.fresh, h.cell, h.free, ?_⟩
  rcases h.map with h1 | ⟨bm, h1, h2, h3, D, h4, h5, h6⟩
  · exact Or.inl h1
  · exact Or.inr ⟨bm, h1, h2, h3, D, h4, Nat.le_trans h5 hN, h6⟩

theorem Post.below {w w' : World} {a : Addr} {F : Nat → Prop} {N : Nat} {L : List H} (h : Rep w a F N L) (hb : Below w.heap.size w w') : Post w w' a F (N + 1) L :=
  ⟨F, (h.below hb).mono (by omega), fun i hi => Or.inl hi, Turn.of_below hb⟩

theorem take_rep (w : World) (a : Addr) (F : Nat → Prop) (N : Nat) (L : List H) (x : H) (fv : Value) (hrep : Rep w a F N L) (hx : WfH x) (hN : N + 2 < maxLen)
    (HO : ∀ w1, Below w.heap.size w w1 → Calls Try.prog 22 #[.pointer (some a), .int .i64 x.s, .int .i64 x.t, fv] w1 fun e w2 => e = .returned (.bool (conflict L x)) ∧ Below w1.heap.size w1 w2) :
    Calls Try.prog 16 #[.pointer (some a), .int .i64 x.s, tv x.t x.m x.r, fv] w fun e w' => e = .returned (.int .i64 (LockP.take L x).2) ∧ Post w w' a F (N + 1) (LockP.take L x).1 := by
  unfold LockP.take
  cases hcf : conflict L x
  · rw [hcf] at HO
    simp only [Bool.false_eq_true, if_false]
    have hxs := hx.1
    have hcellF := hrep.cell
    rcases hrep.map with ⟨h1, rfl⟩ | ⟨bm, h1, h2, h3, D, h4, h5, hin, hout, hinj⟩
    · refine (take_a w a x.s x.t x.m x.r fv h1 hrep.free hx.1 hx.2.1 hx.2.2.1 hx.2.2.2 HO).mono ?_
      rintro e w' ⟨rfl, bm, b, g1, g2, g3, g4, g5, g6, g7, g8, g9, g10⟩
      refine ⟨rfl, fun i => F i ∨ i = b ∨ i = bm, ?_, ?_, Turn.of_grown g6 (fun j hj => by cases hj; exact Or.inl hcellF)⟩
      · have he := put_thing (L := []) hx Maps.tidy_empty (fun t m r _ _ _ => by simp [Maps.has]) (by simp [Maps.size, held])
        refine rep_final (D := .map []) hrep hx (fun s ws hs => by simp [Maps.has] at hs) (fun s ws _ => rfl) (fun s s' b ws ws' hs => by simp [Maps.has] at hs) g6.size g4 g2 g7 g8 ?_ ?_ g9 g10 g5 ?_ ?_ ?_ ?_ ?_ he.1 he.2
        · intro e
          have := hrep.fresh _ hrep.cell
          omega
        · intro i hi n1 n2 n3
          exact g6.block i (hrep.fresh i hi) (by simpa using n3)
        · have : Maps.size ((DataW.map [] : DataW Unit).put (.int .i64 x.s) (.lit (.int .i64 b))) ≤ 0 + 1 := by rw [Maps.size_put Maps.tidy_empty]; simp [Maps.has, Maps.size]
          omega
        · intro s' ws' hs'
          exact ⟨Maps.has_put_other (by simpa using hs') _, fun zd => Maps.atKey_put_other (by simpa using hs') _ _⟩
        · intro zd
          exact Maps.atKey_put_same Maps.isMap_empty (show WideAt.IsKeyLit (.int .i64 x.s) from trivial) _ _
        · exact Maps.has_put_same Maps.isMap_empty (show WideAt.IsKeyLit (.int .i64 x.s) from trivial) _
        · intro s' ws' hs' b' hb'
          simp [Maps.has] at hb'
      · rintro i (hi | rfl | rfl)
        · exact Or.inl hi
        · exact Or.inr g3
        · exact Or.inr g1
    · have hT : Maps.Tidy D := h4.tidy law3
      cases hs : Maps.has D (.int .i64 x.s)
      · refine (take_b w a bm (Maps.size D) D x.s x.t x.m x.r fv h1 h4 hx.1 hx.2.1 hx.2.2.1 hx.2.2.2 hs (by omega) HO).mono ?_
        rintro e w' ⟨rfl, b, g1, g2, g3, g4, g5⟩
        have hh := hout x.s hx.1 hs
        have hab := hrep.fresh _ hrep.cell
        refine ⟨rfl, fun i => F i ∨ i = b ∨ i = bm, ?_, ?_, Turn.of_grown g3 (fun j hj => by cases hj; exact Or.inl h3)⟩
        · have he := put_thing (E := .map []) (L := L) hx Maps.tidy_empty (fun t m r _ _ _ => by
            simp only [Maps.has]
            constructor
            · intro h; simp at h
            · intro h; exact absurd rfl (held_zero.1 hh ⟨x.s, t, m, r⟩ h)) (by simp [Maps.size, hh])
          refine rep_final (D := D) hrep hx hin hout hinj g3.size g2 ?_ ?_ ?_ h2 ?_ g4 g5 ?_ ?_ ?_ ?_ ?_ ?_ he.1 he.2
          · have := h4.lt
            exact Nat.lt_of_lt_of_le this g3.size
          · exact (World.cell?_of_block (w := w) (a := a) (g3.block a.block hab (by simp; omega))).trans h1
          · exact (World.frozen?_of_block (w := w) (a := a) (g3.block a.block hab (by simp; omega))).trans hrep.free
          · intro i hi n1 n2 n3
            exact g3.block i (hrep.fresh i hi) (by simpa using n1)
          · have := h4.lt
            omega
          · rw [Maps.size_put hT, hs]
            simp only [Bool.false_eq_true, if_false]
            omega
          · intro s' ws' hs'
            exact ⟨Maps.has_put_other (by simpa using hs') _, fun zd => Maps.atKey_put_other (by simpa using hs') _ _⟩
          · intro zd
            exact Maps.atKey_put_same hT.isMap (show WideAt.IsKeyLit (.int .i64 x.s) from trivial) _ _
          · exact Maps.has_put_same hT.isMap (show WideAt.IsKeyLit (.int .i64 x.s) from trivial) _
          · intro s' ws' hs' b' hb' hat'
            obtain ⟨b2, k1, k2, k3, E2, k4, _⟩ := hin s' ws' hb'
            have : b' = b2 := by
              have := (hat' .nil).symm.trans (k1 .nil)
              simp only [DataW.lit.injEq, Lit.int.injEq, true_and] at this
              omega
            subst this
            exact ⟨by have := hrep.fresh _ k3; omega, own_ne_cell k4 h1⟩
        · rintro i (hi | rfl | rfl)
          · exact Or.inl hi
          · exact Or.inr g1
          · exact Or.inl h3
      · obtain ⟨b, k1, k2, k3, E, k4, k5, k6⟩ := hin x.s hx.1 hs
        have hab := hrep.fresh _ hrep.cell
        have hbn : b ≠ a.block := own_ne_cell k4 h1
        refine (take_c w a bm b (Maps.size E) (Maps.size D) D E x.s x.t x.m x.r fv h1 h4 hx.1 hx.2.1 hx.2.2.1 hx.2.2.2 k1 k4 (by have := held_le L x.s; have := hrep.len; omega) HO).mono ?_
        rintro e w' ⟨rfl, w1, hb1, hturn, g5⟩
        have g3 : w.grownBy w' (some b) := World.grownBy.andThen (b' := w1) ⟨hb1.os, hb1.tape, hb1.output, hb1.size, fun i hi _ => hb1.block i hi⟩ hturn.grown (fun j hj => Or.inr hj)
        refine ⟨rfl, fun i => F i ∨ i = b ∨ i = bm, ?_, ?_, Turn.of_grown g3 (fun j hj => by cases hj; exact Or.inl k3)⟩
        · have he := put_thing (E := E) (L := L) hx (k4.tidy law49) k5 k6
          refine rep_final (D := D) (D' := D) hrep hx hin hout hinj g3.size ?_ ?_ ?_ ?_ h2 ?_ (h4.kept g3 (by simpa using k2.symm)) g5 k2 ?_ ?_ ?_ ?_ ?_ he.1 he.2
          · exact Nat.lt_of_lt_of_le (hrep.fresh _ k3) g3.size
          · exact Nat.lt_of_lt_of_le (hrep.fresh _ h3) g3.size
          · exact (World.cell?_of_block (w := w) (a := a) (g3.block a.block hab (by simp; omega))).trans h1
          · exact (World.frozen?_of_block (w := w) (a := a) (g3.block a.block hab (by simp; omega))).trans hrep.free
          · intro i hi n1 n2 n3
            exact g3.block i (hrep.fresh i hi) (by simpa using n2)
          · omega
          · intro s' ws' hs'
            exact ⟨rfl, fun _ => rfl⟩
          · exact k1
          · exact hs
          · intro s' ws' hs' b' hb' hat'
            obtain ⟨b2, j1, j2, j3, E2, j4, _⟩ := hin s' ws' hb'
            have : b' = b2 := by
              have := (hat' .nil).symm.trans (j1 .nil)
              simp only [DataW.lit.injEq, Lit.int.injEq, true_and] at this
              omega
            subst this
            exact ⟨fun e => hs' (hinj s' x.s b ws' hx.1 hb' hs (by rw [← e]; exact hat') k1), own_ne_cell j4 h1⟩
        · rintro i (hi | rfl | rfl)
          · exact Or.inl hi
          · exact Or.inl k3
          · exact Or.inl h3
  · rw [hcf] at HO
    simp only [if_true]
    refine (take_no w a x.s x.t x.m x.r fv HO).mono ?_
    rintro e w' ⟨rfl, hb⟩
    exact ⟨rfl, Post.below hrep hb⟩
end Go.Proofs.Yteccbihjkolpcaa
