import Derived.Test.YteccbihjkolpcaaLkX
set_option linter.unusedVariables false
set_option linter.unusedSimpArgs false
namespace Go.Proofs.Yteccbihjkolpcaa
open Go.RowKit Go.Maps LockP

theorem rep_new (w : World) : Rep (w.alloc (.cells #[.map none] 26)) ⟨w.heap.size, 0, none⟩ (fun i => i = w.heap.size) 0 [] :=
  ⟨fun h hh => by simp at hh, List.nodup_nil, Nat.le_refl _, fun i hi => by simp; omega, rfl, by simp, Or.inl ⟨by simp, rfl⟩⟩

theorem Turn.below {F : Nat → Prop} {B : Nat} {w0 w w' : World} (hb : Below B w0 w) (h : Turn F w w') (hF : ∀ i, F i → B ≤ i) (hB : B ≤ w.heap.size) : Below B w0 w' :=
  hb.trans ⟨h.os, h.tape, h.output, h.size, fun k hk => h.block k (by omega) (fun hf => by have := hF k hf; omega)⟩

theorem speaks_any (w : World) : Calls Try.prog 7 #[] w fun e w' => e = .returned (.bool true) ∧ Below w.heap.size w w' := by
  have hN : ∀ N, N < 10 → N + 2 < maxLen := fun N h => by unfold maxLen; omega
  go_enter Try.func7, Try.ntmps7
  go_wp2_with fail
  have w7 : wf 7 := (by decide : (Lit.int .i64 7).wf = true)
  refine (write_rep _ _ _ _ _ 1 7 1 (rep_new w) wf1 w7 wf1 (hN _ (by omega))).mono ?_
  rintro e w1 ⟨rfl, F1, hr1, hF1, ht1⟩
  have e1 : LockP.take [] ⟨1, 7, 1, 1⟩ = ([⟨1, 7, 1, 1⟩], 0) := by decide
  rw [e1] at hr1 ⊢
  go_wp2_with fail
  refine (write_rep _ _ _ _ _ 2 7 2 hr1 wf2 w7 wf2 (hN _ (by omega))).mono ?_
  rintro e w2 ⟨rfl, F2, hr2, hF2, ht2⟩
  have e2 : LockP.take [⟨1, 7, 1, 1⟩] ⟨2, 7, 1, 2⟩ = ([⟨1, 7, 1, 1⟩, ⟨2, 7, 1, 2⟩], 0) := by decide
  rw [e2] at hr2 ⊢
  go_wp2_with fail
  refine (read_rep _ _ _ _ _ 1 7 hr2 wf1 w7 (hN _ (by omega))).mono ?_
  rintro e w3 ⟨rfl, F3, hr3, hF3, ht3⟩
  have e3 : LockP.take [⟨1, 7, 1, 1⟩, ⟨2, 7, 1, 2⟩] ⟨1, 7, 0, 0⟩ = ([⟨1, 7, 1, 1⟩, ⟨2, 7, 1, 2⟩], 16) := by decide
  rw [e3] at hr3 ⊢
  go_wp2_with fail
  refine (held_rep _ _ _ _ _ 1 hr3 wf1).mono ?_
  rintro e w4 ⟨rfl, rfl⟩
  have e4 : held [⟨1, 7, 1, 1⟩, ⟨2, 7, 1, 2⟩] 1 = 1 := by decide
  rw [e4]
  go_wp2_with fail
  go_ret
  refine ⟨rfl, ?_⟩
  have hb0 : Below w.heap.size w (w.alloc (.cells #[.map none] 26)) := (Below.refl _ _).alloc (Nat.le_refl _) _
  have g0 : ∀ i, i = w.heap.size → w.heap.size ≤ i := fun i hi => by omega
  have hb1 := ht1.below hb0 g0 (by simp)
  have hs0 : w.heap.size ≤ (w.alloc (.cells #[.map none] 26)).heap.size := by simp
  have g1 : ∀ i, F1 i → w.heap.size ≤ i := fun i hi => by
    rcases hF1 i hi with h | h
    · exact g0 i h
    · omega
  have hb2 := ht2.below hb1 g1 hb1.size
  have g2 : ∀ i, F2 i → w.heap.size ≤ i := fun i hi => by
    rcases hF2 i hi with h | h
    · exact g1 i h
    · have := hb1.size; omega
  exact ht3.below hb2 g2 hb2.size
end Go.Proofs.Yteccbihjkolpcaa
