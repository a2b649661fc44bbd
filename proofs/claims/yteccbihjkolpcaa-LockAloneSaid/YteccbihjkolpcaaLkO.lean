/-
  The walk of 'others' at each of its three closures.
-/
import Derived.Test.YteccbihjkolpcaaLkB
set_option linter.unusedVariables false
set_option linter.unusedSimpArgs false
namespace Go.Proofs.Yteccbihjkolpcaa
open Go.RowKit Go.Maps LockP
theorem others_read (hb : Int → Int → Bool) (a : Addr) (F : Nat → Prop) (N bm : Nat) (L : List H) (s t : Int) (w : World)
    (hwf : ∀ h ∈ L, WfH h) (hbm : w.cell? a = some (.map (some bm))) (hO : Outer w F N bm L) (ws : wf s) (wt : wf t)
    (Hc : ∀ x y z w1, Below w.heap.size w w1 → Calls Try.prog 17 #[tv x y z] w1 fun e w2 => e = .returned (.bool (hb y z)) ∧ Below w1.heap.size w1 w2) :
    Calls Try.prog 22 #[.pointer (some a), .int .i64 s, .int .i64 t, .func (.func 17) #[] #[]] w fun e w' => e = .returned (.bool (L.any fun y => decide (y.s ≠ s) && hit t hb y)) ∧ Below w.heap.size w w' := by
  obtain ⟨hF, D, hown, hN, hin, hout, hinj⟩ := hO
  go_enter Try.func22, Try.ntmps22
  go_wp2_with (first
    | (at_range; refine wpList_range_own _ rfl _ 24 rfl 3 52 law3 Try.underlying24 _ bm (Maps.size D) D rfl hown ?_; intro w0 hrg0 hg0 hs0; clear hs0)
    | go_in)
  go_frame
  have hb0 : Below w.heap.size w w0 := ⟨hg0.os, hg0.tape, hg0.output, hg0.size, fun i hi => hg0.block i hi (by simp)⟩
  have HC := Lib.hid Hc
  have HI := Lib.hid hin
  have HO := Lib.hid hout
  clear Hc hin hout hinj
  go_loopw [9] (fun _ wr => ∃ (left : Lit → Bool) (cnt : Nat), wr.ranges Try.prog 3 mapElem bm w.heap.size (Maps.size D) D left cnt ∧ Below w.heap.size w wr ∧
      (∀ x, wf x → Maps.has D (.int .i64 x) = true → left (.int .i64 x) = false → x ≠ s → ∀ y ∈ L, y.s = x → hit t hb y = false))
    (fun _ wr => wr.rangeLeft bm w.heap.size)
  case atStart => exact ⟨_, _, hrg0, hb0, fun x wx h1 h2 => absurd (h1.symm.trans h2) (by simp)⟩
  case round =>
    obtain ⟨left, cnt, hrg, hbw, hno⟩ := hrel
    have HNO := Lib.hid hno
    clear hno
    go_wp2_with (first
      | (at_next; refine wpList_next_ranges _ rfl _ rfl 3 law3 mapElem (Value.int .i64) Value.map invK3 invV52 bm w.heap.size (Maps.size D) D _ _ rfl hrg ?_ ?_)
      | go_in)
    · intro _ hl0
      have hany : (L.any fun y => decide (y.s ≠ s) && hit t hb y) = false := by
        rw [List.any_eq_false]
        intro y hy
        by_cases hys : y.s = s
        · simp [hys]
        · have wy := (hwf y hy).1
          have hD : Maps.has D (.int .i64 y.s) = true := by
            cases hh : Maps.has D (.int .i64 y.s)
            · exact absurd rfl (held_zero.1 (HO.out _ wy hh) y hy)
            · rfl
          simp [HNO.out y.s wy hD (hl0 _) hys y hy rfl]
      have HA := Lib.hid hany
      clear hany
      go_wp2
      go_ret
      exact ⟨by rw [HA.out]; rfl, hbw⟩
    · intro x c kl yd ps w1 cnt1 hkl hlx hy hat hrg1 hlt hg1 hs1 hen
      clear hs1
      obtain ⟨x', ex, rfl, wx⟩ := Maps.keyOf_int_inv Try.underlying3 hkl
      cases ex
      have hhas : Maps.has D (.int .i64 x) = true := Maps.has_true_of_atKey hat
      obtain ⟨b, hb1, hb2, _, hInn⟩ := HI.out x wx hhas
      obtain ⟨rfl⟩ : c = some b := by
        have e := (hat .nil).symm.trans (hb1 .nil)
        subst e
        have := mapElem_lit hy
        injection this
      clear hat hb1 hkl hy
      have hbw1 : Below w.heap.size w w1 := hbw.grown hg1 (by have := hbw.size; omega) (fun k hk => by cases hk; exact Nat.le_refl _)
      by_cases hxs : x = s
      · subst hxs
        go_wp2
        go_roundw
        case rel =>
          refine ⟨_, cnt1, hrg1, hbw1, fun x' wx' h1 h2 h3 => ?_⟩
          refine HNO.out x' wx' h1 ?_ h3
          simpa [Maps.sameKey_ne (show (Lit.int .i64 x') ≠ .int .i64 x by simpa using h3)] using h2
        case measure => rw [hrg1.left_eq, hrg.left_eq]; exact hlt
      · have hxs' : (x == s) = false := by simpa using hxs
        obtain ⟨E, hE, hmem, hsz⟩ := hInn
        clear hsz
        have hE1 := own_below hE hbw1
        go_wp2_with (first
          | (at_range; refine wpList_range_own _ rfl _ 52 rfl 49 4 law49 Try.underlying52 _ b (Maps.size E) E rfl hE1 ?_; intro w2 hrg2 hg2 hs2; clear hs2)
          | go_in)
        go_frame
        have hb2 : Below w1.heap.size w1 w2 := ⟨hg2.os, hg2.tape, hg2.output, hg2.size, fun i hi => hg2.block i hi (by simp)⟩
        have hbw2 : Below w.heap.size w w2 := hbw1.trans (hb2.mono hbw1.size)
        have hrg12 := hrg1.kept hg2 (by simp) (by simp)
        have hms : ∀ x' y' z', wf x' → wf y' → wf z' → (Maps.has E (tk x' y' z') = true ↔ (⟨x, x', y', z'⟩ : H) ∈ L) := hmem
        have HM := Lib.hid hms
        clear hmem hms
        have hw1s : w.heap.size < w1.heap.size := Nat.lt_of_lt_of_le hrg1.lt (Nat.le_refl _)
        go_loopw [11] (fun _ wi => ∃ (lf : Lit → Bool) (cn2 : Nat), wi.ranges Try.prog 49 (plainElem Try.prog 4) b w1.heap.size (Maps.size E) E lf cn2 ∧ Below w.heap.size w wi ∧ wi.ranges Try.prog 3 mapElem bm w.heap.size (Maps.size D) D (fun z => left z && !z.sameKey (.int .i64 x)) cnt1 ∧
            (∀ x' y' z', wf x' → wf y' → wf z' → Maps.has E (tk x' y' z') = true → lf (tk x' y' z') = false → hit t hb ⟨x, x', y', z'⟩ = false))
          (fun _ wi => wi.rangeLeft b w1.heap.size)
        case atStart => exact ⟨_, _, hrg2, hbw2, hrg12, fun x' y' z' _ _ _ h1 h2 => absurd (h1.symm.trans h2) (by simp)⟩
        case round =>
          obtain ⟨lf, cn2, hri, hbi, hro, hni⟩ := hrel
          have HNI := Lib.hid hni
          clear hni
          go_wp2_with (first
            | (at_next; refine wpList_next_ranges _ rfl _ rfl 49 law49 (plainElem Try.prog 4) tvp (fun v : Value => v) invK49 (fun v _ _ => ⟨v, rfl⟩) b w1.heap.size (Maps.size E) E _ _ rfl hri ?_ ?_)
            | go_in)
          · intro _ hl0
            go_wp2
            go_roundw
            case rel =>
              refine ⟨_, cnt1, hro, hbi, fun x' wx' h1 h2 h3 y hy hyx => ?_⟩
              subst hyx
              by_cases hyx : y.s = x
              · have hw := hwf y hy
                have := HNI.out y.t y.m y.r hw.2.1 hw.2.2.1 hw.2.2.2 ((HM.out _ _ _ hw.2.1 hw.2.2.1 hw.2.2.2).2 (by rw [← hyx]; exact hy)) (hl0 _)
                rw [← hyx] at this
                exact this
              · refine HNO.out y.s wx' h1 ?_ h3 y hy rfl
                simpa [Maps.sameKey_ne (show (Lit.int .i64 y.s) ≠ .int .i64 x by simpa using hyx)] using h2
            case measure => rw [hro.left_eq, hrg.left_eq]; exact hlt
          · intro x' y' z' vv kl yd ps w3 cn3 hkl hlk _ hat hri3 hlt3 hg3 hs3 hen3
            have hE3 : Maps.has E kl = true := Maps.has_true_of_atKey hat
            have HLK := Lib.hid hE3
            clear hat hE3 hs3
            have hbi3 : Below w.heap.size w w3 := hbi.grown hg3 (by have := hbi.size; omega) (fun k hk => by cases hk; omega)
            have hro3 := hro.kept hg3 (by simp; have := hrg1.owns.lt; omega) (by simp; omega)
            simp only [tvp, tv] at hen3 hkl ⊢
            by_cases hxt : x' = t
            · subst hxt
              obtain ⟨wy', wz'⟩ : wf y' ∧ wf z' := by
                obtain ⟨p, q, r, e, _, h2, h3⟩ := key_inv hkl
                simp only [tv, Value.agg.injEq, Array.mk.injEq, List.cons.injEq, Value.int.injEq, true_and, and_true] at e
                obtain ⟨_, rfl, rfl⟩ := e
                exact ⟨h2, h3⟩
              have hkk := hkl.symm.trans (key_tv wt wy' wz')
              injection hkk with hkk
              subst hkk
              have hcall := HC.out x' y' z' (w3.alloc (.cells #[.int .i64 x', .int .i64 y', .int .i64 z'] 49)) (hbi3.alloc (by have := hbi3.size; omega) _)
              cases hh : hb y' z'
              · rw [hh] at hcall
                have HH := Lib.hid hh
                clear hh
                go_wp2_with (go_at_call 17; refine hcall.mono ?_; rintro e w4 ⟨rfl, hb4⟩)
                have hb34 : Below w3.heap.size w3 w4 := ((Below.refl _ _).alloc (Nat.le_refl _) _).trans (hb4.mono (by simp))
                have hg34 : w3.grownBy w4 none := ⟨hb34.os, hb34.tape, hb34.output, hb34.size, fun i hi _ => hb34.block i hi⟩
                have hri4 := hri3.kept hg34 (by simp) (by simp)
                go_roundw
                case rel =>
                  refine ⟨_, cn3, hri4, hbi3.trans (hb34.mono hbi3.size), hro3.kept hg34 (by simp) (by simp), fun x1 y1 z1 h1 h2 h3 h4 h5 => ?_⟩
                  by_cases he : x1 = x' ∧ y1 = y' ∧ z1 = z'
                  · obtain ⟨rfl, rfl, rfl⟩ := he
                    simp [hit, HH.out]
                  · refine HNI.out x1 y1 z1 h1 h2 h3 h4 ?_
                    have hne : tk x1 y1 z1 ≠ tk x' y' z' := fun e => he (tk_inj h1 h2 h3 wt wy' wz' e)
                    simpa [Maps.sameKey_ne hne] using h5
                case measure => rw [hri4.left_eq, hri.left_eq]; exact hlt3
              · rw [hh] at hcall
                have hany : (L.any fun y => decide (y.s ≠ s) && hit x' hb y) = true := by
                  rw [List.any_eq_true]
                  refine ⟨⟨x, x', y', z'⟩, (HM.out _ _ _ wt wy' wz').1 ?_, by simp [hit, hh, hxs]⟩
                  exact HLK.out
                have HA := Lib.hid hany
                clear hany hh
                go_wp2_with (go_at_call 17; refine hcall.mono ?_; rintro e w4 ⟨rfl, hb4⟩)
                have hb34 : Below w3.heap.size w3 w4 := ((Below.refl _ _).alloc (Nat.le_refl _) _).trans (hb4.mono (by simp))
                go_ret
                exact ⟨by rw [HA.out]; rfl, hbi3.trans (hb34.mono hbi3.size)⟩
            · have hxt' : (x' == t) = false := by simpa using hxt
              obtain ⟨p, q, r, e, wp, wq, wr'⟩ := key_inv hkl
              simp only [tv, Value.agg.injEq, Array.mk.injEq, List.cons.injEq, Value.int.injEq, true_and, and_true] at e
              obtain ⟨rfl, rfl, rfl⟩ := e
              have hkk := hkl.symm.trans (key_tv wp wq wr')
              injection hkk with hkk
              subst hkk
              go_wp2_with fail
              have hb34 : Below w3.heap.size w3 (w3.alloc (.cells #[.int .i64 x', .int .i64 y', .int .i64 z'] 49)) := (Below.refl _ _).alloc (Nat.le_refl _) _
              have hg34 : w3.grownBy (w3.alloc (.cells #[.int .i64 x', .int .i64 y', .int .i64 z'] 49)) none := ⟨hb34.os, hb34.tape, hb34.output, hb34.size, fun i hi _ => hb34.block i hi⟩
              have hri4 := hri3.kept hg34 (by simp) (by simp)
              go_roundw
              case rel =>
                refine ⟨_, cn3, hri4, hbi3.trans (hb34.mono hbi3.size), hro3.kept hg34 (by simp) (by simp), fun x1 y1 z1 h1 h2 h3 h4 h5 => ?_⟩
                by_cases he : x1 = x' ∧ y1 = y' ∧ z1 = z'
                · obtain ⟨rfl, rfl, rfl⟩ := he
                  simp [hit, hxt]
                · refine HNI.out x1 y1 z1 h1 h2 h3 h4 ?_
                  have hne : tk x1 y1 z1 ≠ tk x' y' z' := fun e => he (tk_inj h1 h2 h3 wp wq wr' e)
                  simpa [Maps.sameKey_ne hne] using h5
              case measure => rw [hri4.left_eq, hri.left_eq]; exact hlt3
theorem others_write (B : Nat) (hb : Int → Int → Bool) (a : Addr) (F : Nat → Prop) (N bm : Nat) (L : List H) (s t : Int) (w : World)
    (hwf : ∀ h ∈ L, WfH h) (hbm : w.cell? a = some (.map (some bm))) (hO : Outer w F N bm L) (ws : wf s) (wt : wf t)
    (Hc : ∀ x y z w1, Below w.heap.size w w1 → Calls Try.prog 18 #[tv x y z, .pointer (some ⟨B, 0, none⟩)] w1 fun e w2 => e = .returned (.bool (hb y z)) ∧ Below w1.heap.size w1 w2) :
    Calls Try.prog 22 #[.pointer (some a), .int .i64 s, .int .i64 t, .func (.func 18) #[] #[.pointer (some ⟨B, 0, none⟩)]] w fun e w' => e = .returned (.bool (L.any fun y => decide (y.s ≠ s) && hit t hb y)) ∧ Below w.heap.size w w' := by
  obtain ⟨hF, D, hown, hN, hin, hout, hinj⟩ := hO
  go_enter Try.func22, Try.ntmps22
  go_wp2_with (first
    | (at_range; refine wpList_range_own _ rfl _ 24 rfl 3 52 law3 Try.underlying24 _ bm (Maps.size D) D rfl hown ?_; intro w0 hrg0 hg0 hs0; clear hs0)
    | go_in)
  go_frame
  have hb0 : Below w.heap.size w w0 := ⟨hg0.os, hg0.tape, hg0.output, hg0.size, fun i hi => hg0.block i hi (by simp)⟩
  have HC := Lib.hid Hc
  have HI := Lib.hid hin
  have HO := Lib.hid hout
  clear Hc hin hout hinj
  go_loopw [9] (fun _ wr => ∃ (left : Lit → Bool) (cnt : Nat), wr.ranges Try.prog 3 mapElem bm w.heap.size (Maps.size D) D left cnt ∧ Below w.heap.size w wr ∧
      (∀ x, wf x → Maps.has D (.int .i64 x) = true → left (.int .i64 x) = false → x ≠ s → ∀ y ∈ L, y.s = x → hit t hb y = false))
    (fun _ wr => wr.rangeLeft bm w.heap.size)
  case atStart => exact ⟨_, _, hrg0, hb0, fun x wx h1 h2 => absurd (h1.symm.trans h2) (by simp)⟩
  case round =>
    obtain ⟨left, cnt, hrg, hbw, hno⟩ := hrel
    have HNO := Lib.hid hno
    clear hno
    go_wp2_with (first
      | (at_next; refine wpList_next_ranges _ rfl _ rfl 3 law3 mapElem (Value.int .i64) Value.map invK3 invV52 bm w.heap.size (Maps.size D) D _ _ rfl hrg ?_ ?_)
      | go_in)
    · intro _ hl0
      have hany : (L.any fun y => decide (y.s ≠ s) && hit t hb y) = false := by
        rw [List.any_eq_false]
        intro y hy
        by_cases hys : y.s = s
        · simp [hys]
        · have wy := (hwf y hy).1
          have hD : Maps.has D (.int .i64 y.s) = true := by
            cases hh : Maps.has D (.int .i64 y.s)
            · exact absurd rfl (held_zero.1 (HO.out _ wy hh) y hy)
            · rfl
          simp [HNO.out y.s wy hD (hl0 _) hys y hy rfl]
      have HA := Lib.hid hany
      clear hany
      go_wp2
      go_ret
      exact ⟨by rw [HA.out]; rfl, hbw⟩
    · intro x c kl yd ps w1 cnt1 hkl hlx hy hat hrg1 hlt hg1 hs1 hen
      clear hs1
      obtain ⟨x', ex, rfl, wx⟩ := Maps.keyOf_int_inv Try.underlying3 hkl
      cases ex
      have hhas : Maps.has D (.int .i64 x) = true := Maps.has_true_of_atKey hat
      obtain ⟨b, hb1, hb2, _, hInn⟩ := HI.out x wx hhas
      obtain ⟨rfl⟩ : c = some b := by
        have e := (hat .nil).symm.trans (hb1 .nil)
        subst e
        have := mapElem_lit hy
        injection this
      clear hat hb1 hkl hy
      have hbw1 : Below w.heap.size w w1 := hbw.grown hg1 (by have := hbw.size; omega) (fun k hk => by cases hk; exact Nat.le_refl _)
      by_cases hxs : x = s
      · subst hxs
        go_wp2
        go_roundw
        case rel =>
          refine ⟨_, cnt1, hrg1, hbw1, fun x' wx' h1 h2 h3 => ?_⟩
          refine HNO.out x' wx' h1 ?_ h3
          simpa [Maps.sameKey_ne (show (Lit.int .i64 x') ≠ .int .i64 x by simpa using h3)] using h2
        case measure => rw [hrg1.left_eq, hrg.left_eq]; exact hlt
      · have hxs' : (x == s) = false := by simpa using hxs
        obtain ⟨E, hE, hmem, hsz⟩ := hInn
        clear hsz
        have hE1 := own_below hE hbw1
        go_wp2_with (first
          | (at_range; refine wpList_range_own _ rfl _ 52 rfl 49 4 law49 Try.underlying52 _ b (Maps.size E) E rfl hE1 ?_; intro w2 hrg2 hg2 hs2; clear hs2)
          | go_in)
        go_frame
        have hb2 : Below w1.heap.size w1 w2 := ⟨hg2.os, hg2.tape, hg2.output, hg2.size, fun i hi => hg2.block i hi (by simp)⟩
        have hbw2 : Below w.heap.size w w2 := hbw1.trans (hb2.mono hbw1.size)
        have hrg12 := hrg1.kept hg2 (by simp) (by simp)
        have hms : ∀ x' y' z', wf x' → wf y' → wf z' → (Maps.has E (tk x' y' z') = true ↔ (⟨x, x', y', z'⟩ : H) ∈ L) := hmem
        have HM := Lib.hid hms
        clear hmem hms
        have hw1s : w.heap.size < w1.heap.size := Nat.lt_of_lt_of_le hrg1.lt (Nat.le_refl _)
        go_loopw [11] (fun _ wi => ∃ (lf : Lit → Bool) (cn2 : Nat), wi.ranges Try.prog 49 (plainElem Try.prog 4) b w1.heap.size (Maps.size E) E lf cn2 ∧ Below w.heap.size w wi ∧ wi.ranges Try.prog 3 mapElem bm w.heap.size (Maps.size D) D (fun z => left z && !z.sameKey (.int .i64 x)) cnt1 ∧
            (∀ x' y' z', wf x' → wf y' → wf z' → Maps.has E (tk x' y' z') = true → lf (tk x' y' z') = false → hit t hb ⟨x, x', y', z'⟩ = false))
          (fun _ wi => wi.rangeLeft b w1.heap.size)
        case atStart => exact ⟨_, _, hrg2, hbw2, hrg12, fun x' y' z' _ _ _ h1 h2 => absurd (h1.symm.trans h2) (by simp)⟩
        case round =>
          obtain ⟨lf, cn2, hri, hbi, hro, hni⟩ := hrel
          have HNI := Lib.hid hni
          clear hni
          go_wp2_with (first
            | (at_next; refine wpList_next_ranges _ rfl _ rfl 49 law49 (plainElem Try.prog 4) tvp (fun v : Value => v) invK49 (fun v _ _ => ⟨v, rfl⟩) b w1.heap.size (Maps.size E) E _ _ rfl hri ?_ ?_)
            | go_in)
          · intro _ hl0
            go_wp2
            go_roundw
            case rel =>
              refine ⟨_, cnt1, hro, hbi, fun x' wx' h1 h2 h3 y hy hyx => ?_⟩
              subst hyx
              by_cases hyx : y.s = x
              · have hw := hwf y hy
                have := HNI.out y.t y.m y.r hw.2.1 hw.2.2.1 hw.2.2.2 ((HM.out _ _ _ hw.2.1 hw.2.2.1 hw.2.2.2).2 (by rw [← hyx]; exact hy)) (hl0 _)
                rw [← hyx] at this
                exact this
              · refine HNO.out y.s wx' h1 ?_ h3 y hy rfl
                simpa [Maps.sameKey_ne (show (Lit.int .i64 y.s) ≠ .int .i64 x by simpa using hyx)] using h2
            case measure => rw [hro.left_eq, hrg.left_eq]; exact hlt
          · intro x' y' z' vv kl yd ps w3 cn3 hkl hlk _ hat hri3 hlt3 hg3 hs3 hen3
            have hE3 : Maps.has E kl = true := Maps.has_true_of_atKey hat
            have HLK := Lib.hid hE3
            clear hat hE3 hs3
            have hbi3 : Below w.heap.size w w3 := hbi.grown hg3 (by have := hbi.size; omega) (fun k hk => by cases hk; omega)
            have hro3 := hro.kept hg3 (by simp; have := hrg1.owns.lt; omega) (by simp; omega)
            simp only [tvp, tv] at hen3 hkl ⊢
            by_cases hxt : x' = t
            · subst hxt
              obtain ⟨wy', wz'⟩ : wf y' ∧ wf z' := by
                obtain ⟨p, q, r, e, _, h2, h3⟩ := key_inv hkl
                simp only [tv, Value.agg.injEq, Array.mk.injEq, List.cons.injEq, Value.int.injEq, true_and, and_true] at e
                obtain ⟨_, rfl, rfl⟩ := e
                exact ⟨h2, h3⟩
              have hkk := hkl.symm.trans (key_tv wt wy' wz')
              injection hkk with hkk
              subst hkk
              have hcall := HC.out x' y' z' (w3.alloc (.cells #[.int .i64 x', .int .i64 y', .int .i64 z'] 49)) (hbi3.alloc (by have := hbi3.size; omega) _)
              cases hh : hb y' z'
              · rw [hh] at hcall
                have HH := Lib.hid hh
                clear hh
                go_wp2_with (go_at_call 18; refine hcall.mono ?_; rintro e w4 ⟨rfl, hb4⟩)
                have hb34 : Below w3.heap.size w3 w4 := ((Below.refl _ _).alloc (Nat.le_refl _) _).trans (hb4.mono (by simp))
                have hg34 : w3.grownBy w4 none := ⟨hb34.os, hb34.tape, hb34.output, hb34.size, fun i hi _ => hb34.block i hi⟩
                have hri4 := hri3.kept hg34 (by simp) (by simp)
                go_roundw
                case rel =>
                  refine ⟨_, cn3, hri4, hbi3.trans (hb34.mono hbi3.size), hro3.kept hg34 (by simp) (by simp), fun x1 y1 z1 h1 h2 h3 h4 h5 => ?_⟩
                  by_cases he : x1 = x' ∧ y1 = y' ∧ z1 = z'
                  · obtain ⟨rfl, rfl, rfl⟩ := he
                    simp [hit, HH.out]
                  · refine HNI.out x1 y1 z1 h1 h2 h3 h4 ?_
                    have hne : tk x1 y1 z1 ≠ tk x' y' z' := fun e => he (tk_inj h1 h2 h3 wt wy' wz' e)
                    simpa [Maps.sameKey_ne hne] using h5
                case measure => rw [hri4.left_eq, hri.left_eq]; exact hlt3
              · rw [hh] at hcall
                have hany : (L.any fun y => decide (y.s ≠ s) && hit x' hb y) = true := by
                  rw [List.any_eq_true]
                  refine ⟨⟨x, x', y', z'⟩, (HM.out _ _ _ wt wy' wz').1 ?_, by simp [hit, hh, hxs]⟩
                  exact HLK.out
                have HA := Lib.hid hany
                clear hany hh
                go_wp2_with (go_at_call 18; refine hcall.mono ?_; rintro e w4 ⟨rfl, hb4⟩)
                have hb34 : Below w3.heap.size w3 w4 := ((Below.refl _ _).alloc (Nat.le_refl _) _).trans (hb4.mono (by simp))
                go_ret
                exact ⟨by rw [HA.out]; rfl, hbi3.trans (hb34.mono hbi3.size)⟩
            · have hxt' : (x' == t) = false := by simpa using hxt
              obtain ⟨p, q, r, e, wp, wq, wr'⟩ := key_inv hkl
              simp only [tv, Value.agg.injEq, Array.mk.injEq, List.cons.injEq, Value.int.injEq, true_and, and_true] at e
              obtain ⟨rfl, rfl, rfl⟩ := e
              have hkk := hkl.symm.trans (key_tv wp wq wr')
              injection hkk with hkk
              subst hkk
              go_wp2_with fail
              have hb34 : Below w3.heap.size w3 (w3.alloc (.cells #[.int .i64 x', .int .i64 y', .int .i64 z'] 49)) := (Below.refl _ _).alloc (Nat.le_refl _) _
              have hg34 : w3.grownBy (w3.alloc (.cells #[.int .i64 x', .int .i64 y', .int .i64 z'] 49)) none := ⟨hb34.os, hb34.tape, hb34.output, hb34.size, fun i hi _ => hb34.block i hi⟩
              have hri4 := hri3.kept hg34 (by simp) (by simp)
              go_roundw
              case rel =>
                refine ⟨_, cn3, hri4, hbi3.trans (hb34.mono hbi3.size), hro3.kept hg34 (by simp) (by simp), fun x1 y1 z1 h1 h2 h3 h4 h5 => ?_⟩
                by_cases he : x1 = x' ∧ y1 = y' ∧ z1 = z'
                · obtain ⟨rfl, rfl, rfl⟩ := he
                  simp [hit, hxt]
                · refine HNI.out x1 y1 z1 h1 h2 h3 h4 ?_
                  have hne : tk x1 y1 z1 ≠ tk x' y' z' := fun e => he (tk_inj h1 h2 h3 wp wq wr' e)
                  simpa [Maps.sameKey_ne hne] using h5
              case measure => rw [hri4.left_eq, hri.left_eq]; exact hlt3
theorem others_alone (hb : Int → Int → Bool) (a : Addr) (F : Nat → Prop) (N bm : Nat) (L : List H) (s t : Int) (w : World)
    (hwf : ∀ h ∈ L, WfH h) (hbm : w.cell? a = some (.map (some bm))) (hO : Outer w F N bm L) (ws : wf s) (wt : wf t)
    (Hc : ∀ x y z w1, Below w.heap.size w w1 → Calls Try.prog 19 #[tv x y z] w1 fun e w2 => e = .returned (.bool (hb y z)) ∧ Below w1.heap.size w1 w2) :
    Calls Try.prog 22 #[.pointer (some a), .int .i64 s, .int .i64 t, .func (.func 19) #[] #[]] w fun e w' => e = .returned (.bool (L.any fun y => decide (y.s ≠ s) && hit t hb y)) ∧ Below w.heap.size w w' := by
  obtain ⟨hF, D, hown, hN, hin, hout, hinj⟩ := hO
  go_enter Try.func22, Try.ntmps22
  go_wp2_with (first
    | (at_range; refine wpList_range_own _ rfl _ 24 rfl 3 52 law3 Try.underlying24 _ bm (Maps.size D) D rfl hown ?_; intro w0 hrg0 hg0 hs0; clear hs0)
    | go_in)
  go_frame
  have hb0 : Below w.heap.size w w0 := ⟨hg0.os, hg0.tape, hg0.output, hg0.size, fun i hi => hg0.block i hi (by simp)⟩
  have HC := Lib.hid Hc
  have HI := Lib.hid hin
  have HO := Lib.hid hout
  clear Hc hin hout hinj
  go_loopw [9] (fun _ wr => ∃ (left : Lit → Bool) (cnt : Nat), wr.ranges Try.prog 3 mapElem bm w.heap.size (Maps.size D) D left cnt ∧ Below w.heap.size w wr ∧
      (∀ x, wf x → Maps.has D (.int .i64 x) = true → left (.int .i64 x) = false → x ≠ s → ∀ y ∈ L, y.s = x → hit t hb y = false))
    (fun _ wr => wr.rangeLeft bm w.heap.size)
  case atStart => exact ⟨_, _, hrg0, hb0, fun x wx h1 h2 => absurd (h1.symm.trans h2) (by simp)⟩
  case round =>
    obtain ⟨left, cnt, hrg, hbw, hno⟩ := hrel
    have HNO := Lib.hid hno
    clear hno
    go_wp2_with (first
      | (at_next; refine wpList_next_ranges _ rfl _ rfl 3 law3 mapElem (Value.int .i64) Value.map invK3 invV52 bm w.heap.size (Maps.size D) D _ _ rfl hrg ?_ ?_)
      | go_in)
    · intro _ hl0
      have hany : (L.any fun y => decide (y.s ≠ s) && hit t hb y) = false := by
        rw [List.any_eq_false]
        intro y hy
        by_cases hys : y.s = s
        · simp [hys]
        · have wy := (hwf y hy).1
          have hD : Maps.has D (.int .i64 y.s) = true := by
            cases hh : Maps.has D (.int .i64 y.s)
            · exact absurd rfl (held_zero.1 (HO.out _ wy hh) y hy)
            · rfl
          simp [HNO.out y.s wy hD (hl0 _) hys y hy rfl]
      have HA := Lib.hid hany
      clear hany
      go_wp2
      go_ret
      exact ⟨by rw [HA.out]; rfl, hbw⟩
    · intro x c kl yd ps w1 cnt1 hkl hlx hy hat hrg1 hlt hg1 hs1 hen
      clear hs1
      obtain ⟨x', ex, rfl, wx⟩ := Maps.keyOf_int_inv Try.underlying3 hkl
      cases ex
      have hhas : Maps.has D (.int .i64 x) = true := Maps.has_true_of_atKey hat
      obtain ⟨b, hb1, hb2, _, hInn⟩ := HI.out x wx hhas
      obtain ⟨rfl⟩ : c = some b := by
        have e := (hat .nil).symm.trans (hb1 .nil)
        subst e
        have := mapElem_lit hy
        injection this
      clear hat hb1 hkl hy
      have hbw1 : Below w.heap.size w w1 := hbw.grown hg1 (by have := hbw.size; omega) (fun k hk => by cases hk; exact Nat.le_refl _)
      by_cases hxs : x = s
      · subst hxs
        go_wp2
        go_roundw
        case rel =>
          refine ⟨_, cnt1, hrg1, hbw1, fun x' wx' h1 h2 h3 => ?_⟩
          refine HNO.out x' wx' h1 ?_ h3
          simpa [Maps.sameKey_ne (show (Lit.int .i64 x') ≠ .int .i64 x by simpa using h3)] using h2
        case measure => rw [hrg1.left_eq, hrg.left_eq]; exact hlt
      · have hxs' : (x == s) = false := by simpa using hxs
        obtain ⟨E, hE, hmem, hsz⟩ := hInn
        clear hsz
        have hE1 := own_below hE hbw1
        go_wp2_with (first
          | (at_range; refine wpList_range_own _ rfl _ 52 rfl 49 4 law49 Try.underlying52 _ b (Maps.size E) E rfl hE1 ?_; intro w2 hrg2 hg2 hs2; clear hs2)
          | go_in)
        go_frame
        have hb2 : Below w1.heap.size w1 w2 := ⟨hg2.os, hg2.tape, hg2.output, hg2.size, fun i hi => hg2.block i hi (by simp)⟩
        have hbw2 : Below w.heap.size w w2 := hbw1.trans (hb2.mono hbw1.size)
        have hrg12 := hrg1.kept hg2 (by simp) (by simp)
        have hms : ∀ x' y' z', wf x' → wf y' → wf z' → (Maps.has E (tk x' y' z') = true ↔ (⟨x, x', y', z'⟩ : H) ∈ L) := hmem
        have HM := Lib.hid hms
        clear hmem hms
        have hw1s : w.heap.size < w1.heap.size := Nat.lt_of_lt_of_le hrg1.lt (Nat.le_refl _)
        go_loopw [11] (fun _ wi => ∃ (lf : Lit → Bool) (cn2 : Nat), wi.ranges Try.prog 49 (plainElem Try.prog 4) b w1.heap.size (Maps.size E) E lf cn2 ∧ Below w.heap.size w wi ∧ wi.ranges Try.prog 3 mapElem bm w.heap.size (Maps.size D) D (fun z => left z && !z.sameKey (.int .i64 x)) cnt1 ∧
            (∀ x' y' z', wf x' → wf y' → wf z' → Maps.has E (tk x' y' z') = true → lf (tk x' y' z') = false → hit t hb ⟨x, x', y', z'⟩ = false))
          (fun _ wi => wi.rangeLeft b w1.heap.size)
        case atStart => exact ⟨_, _, hrg2, hbw2, hrg12, fun x' y' z' _ _ _ h1 h2 => absurd (h1.symm.trans h2) (by simp)⟩
        case round =>
          obtain ⟨lf, cn2, hri, hbi, hro, hni⟩ := hrel
          have HNI := Lib.hid hni
          clear hni
          go_wp2_with (first
            | (at_next; refine wpList_next_ranges _ rfl _ rfl 49 law49 (plainElem Try.prog 4) tvp (fun v : Value => v) invK49 (fun v _ _ => ⟨v, rfl⟩) b w1.heap.size (Maps.size E) E _ _ rfl hri ?_ ?_)
            | go_in)
          · intro _ hl0
            go_wp2
            go_roundw
            case rel =>
              refine ⟨_, cnt1, hro, hbi, fun x' wx' h1 h2 h3 y hy hyx => ?_⟩
              subst hyx
              by_cases hyx : y.s = x
              · have hw := hwf y hy
                have := HNI.out y.t y.m y.r hw.2.1 hw.2.2.1 hw.2.2.2 ((HM.out _ _ _ hw.2.1 hw.2.2.1 hw.2.2.2).2 (by rw [← hyx]; exact hy)) (hl0 _)
                rw [← hyx] at this
                exact this
              · refine HNO.out y.s wx' h1 ?_ h3 y hy rfl
                simpa [Maps.sameKey_ne (show (Lit.int .i64 y.s) ≠ .int .i64 x by simpa using hyx)] using h2
            case measure => rw [hro.left_eq, hrg.left_eq]; exact hlt
          · intro x' y' z' vv kl yd ps w3 cn3 hkl hlk _ hat hri3 hlt3 hg3 hs3 hen3
            have hE3 : Maps.has E kl = true := Maps.has_true_of_atKey hat
            have HLK := Lib.hid hE3
            clear hat hE3 hs3
            have hbi3 : Below w.heap.size w w3 := hbi.grown hg3 (by have := hbi.size; omega) (fun k hk => by cases hk; omega)
            have hro3 := hro.kept hg3 (by simp; have := hrg1.owns.lt; omega) (by simp; omega)
            simp only [tvp, tv] at hen3 hkl ⊢
            by_cases hxt : x' = t
            · subst hxt
              obtain ⟨wy', wz'⟩ : wf y' ∧ wf z' := by
                obtain ⟨p, q, r, e, _, h2, h3⟩ := key_inv hkl
                simp only [tv, Value.agg.injEq, Array.mk.injEq, List.cons.injEq, Value.int.injEq, true_and, and_true] at e
                obtain ⟨_, rfl, rfl⟩ := e
                exact ⟨h2, h3⟩
              have hkk := hkl.symm.trans (key_tv wt wy' wz')
              injection hkk with hkk
              subst hkk
              have hcall := HC.out x' y' z' (w3.alloc (.cells #[.int .i64 x', .int .i64 y', .int .i64 z'] 49)) (hbi3.alloc (by have := hbi3.size; omega) _)
              cases hh : hb y' z'
              · rw [hh] at hcall
                have HH := Lib.hid hh
                clear hh
                go_wp2_with (go_at_call 19; refine hcall.mono ?_; rintro e w4 ⟨rfl, hb4⟩)
                have hb34 : Below w3.heap.size w3 w4 := ((Below.refl _ _).alloc (Nat.le_refl _) _).trans (hb4.mono (by simp))
                have hg34 : w3.grownBy w4 none := ⟨hb34.os, hb34.tape, hb34.output, hb34.size, fun i hi _ => hb34.block i hi⟩
                have hri4 := hri3.kept hg34 (by simp) (by simp)
                go_roundw
                case rel =>
                  refine ⟨_, cn3, hri4, hbi3.trans (hb34.mono hbi3.size), hro3.kept hg34 (by simp) (by simp), fun x1 y1 z1 h1 h2 h3 h4 h5 => ?_⟩
                  by_cases he : x1 = x' ∧ y1 = y' ∧ z1 = z'
                  · obtain ⟨rfl, rfl, rfl⟩ := he
                    simp [hit, HH.out]
                  · refine HNI.out x1 y1 z1 h1 h2 h3 h4 ?_
                    have hne : tk x1 y1 z1 ≠ tk x' y' z' := fun e => he (tk_inj h1 h2 h3 wt wy' wz' e)
                    simpa [Maps.sameKey_ne hne] using h5
                case measure => rw [hri4.left_eq, hri.left_eq]; exact hlt3
              · rw [hh] at hcall
                have hany : (L.any fun y => decide (y.s ≠ s) && hit x' hb y) = true := by
                  rw [List.any_eq_true]
                  refine ⟨⟨x, x', y', z'⟩, (HM.out _ _ _ wt wy' wz').1 ?_, by simp [hit, hh, hxs]⟩
                  exact HLK.out
                have HA := Lib.hid hany
                clear hany hh
                go_wp2_with (go_at_call 19; refine hcall.mono ?_; rintro e w4 ⟨rfl, hb4⟩)
                have hb34 : Below w3.heap.size w3 w4 := ((Below.refl _ _).alloc (Nat.le_refl _) _).trans (hb4.mono (by simp))
                go_ret
                exact ⟨by rw [HA.out]; rfl, hbi3.trans (hb34.mono hbi3.size)⟩
            · have hxt' : (x' == t) = false := by simpa using hxt
              obtain ⟨p, q, r, e, wp, wq, wr'⟩ := key_inv hkl
              simp only [tv, Value.agg.injEq, Array.mk.injEq, List.cons.injEq, Value.int.injEq, true_and, and_true] at e
              obtain ⟨rfl, rfl, rfl⟩ := e
              have hkk := hkl.symm.trans (key_tv wp wq wr')
              injection hkk with hkk
              subst hkk
              go_wp2_with fail
              have hb34 : Below w3.heap.size w3 (w3.alloc (.cells #[.int .i64 x', .int .i64 y', .int .i64 z'] 49)) := (Below.refl _ _).alloc (Nat.le_refl _) _
              have hg34 : w3.grownBy (w3.alloc (.cells #[.int .i64 x', .int .i64 y', .int .i64 z'] 49)) none := ⟨hb34.os, hb34.tape, hb34.output, hb34.size, fun i hi _ => hb34.block i hi⟩
              have hri4 := hri3.kept hg34 (by simp) (by simp)
              go_roundw
              case rel =>
                refine ⟨_, cn3, hri4, hbi3.trans (hb34.mono hbi3.size), hro3.kept hg34 (by simp) (by simp), fun x1 y1 z1 h1 h2 h3 h4 h5 => ?_⟩
                by_cases he : x1 = x' ∧ y1 = y' ∧ z1 = z'
                · obtain ⟨rfl, rfl, rfl⟩ := he
                  simp [hit, hxt]
                · refine HNI.out x1 y1 z1 h1 h2 h3 h4 ?_
                  have hne : tk x1 y1 z1 ≠ tk x' y' z' := fun e => he (tk_inj h1 h2 h3 wp wq wr' e)
                  simpa [Maps.sameKey_ne hne] using h5
              case measure => rw [hri4.left_eq, hri.left_eq]; exact hlt3
end Go.Proofs.Yteccbihjkolpcaa
