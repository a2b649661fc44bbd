import Derived.Test.YteccbihjkolpcaaLkU
set_option linter.unusedVariables false
set_option linter.unusedSimpArgs false
namespace Go.Proofs.Yteccbihjkolpcaa
open Go.RowKit Go.Maps LockP

theorem delete_func (bm n B : Nat) (D0 : DataW Unit) (s : Int) (w : World) (hown : w.ownsMap Try.prog 3 mapElem bm n D0) (ws : wf s) (hs : Maps.has D0 (.int .i64 s) = true) (hc : w.cell? ⟨B, 0, none⟩ = some (.int .i64 s)) :
    Calls Try.prog 20 #[.map (some bm), .func (.func 21) #[] #[.pointer (some ⟨B, 0, none⟩)]] w fun e w' => e = .returned (.tuple #[]) ∧ w'.ownsMap Try.prog 3 mapElem bm n (D0.del (.int .i64 s)) ∧ w.grownBy w' (some bm) := by
  have hBm : B ≠ bm := fun e => own_ne_cell hown hc e.symm
  have hBl := World.block_lt_of_cell? w _ hc
  have hlt := hown.lt
  have HS := Lib.hid hs
  clear hs
  go_enter Try.func20, Try.ntmps20
  go_wp2_with (first
    | (at_range; refine wpList_range_own _ rfl _ 24 rfl 3 52 law3 Try.underlying24 _ bm n _ rfl hown ?_; intro w0 hrg0 hg0 hs0; clear hs0)
    | fail)
  try go_frame
  go_loopw [4] (fun _ wr => ∃ (left : Lit → Bool) (cnt : Nat), wr.ranges Try.prog 3 mapElem bm w.heap.size n (bif left (.int .i64 s) then D0 else D0.del (.int .i64 s)) left cnt ∧ w.grownBy wr (some bm))
    (fun _ wr => wr.rangeLeft bm w.heap.size)
  case atStart => exact ⟨Maps.has D0, Maps.size D0, by rw [HS.out]; exact hrg0, hg0.but _⟩
  case round =>
    obtain ⟨left, cnt, hrg, hgw⟩ := hrel
    have hcr : wr.cell? ⟨B, 0, none⟩ = some (.int .i64 s) := (World.cell?_of_block (w := w) (a := ⟨B, 0, none⟩) (hgw.block B hBl (by simpa using hBm))).trans hc
    go_wp2_with (first
      | (at_next; refine wpList_next_ranges _ rfl _ rfl 3 law3 mapElem (Value.int .i64) Value.map invK3 invV52 bm w.heap.size n _ _ _ rfl hrg ?_ ?_)
      | fail)
    · intro _ hl0
      have hl := Lib.hid (hl0 (.int .i64 s))
      clear hl0
      go_wp2_with fail
      go_end0
      exact ⟨rfl, by have := hrg.owns; rw [hl.out] at this; exact this, hgw⟩
    · intro x c kl yd ps w1 cnt1 hkl hlx _ hat hrg1 hlt1 hg1 hs1 hen
      obtain ⟨x', ex, rfl, wx⟩ := Maps.keyOf_int_inv Try.underlying3 hkl
      cases ex
      clear hat hs1
      have HLX := Lib.hid hlx
      clear hlx
      have hgw1 := hgw.andThen hg1 (fun j hj => by cases hj; exact Or.inl (Nat.le_refl _))
      have hc1 : w1.cell? ⟨B, 0, none⟩ = some (.int .i64 s) := (World.cell?_of_block (w := w) (a := ⟨B, 0, none⟩) (hgw1.block B hBl (by simpa using hBm))).trans hc
      by_cases hxs : x = s
      · subst hxs
        have hcall := rel1 x (.map c) x B w1 hc1
        have hbt : (x == x) = true := by simp
        rw [hbt] at hcall
        clear hbt
        go_wp2_with (first
          | (go_at_call 21; refine hcall.mono ?_; rintro e w4 ⟨rfl, rfl⟩)
          | (at_delete; refine wpList_delete_ranges _ rfl _ _ 24 3 rfl 52 law3 Try.underlying24 _ bm w.heap.size n _ _ _ rfl hrg1 _ _ rfl hkl ?_; intro w2 cnt2 hrg2 hle hturn; go_frame)
          | fail)
        rw [strike_twice] at hrg2
        go_roundw
        case rel =>
          refine ⟨fun z => left z && !z.sameKey (.int .i64 x), cnt2, ?_, hgw1.andThen hturn.grown (fun j hj => by cases hj; exact Or.inr rfl)⟩
          have e1 : left (.int .i64 x) = true := HLX.out
          have e2 : (Lit.int .i64 x).sameKey (.int .i64 x) = true := WideAt.sameKey_self trivial
          rw [e1] at hrg2
          simp only [e1, e2, Bool.not_true, Bool.and_false, cond_false, cond_true] at hrg2 ⊢
          exact hrg2
        case measure => rw [hrg2.left_eq, hrg.left_eq]; omega
      · have hcall := rel1 x (.map c) s B w1 hc1
        have hbt : (x == s) = false := by simpa using hxs
        rw [hbt] at hcall
        clear hbt
        go_wp2_with (first
          | (go_at_call 21; refine hcall.mono ?_; rintro e w4 ⟨rfl, rfl⟩)
          | fail)
        go_roundw
        case rel =>
          refine ⟨fun z => left z && !z.sameKey (.int .i64 x), cnt1, ?_, hgw1⟩
          have e2 : (Lit.int .i64 s).sameKey (.int .i64 x) = false := Maps.sameKey_ne (by simpa using fun e => hxs e.symm)
          simp only [e2, Bool.not_false, Bool.and_true]
          exact hrg1
        case measure => rw [hrg1.left_eq, hrg.left_eq]; exact hlt1

theorem held_nil (s : Int) (w : World) : Calls Try.prog 15 #[.pointer none, .int .i64 s] w fun e w' => e = .returned (.int .i64 0) ∧ w = w' := by
  go_enter Try.func15, Try.ntmps15
  go_wp2
  go_ret
  exact ⟨rfl, rfl⟩

theorem held_rep (w : World) (a : Addr) (F : Nat → Prop) (N : Nat) (L : List H) (s : Int) (hrep : Rep w a F N L) (ws : wf s) :
    Calls Try.prog 15 #[.pointer (some a), .int .i64 s] w fun e w' => e = .returned (.int .i64 (held L s)) ∧ w = w' := by
  rcases hrep.map with ⟨h1, rfl⟩ | ⟨bm, h1, h2, h3, D, h4, h5, hin, hout, hinj⟩
  · have hl := Maps.look_nil (w := w) false law3 Try.underlying24 (zero52 w) (keyOf_int_mk Try.underlying3 ws)
    have hn := fun ty => Maps.len_nil (w := w) Try.underlying52 ty
    clear hrep
    go_enter Try.func15, Try.ntmps15
    go_wp2
    go_ret
    exact ⟨rfl, rfl⟩
  · cases hs : Maps.has D (.int .i64 s)
    · have hl := lookup_none w bm _ D s h4 ws hs
      have hn := fun ty => Maps.len_nil (w := w) Try.underlying52 ty
      have hh := Lib.hid (hout s ws hs)
      clear hout hin hinj hs hrep
      go_enter Try.func15, Try.ntmps15
      go_wp2
      go_ret
      exact ⟨by rw [hh.out]; rfl, rfl⟩
    · obtain ⟨b, k1, k2, k3, E, k4, k5, k6⟩ := hin s ws hs
      have hl := lookup_map w bm _ D s b h4 ws k1
      have hn := fun ty => k4.len Try.underlying52 ty
      rw [k6] at hn
      clear hout hin hinj hs k1 k6 k5 hrep
      go_enter Try.func15, Try.ntmps15
      go_wp2
      go_ret
      exact ⟨rfl, rfl⟩
end Go.Proofs.Yteccbihjkolpcaa
