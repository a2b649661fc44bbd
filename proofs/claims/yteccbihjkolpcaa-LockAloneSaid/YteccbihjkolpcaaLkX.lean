import Derived.Test.YteccbihjkolpcaaLkV
set_option linter.unusedVariables false
set_option linter.unusedSimpArgs false
namespace Go.Proofs.Yteccbihjkolpcaa
open Go.RowKit Go.Maps LockP

theorem wf0 : wf 0 := (by decide : (Lit.int .i64 0).wf = true)
theorem wf1 : wf 1 := (by decide : (Lit.int .i64 1).wf = true)
theorem wf2 : wf 2 := (by decide : (Lit.int .i64 2).wf = true)

theorem conflict_eq (L : List H) (x : H) (hb : Int → Int → Bool) (h : ∀ y ∈ L, hb y.m y.r = bars x.m x.r y) : (L.any fun y => decide (y.s ≠ x.s) && hit x.t hb y) = conflict L x := by
  unfold conflict hit
  rw [Bool.eq_iff_iff]
  simp only [List.any_eq_true]
  constructor
  · rintro ⟨y, hy, e⟩
    exact ⟨y, hy, by rw [← h y hy]; exact e⟩
  · rintro ⟨y, hy, e⟩
    exact ⟨y, hy, by rw [h y hy]; exact e⟩

theorem read_rep (w : World) (a : Addr) (F : Nat → Prop) (N : Nat) (L : List H) (s t : Int) (hrep : Rep w a F N L) (ws : wf s) (wt : wf t) (hN : N + 2 < maxLen) :
    Calls Try.prog 8 #[.pointer (some a), .int .i64 s, .int .i64 t] w fun e w' => e = .returned (.int .i64 (LockP.take L ⟨s, t, 0, 0⟩).2) ∧ Post w w' a F (N + 1) (LockP.take L ⟨s, t, 0, 0⟩).1 := by
  have hO : ∀ w1, Below w.heap.size w w1 → Calls Try.prog 22 #[.pointer (some a), .int .i64 s, .int .i64 t, .func (.func 17) #[] #[]] w1 fun e w2 => e = .returned (.bool (conflict L ⟨s, t, 0, 0⟩)) ∧ Below w1.heap.size w1 w2 := by
    intro w1 hb1
    have hr := hrep.below hb1
    rcases hr.map with ⟨h1, rfl⟩ | ⟨bm, h1, h2, h3⟩
    · exact others_nil _ a s t w1 h1
    · have := others_read (fun y _ => y != 0) a F N bm L s t w1 hr.wfs h1 h3 ws wt (fun x y z w2 _ => read1 x y z w2)
      rw [conflict_eq L ⟨s, t, 0, 0⟩ (fun y _ => y != 0) (fun y _ => by simp [bars, bne, decide_not]; try rfl)] at this
      exact this
  have hT := take_rep w a F N L ⟨s, t, 0, 0⟩ (.func (.func 17) #[] #[]) hrep ⟨ws, wt, wf0, wf0⟩ hN hO
  have HT := Lib.hid hT
  clear hT hO
  go_enter Try.func8, Try.ntmps8
  go_wp2_with fail
  refine HT.out.mono ?_
  rintro e w' ⟨rfl, hp⟩
  go_wp2_with fail
  go_ret
  exact ⟨rfl, hp⟩

theorem alone_rep (w : World) (a : Addr) (F : Nat → Prop) (N : Nat) (L : List H) (s t : Int) (hrep : Rep w a F N L) (ws : wf s) (wt : wf t) (hN : N + 2 < maxLen) :
    Calls Try.prog 10 #[.pointer (some a), .int .i64 s, .int .i64 t] w fun e w' => e = .returned (.int .i64 (LockP.take L ⟨s, t, 2, 0⟩).2) ∧ Post w w' a F (N + 1) (LockP.take L ⟨s, t, 2, 0⟩).1 := by
  have hO : ∀ w1, Below w.heap.size w w1 → Calls Try.prog 22 #[.pointer (some a), .int .i64 s, .int .i64 t, .func (.func 19) #[] #[]] w1 fun e w2 => e = .returned (.bool (conflict L ⟨s, t, 2, 0⟩)) ∧ Below w1.heap.size w1 w2 := by
    intro w1 hb1
    have hr := hrep.below hb1
    rcases hr.map with ⟨h1, rfl⟩ | ⟨bm, h1, h2, h3⟩
    · exact others_nil _ a s t w1 h1
    · have := others_alone (fun _ _ => true) a F N bm L s t w1 hr.wfs h1 h3 ws wt (fun x y z w2 _ => alone1 x y z w2)
      rw [conflict_eq L ⟨s, t, 2, 0⟩ (fun _ _ => true) (fun y _ => by simp [bars])] at this
      exact this
  have hT := take_rep w a F N L ⟨s, t, 2, 0⟩ (.func (.func 19) #[] #[]) hrep ⟨ws, wt, wf2, wf0⟩ hN hO
  have HT := Lib.hid hT
  clear hT hO
  go_enter Try.func10, Try.ntmps10
  go_wp2_with fail
  refine HT.out.mono ?_
  rintro e w' ⟨rfl, hp⟩
  go_wp2_with fail
  go_ret
  exact ⟨rfl, hp⟩

theorem Post.from {w w0 w' : World} {a : Addr} {F : Nat → Prop} {N : Nat} {L : List H} (h : Post w0 w' a F N L) (hb : Below w.heap.size w w0) (hF : ∀ i, F i → i < w.heap.size) : Post w w' a F N L := by
  obtain ⟨F', h1, h2, h3⟩ := h
  refine ⟨F', h1, fun i hi => ?_, (Turn.of_below hb).trans h3 (fun i hi => Or.inl hi)⟩
  rcases h2 i hi with h4 | h4
  · exact Or.inl h4
  · exact Or.inr (Nat.le_trans hb.size h4)

theorem write_rep (w : World) (a : Addr) (F : Nat → Prop) (N : Nat) (L : List H) (s t r : Int) (hrep : Rep w a F N L) (ws : wf s) (wt : wf t) (wr : wf r) (hN : N + 2 < maxLen) :
    Calls Try.prog 9 #[.pointer (some a), .int .i64 s, .int .i64 t, .int .i64 r] w fun e w' => e = .returned (.int .i64 (LockP.take L ⟨s, t, 1, r⟩).2) ∧ Post w w' a F (N + 1) (LockP.take L ⟨s, t, 1, r⟩).1 := by
  have hb0 : Below w.heap.size w (w.alloc (.cells #[.int .i64 r] 3)) := (Below.refl _ _).alloc (Nat.le_refl _) _
  have hrep0 := hrep.below hb0
  have hO : ∀ w1, Below (w.alloc (.cells #[.int .i64 r] 3)).heap.size (w.alloc (.cells #[.int .i64 r] 3)) w1 → Calls Try.prog 22 #[.pointer (some a), .int .i64 s, .int .i64 t, .func (.func 18) #[] #[.pointer (some ⟨w.heap.size, 0, none⟩)]] w1 fun e w2 => e = .returned (.bool (conflict L ⟨s, t, 1, r⟩)) ∧ Below w1.heap.size w1 w2 := by
    intro w1 hb1
    have hr := hrep0.below hb1
    have hcl : w1.cell? ⟨w.heap.size, 0, none⟩ = some (.int .i64 r) := (hb1.cell (by simp)).trans (by simp)
    rcases hr.map with ⟨h1, rfl⟩ | ⟨bm, h1, h2, h3⟩
    · exact others_nil _ a s t w1 h1
    · have := others_write w.heap.size (fun y z => y != 1 || z == r) a F N bm L s t w1 hr.wfs h1 h3 ws wt (fun x y z w2 hb2 => write1 x y z r w.heap.size w2 ((hb2.cell (World.block_lt_of_cell? w1 _ hcl)).trans hcl))
      rw [conflict_eq L ⟨s, t, 1, r⟩ (fun y z => y != 1 || z == r) (fun y _ => by rw [Bool.eq_iff_iff]; simp [bars])] at this
      exact this
  have hT := take_rep (w.alloc (.cells #[.int .i64 r] 3)) a F N L ⟨s, t, 1, r⟩ (.func (.func 18) #[] #[.pointer (some ⟨w.heap.size, 0, none⟩)]) hrep0 ⟨ws, wt, wf1, wr⟩ hN hO
  have HT := Lib.hid hT
  have HF := Lib.hid hrep.fresh
  clear hT hO
  go_enter Try.func9, Try.ntmps9
  go_wp2_with fail
  refine HT.out.mono ?_
  rintro e w' ⟨rfl, hp⟩
  go_wp2_with fail
  go_ret
  exact ⟨rfl, hp.from hb0 HF.out⟩

theorem read_nil (s t : Int) (w : World) : Calls Try.prog 8 #[.pointer none, .int .i64 s, .int .i64 t] w fun e w' => e = .returned (.int .i64 1) ∧ Below w.heap.size w w' := by
  have HT := Lib.hid (take_nil s t 0 0 (.func (.func 17) #[] #[]) w)
  go_enter Try.func8, Try.ntmps8
  go_wp2_with fail
  refine HT.out.mono ?_
  rintro e w' ⟨rfl, hp⟩
  go_wp2_with fail
  go_ret
  exact ⟨rfl, hp⟩
theorem alone_nil (s t : Int) (w : World) : Calls Try.prog 10 #[.pointer none, .int .i64 s, .int .i64 t] w fun e w' => e = .returned (.int .i64 1) ∧ Below w.heap.size w w' := by
  have HT := Lib.hid (take_nil s t 2 0 (.func (.func 19) #[] #[]) w)
  go_enter Try.func10, Try.ntmps10
  go_wp2_with fail
  refine HT.out.mono ?_
  rintro e w' ⟨rfl, hp⟩
  go_wp2_with fail
  go_ret
  exact ⟨rfl, hp⟩
theorem write_nil (s t r : Int) (w : World) : Calls Try.prog 9 #[.pointer none, .int .i64 s, .int .i64 t, .int .i64 r] w fun e w' => e = .returned (.int .i64 1) ∧ Below w.heap.size w w' := by
  have hb0 : Below w.heap.size w (w.alloc (.cells #[.int .i64 r] 3)) := (Below.refl _ _).alloc (Nat.le_refl _) _
  have HT := Lib.hid (take_nil s t 1 r (.func (.func 18) #[] #[.pointer (some ⟨w.heap.size, 0, none⟩)]) (w.alloc (.cells #[.int .i64 r] 3)))
  go_enter Try.func9, Try.ntmps9
  go_wp2_with fail
  refine HT.out.mono ?_
  rintro e w' ⟨rfl, hp⟩
  go_wp2_with fail
  go_ret
  exact ⟨rfl, hb0.trans (hp.mono (by simp))⟩
theorem release_nil (s : Int) (w : World) : Calls Try.prog 11 #[.pointer none, .int .i64 s] w fun e w' => e = .returned (.int .i64 0) ∧ Below w.heap.size w w' := by
  have hb0 : Below w.heap.size w (w.alloc (.cells #[.int .i64 s] 3)) := (Below.refl _ _).alloc (Nat.le_refl _) _
  go_enter Try.func11, Try.ntmps11
  go_wp2_with (go_at_call 15; refine (held_nil _ _).mono ?_; rintro e w' ⟨rfl, rfl⟩)
  go_ret
  exact ⟨rfl, hb0⟩

theorem release_rep (w : World) (a : Addr) (F : Nat → Prop) (N : Nat) (L : List H) (s : Int) (hrep : Rep w a F N L) (ws : wf s) (hN : N + 2 < maxLen) :
    Calls Try.prog 11 #[.pointer (some a), .int .i64 s] w fun e w' => e = .returned (.int .i64 (held L s)) ∧ Post w w' a F (N + 1) (without L s) := by
  have hb0 : Below w.heap.size w (w.alloc (.cells #[.int .i64 s] 3)) := (Below.refl _ _).alloc (Nat.le_refl _) _
  have hrep0 := hrep.below hb0
  have HH := Lib.hid (held_rep (w.alloc (.cells #[.int .i64 s] 3)) a F N L s hrep0 ws)
  by_cases h0 : held L s = 0
  · have HP := Lib.hid (Post.below hrep hb0)
    have HW := Lib.hid (without_none h0)
    have H0 := Lib.hid h0
    clear h0 hrep hrep0
    go_enter Try.func11, Try.ntmps11
    go_wp2_with (go_at_call 15; refine HH.out.mono ?_; rintro e w' ⟨rfl, rfl⟩; rw [H0.out])
    go_ret
    exact ⟨by rw [H0.out]; rfl, by rw [HW.out]; exact HP.out⟩
  · rcases hrep0.map with ⟨h1, rfl⟩ | ⟨bm, h1, h2, h3, D, h4, h5, hin, hout, hinj⟩
    · exact absurd rfl h0
    · have hs : Maps.has D (.int .i64 s) = true := by
        cases hs : Maps.has D (.int .i64 s)
        · exact absurd (hout s ws hs) h0
        · rfl
      have HD := Lib.hid (delete_func bm (Maps.size D) w.heap.size D s (w.alloc (.cells #[.int .i64 s] 3)) h4 ws hs (by simp))
      have hpos : (0 : Int) < (held L s : Int) := by omega
      have hP : ∀ w', w'.ownsMap Try.prog 3 mapElem bm (Maps.size D) (D.del (.int .i64 s)) → (w.alloc (.cells #[.int .i64 s] 3)).grownBy w' (some bm) → Post (w.alloc (.cells #[.int .i64 s] 3)) w' a F (N + 1) (without L s) := by
        intro w' hD' hg
        have hab := hrep0.fresh _ hrep0.cell
        have hT := h4.tidy law3
        refine ⟨F, ⟨fun h hh => hrep.wfs h (mem_without.1 hh).1, nodup_without hrep.nodup, Nat.le_trans (length_without L s) (by have := hrep.len; omega), fun i hi => Nat.lt_of_lt_of_le (hrep0.fresh i hi) hg.size, hrep.cell, (World.frozen?_of_block (a := a) (hg.block a.block hab (by simp; omega))).trans hrep0.free,
          Or.inr ⟨bm, (World.cell?_of_block (a := a) (hg.block a.block hab (by simp; omega))).trans h1, h2, h3, D.del (.int .i64 s), own_tight hD', ?_, ?_, ?_, ?_⟩⟩, fun i hi => Or.inl hi, Turn.of_grown hg (fun j hj => by cases hj; exact Or.inl h3)⟩
        · have := hD'.size_le
          omega
        · intro s' ws' hs'
          have hne : s' ≠ s := fun e => by rw [e, Maps.has_del_same] at hs'; cases hs'
          have hk : (Lit.int .i64 s') ≠ .int .i64 s := by simpa using hne
          rw [Maps.has_del_other hk] at hs'
          obtain ⟨b, g1, g2, g3, E, g4, g5, g6⟩ := hin s' ws' hs'
          refine ⟨b, fun zd => by rw [Maps.atKey_del_other hk]; exact g1 zd, g2, g3, E, g4.kept hg (by simpa using g2), fun t m r wt wm wr => ?_, ?_⟩
          · rw [g5 t m r wt wm wr, mem_without]
            exact ⟨fun h => ⟨h, hne⟩, fun h => h.1⟩
          · rw [g6]
            unfold held without
            rw [List.filter_filter]
            congr 1
            apply List.filter_congr
            intro y _
            by_cases hy : y.s = s'
            · simp [hy, hne]
            · simp [hy]
        · intro s' ws' hs'
          by_cases hne : s' = s
          · rw [hne]
            exact held_without_same L s
          · have hk : (Lit.int .i64 s') ≠ .int .i64 s := by simpa using hne
            rw [Maps.has_del_other hk] at hs'
            have := held_zero.1 (hout s' ws' hs')
            exact held_zero.2 fun y hy => this y (mem_without.1 hy).1
        · intro s1 s2 b ws1 ws2 hs1 hs2 g1 g2
          have hne1 : s1 ≠ s := fun e => by rw [e, Maps.has_del_same] at hs1; cases hs1
          have hne2 : s2 ≠ s := fun e => by rw [e, Maps.has_del_same] at hs2; cases hs2
          have hk1 : (Lit.int .i64 s1) ≠ .int .i64 s := by simpa using hne1
          have hk2 : (Lit.int .i64 s2) ≠ .int .i64 s := by simpa using hne2
          rw [Maps.has_del_other hk1] at hs1
          rw [Maps.has_del_other hk2] at hs2
          exact hinj s1 s2 b ws1 ws2 hs1 hs2 (fun zd => by rw [← g1 zd, Maps.atKey_del_other hk1]) (fun zd => by rw [← g2 zd, Maps.atKey_del_other hk2])
      have HP := Lib.hid hP
      have HF := Lib.hid hrep.fresh
      clear hP h0 hrep hrep0 hin hout hinj hs h4 h5
      go_enter Try.func11, Try.ntmps11
      go_wp2_with (first
        | (go_at_call 15; refine HH.out.mono ?_; rintro e w' ⟨rfl, rfl⟩)
        | (go_at_call 20; refine HD.out.mono ?_; rintro e w' ⟨rfl, hD', hg'⟩))
      go_ret
      exact ⟨rfl, (HP.out _ hD' hg').from hb0 HF.out⟩
end Go.Proofs.Yteccbihjkolpcaa
