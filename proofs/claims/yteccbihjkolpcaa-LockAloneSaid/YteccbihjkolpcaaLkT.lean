import Derived.Test.YteccbihjkolpcaaLkR
import Derived.Deep.DeepCutAuto
set_option linter.unusedVariables false
set_option linter.unusedSimpArgs false
namespace Go.Proofs.Yteccbihjkolpcaa
open Go.RowKit Go.Maps LockP

theorem own_ne_cell {k : TypeId} {R : Value → Option (DataW Unit × List MemPlace)} {w : World} {b n : Nat} {D : DataW Unit} {a : Addr} {v : Value} (h : w.ownsMap Try.prog k R b n D) (hc : w.cell? a = some v) : b ≠ a.block := by
  rintro rfl
  obtain ⟨es, clock, hb, _⟩ := h
  simp [World.cell?, hb] at hc
theorem lookup_map (w : World) (bm n : Nat) (D : DataW Unit) (s : Int) (b : Nat) (h : w.ownsMap Try.prog 3 mapElem bm n D) (ws : wf s) (hb : ∀ zd, D.atKey (.int .i64 s) zd = .lit (.int .i64 b)) :
    (Instr.lookup 24 (.map (some bm)) (.int .i64 s) false).run Try.prog w = .ok (.map (some b)) w := by
  obtain ⟨v, ps, hrun, hv⟩ := h.lookup law3 Try.underlying24 (zero52 w) mapElem_nil (keyOf_int_mk Try.underlying3 ws)
  rw [hb] at hv
  rw [mapElem_lit hv] at hrun
  exact hrun
theorem lookup_none (w : World) (bm n : Nat) (D : DataW Unit) (s : Int) (h : w.ownsMap Try.prog 3 mapElem bm n D) (ws : wf s) (hb : Maps.has D (.int .i64 s) = false) :
    (Instr.lookup 24 (.map (some bm)) (.int .i64 s) false).run Try.prog w = .ok (.map none) w := by
  obtain ⟨v, ps, hrun, hv⟩ := h.lookup law3 Try.underlying24 (zero52 w) mapElem_nil (keyOf_int_mk Try.underlying3 ws)
  rw [Maps.atKey_of_not_has hb] at hv
  unfold mapElem at hv
  split at hv
  · exact hrun
  · simp at hv
  · cases hv
theorem qT (W : World) (r : Option Nat) : (binOp .eql 24 (.map r) (.map none)).run Try.prog W = .ok (.bool r.isNone) W := run_eql_map_nil W _ _ _ r Try.underlying24
theorem qU (W : World) (r : Option Nat) : (binOp .eql 52 (.map r) (.map none)).run Try.prog W = .ok (.bool r.isNone) W := run_eql_map_nil W _ _ _ r Try.underlying52

/-- The walk of 'take' where another holds what bars it. -/
theorem take_no (w : World) (a : Addr) (s t m r : Int) (fv : Value)
    (HO : ∀ w1, Below w.heap.size w w1 → Calls Try.prog 22 #[.pointer (some a), .int .i64 s, .int .i64 t, fv] w1 fun e w2 => e = .returned (.bool true) ∧ Below w1.heap.size w1 w2) :
    Calls Try.prog 16 #[.pointer (some a), .int .i64 s, tv t m r, fv] w fun e w' => e = .returned (.int .i64 16) ∧ Below w.heap.size w w' := by
  have HOh := Lib.hid HO
  clear HO
  unfold tv
  go_enter Try.func16, Try.ntmps16
  go_wp2_with fail
  refine (HOh.out (w.alloc (.cells #[.int .i64 t, .int .i64 m, .int .i64 r] 49)) ((Below.refl _ _).alloc (Nat.le_refl _) _)).mono ?_
  rintro e w1 ⟨rfl, hb1⟩
  have hbw : Below w.heap.size w w1 := ((Below.refl _ _).alloc (Nat.le_refl _) _).trans (hb1.mono (by simp))
  go_wp2_with fail
  go_ret
  exact ⟨rfl, hbw⟩

theorem take_nil (s t m r : Int) (fv : Value) (w : World) :
    Calls Try.prog 16 #[.pointer none, .int .i64 s, tv t m r, fv] w fun e w' => e = .returned (.int .i64 1) ∧ Below w.heap.size w w' := by
  unfold tv
  go_enter Try.func16, Try.ntmps16
  go_wp2_with fail
  go_ret
  exact ⟨rfl, (Below.refl _ _).alloc (Nat.le_refl _) _⟩

/-- .. where the session has its map. -/
theorem take_c (w : World) (a : Addr) (bm b n n' : Nat) (D E : DataW Unit) (s t m r : Int) (fv : Value) (hcell : w.cell? a = some (.map (some bm)))
    (hown : w.ownsMap Try.prog 3 mapElem bm n' D) (ws : wf s) (wt : wf t) (wm : wf m) (wr : wf r)
    (hb : ∀ zd, D.atKey (.int .i64 s) zd = .lit (.int .i64 b)) (hE : w.ownsMap Try.prog 49 (plainElem Try.prog 4) b n E) (hn : n < maxLen)
    (HO : ∀ w1, Below w.heap.size w w1 → Calls Try.prog 22 #[.pointer (some a), .int .i64 s, .int .i64 t, fv] w1 fun e w2 => e = .returned (.bool false) ∧ Below w1.heap.size w1 w2) :
    Calls Try.prog 16 #[.pointer (some a), .int .i64 s, tv t m r, fv] w fun e w' => e = .returned (.int .i64 0) ∧ ∃ w1, Below w.heap.size w w1 ∧ w1.mapTurned w' b ∧ w'.ownsMap Try.prog 49 (plainElem Try.prog 4) b (n + 1) (E.put (tk t m r) (.lit (.bool true))) := by
  have hab := World.block_lt_of_cell? w a hcell
  have qT' := qT
  have qU' := qU
  have HOh := Lib.hid HO
  have HB := Lib.hid hb
  clear HO hb
  unfold tv
  go_enter Try.func16, Try.ntmps16
  go_wp2_with fail
  refine (HOh.out (w.alloc (.cells #[.int .i64 t, .int .i64 m, .int .i64 r] 49)) ((Below.refl _ _).alloc (Nat.le_refl _) _)).mono ?_
  rintro e w1 ⟨rfl, hb1⟩
  have hbw : Below w.heap.size w w1 := ((Below.refl _ _).alloc (Nat.le_refl _) _).trans (hb1.mono (by simp))
  have hbox : ∀ j v, (w.alloc (.cells #[.int .i64 t, .int .i64 m, .int .i64 r] 49)).cell? ⟨w.heap.size, j, none⟩ = some v → w1.cell? ⟨w.heap.size, j, none⟩ = some v := fun j v h => (hb1.cell (by simp)).trans h
  have x0 := hbox 0 (.int .i64 t) (by simp)
  have x1 := hbox 1 (.int .i64 m) (by simp)
  have x2 := hbox 2 (.int .i64 r) (by simp)
  have hc1 : w1.cell? a = some (.map (some bm)) := (hbw.cell hab).trans hcell
  have hl1 := lookup_map w1 bm _ D s b (own_below hown hbw) ws HB.out
  clear hbox hb1
  go_wp2_with fail
  clear hl1
  have hl2 := lookup_map w1.drew bm _ D s b (own_below hown hbw).drew ws HB.out
  obtain ⟨w2, hup, hown2, hturn⟩ := (own_below hE hbw).drew.store law49 Try.underlying52 hn (key := .agg #[.int .i64 t, .int .i64 m, .int .i64 r]) (key_tv wt wm wr) (plainElem_bool Try.underlying4 true)
  go_region
  go_wp2
  go_ret
  exact ⟨rfl, w1.drew, hbw.drew, hturn, hown2⟩

def PostB (w w' : World) (bm n' : Nat) (D : DataW Unit) (s t m r : Int) : Prop := ∃ b, w.heap.size ≤ b ∧ b < w'.heap.size ∧ w.grownBy w' (some bm) ∧ w'.ownsMap Try.prog 3 mapElem bm (n' + 1) (D.put (.int .i64 s) (.lit (.int .i64 b))) ∧ w'.ownsMap Try.prog 49 (plainElem Try.prog 4) b 1 ((DataW.map [] : DataW Unit).put (tk t m r) (.lit (.bool true)))
/-- .. where the session has none. -/
theorem take_b (w : World) (a : Addr) (bm n' : Nat) (D : DataW Unit) (s t m r : Int) (fv : Value) (hcell : w.cell? a = some (.map (some bm)))
    (hown : w.ownsMap Try.prog 3 mapElem bm n' D) (ws : wf s) (wt : wf t) (wm : wf m) (wr : wf r) (hs : Maps.has D (.int .i64 s) = false) (hn : n' < maxLen)
    (HO : ∀ w1, Below w.heap.size w w1 → Calls Try.prog 22 #[.pointer (some a), .int .i64 s, .int .i64 t, fv] w1 fun e w2 => e = .returned (.bool false) ∧ Below w1.heap.size w1 w2) :
    Calls Try.prog 16 #[.pointer (some a), .int .i64 s, tv t m r, fv] w fun e w' => e = .returned (.int .i64 0) ∧ PostB w w' bm n' D s t m r := by
  have hab := World.block_lt_of_cell? w a hcell
  have qT' := qT
  have qU' := qU
  have hmm := @run_makeMap Try.prog
  have HOh := Lib.hid HO
  have HS := Lib.hid hs
  clear HO hs
  unfold tv
  go_enter Try.func16, Try.ntmps16
  go_wp2_with fail
  refine (HOh.out (w.alloc (.cells #[.int .i64 t, .int .i64 m, .int .i64 r] 49)) ((Below.refl _ _).alloc (Nat.le_refl _) _)).mono ?_
  rintro e w1 ⟨rfl, hb1⟩
  have hbw : Below w.heap.size w w1 := ((Below.refl _ _).alloc (Nat.le_refl _) _).trans (hb1.mono (by simp))
  have hbox : ∀ j v, (w.alloc (.cells #[.int .i64 t, .int .i64 m, .int .i64 r] 49)).cell? ⟨w.heap.size, j, none⟩ = some v → w1.cell? ⟨w.heap.size, j, none⟩ = some v := fun j v h => (hb1.cell (by simp)).trans h
  have x0 := hbox 0 (.int .i64 t) (by simp)
  have x1 := hbox 1 (.int .i64 m) (by simp)
  have x2 := hbox 2 (.int .i64 r) (by simp)
  have hc1 : w1.cell? a = some (.map (some bm)) := (hbw.cell hab).trans hcell
  have ho1 := own_below hown hbw
  have hl1 := lookup_none w1 bm _ D s ho1 ws HS.out
  have hw1 : w.heap.size < w1.heap.size := by have := hb1.size; simp at this; omega
  clear hbox hb1
  go_wp2_with (first
    | (at_mapUpdate; refine wpList_mapUpdate_in _ rfl _ _ _ 24 rfl 3 52 law3 Try.underlying24 mapElem bm n' D rfl (ho1.alloc _) hn _ _ _ rfl rfl (keyOf_int_mk Try.underlying3 ws) _ [] (mapElem_some _) ?_; intro w2 hown2 hturn2)
    | fail)
  go_frame
  have hbm1 : bm ≠ a.block := own_ne_cell ho1 hc1
  have hg2 := hturn2.grown
  have hlt1 := ho1.lt
  have hin2 : w2.ownsMap Try.prog 49 (plainElem (H := Unit) Try.prog 4) w1.heap.size 0 (.map []) := (World.ownsMap_made w1 Try.prog 49 (plainElem Try.prog 4)).kept hg2 (by simp; omega)
  have hal : Below w1.heap.size w1 (w1.alloc (.map #[] 0)) := (Below.refl _ _).alloc (Nat.le_refl _) _
  have hcl : ∀ (b j : Nat) (v : Value), b ≠ bm → b < w1.heap.size → w1.cell? ⟨b, j, none⟩ = some v → w2.cell? ⟨b, j, none⟩ = some v := fun b j v hb hl h =>
    (World.cell?_of_block (w := w1.alloc (.map #[] 0)) (a := ⟨b, j, none⟩) (hg2.block b (by simp; omega) (by simpa using hb))).trans ((hal.cell (p := ⟨b, j, none⟩) hl).trans h)
  have hbb : w.heap.size ≠ bm := fun e => own_ne_cell ho1 x0 e.symm
  have y0 := hcl _ _ _ hbb hw1 x0
  have y1 := hcl _ _ _ hbb hw1 x1
  have y2 := hcl _ _ _ hbb hw1 x2
  have hc2 : w2.cell? a = some (.map (some bm)) :=
    (World.cell?_of_block (w := w1.alloc (.map #[] 0)) (a := a) (hg2.block a.block (by simp; have := World.block_lt_of_cell? w1 a hc1; omega) (by simpa using hbm1.symm))).trans ((hal.cell (World.block_lt_of_cell? w1 a hc1)).trans hc1)
  have hsz2 : w1.heap.size < w2.heap.size := by have := hg2.size; simp at this; omega
  clear hcl hl1
  have hl2 := lookup_map w2.drew bm _ _ s w1.heap.size hown2.drew ws (fun zd => Maps.atKey_put_same hown.isMap (show WideAt.IsKeyLit (.int .i64 s) from trivial) _ _)
  obtain ⟨w3, hup, hown3, hturn3⟩ := hin2.drew.store law49 Try.underlying52 (by unfold maxLen; omega) (key := .agg #[.int .i64 t, .int .i64 m, .int .i64 r]) (key_tv wt wm wr) (plainElem_bool Try.underlying4 true)
  go_region
  go_wp2
  go_ret
  have hg2d : (w1.alloc (.map #[] 0)).grownBy w2.drew (some bm) := ⟨hg2.os, hg2.tape, hg2.output, hg2.size, hg2.block⟩
  have h12 : w1.grownBy w2.drew (some bm) := (World.grownBy_alloc w1 (.map #[] 0) (some bm)).trans hg2d
  refine ⟨rfl, w1.heap.size, ?_, ?_, ?_, ?_, hown3⟩
  · exact hbw.size
  · have := hturn3.grown.size
    simp at this
    omega
  · refine World.grownBy.andThen (World.grownBy.andThen (b' := w1) ⟨hbw.os, hbw.tape, hbw.output, hbw.size, fun i hi _ => hbw.block i hi⟩ h12 ?_) hturn3.grown ?_
    · intro j hj
      exact Or.inr hj
    · intro j hj
      cases hj
      exact Or.inl hbw.size
  · exact hown2.drew.kept hturn3.grown (by simp; omega)
def PostA (w w' : World) (a : Addr) (s t m r : Int) : Prop := ∃ bm b, w.heap.size ≤ bm ∧ bm < w'.heap.size ∧ w.heap.size ≤ b ∧ b < w'.heap.size ∧ b ≠ bm ∧ w.grownBy w' (some a.block) ∧ w'.cell? a = some (.map (some bm)) ∧ w'.frozen? a = false ∧ w'.ownsMap Try.prog 3 mapElem bm 1 ((DataW.map [] : DataW Unit).put (.int .i64 s) (.lit (.int .i64 b))) ∧ w'.ownsMap Try.prog 49 (plainElem Try.prog 4) b 1 ((DataW.map [] : DataW Unit).put (tk t m r) (.lit (.bool true)))
/-- .. where there is no map yet. -/
theorem take_a (w : World) (a : Addr) (s t m r : Int) (fv : Value) (hcell : w.cell? a = some (.map none)) (hfree : w.frozen? a = false)
    (ws : wf s) (wt : wf t) (wm : wf m) (wr : wf r)
    (HO : ∀ w1, Below w.heap.size w w1 → Calls Try.prog 22 #[.pointer (some a), .int .i64 s, .int .i64 t, fv] w1 fun e w2 => e = .returned (.bool false) ∧ Below w1.heap.size w1 w2) :
    Calls Try.prog 16 #[.pointer (some a), .int .i64 s, tv t m r, fv] w fun e w' => e = .returned (.int .i64 0) ∧ PostA w w' a s t m r := by
  have hab := World.block_lt_of_cell? w a hcell
  have qT' := qT
  have qU' := qU
  have hmm := @run_makeMap Try.prog
  have HOh := Lib.hid HO
  clear HO
  unfold tv
  go_enter Try.func16, Try.ntmps16
  go_wp2_with fail
  refine (HOh.out (w.alloc (.cells #[.int .i64 t, .int .i64 m, .int .i64 r] 49)) ((Below.refl _ _).alloc (Nat.le_refl _) _)).mono ?_
  rintro e w1 ⟨rfl, hb1⟩
  have hbw : Below w.heap.size w w1 := ((Below.refl _ _).alloc (Nat.le_refl _) _).trans (hb1.mono (by simp))
  have hbox : ∀ j v, (w.alloc (.cells #[.int .i64 t, .int .i64 m, .int .i64 r] 49)).cell? ⟨w.heap.size, j, none⟩ = some v → w1.cell? ⟨w.heap.size, j, none⟩ = some v := fun j v h => (hb1.cell (by simp)).trans h
  have x0 := hbox 0 (.int .i64 t) (by simp)
  have x1 := hbox 1 (.int .i64 m) (by simp)
  have x2 := hbox 2 (.int .i64 r) (by simp)
  have hc1 : w1.cell? a = some (.map none) := (hbw.cell hab).trans hcell
  have hf1 : w1.frozen? a = false := (hbw.frozen hab).trans hfree
  have hw1 : w.heap.size < w1.heap.size := by have := hb1.size; simp at this; omega
  have hal : Below w1.heap.size w1 (w1.alloc (.map #[] 0)) := (Below.refl _ _).alloc (Nat.le_refl _) _
  have hab1 := World.block_lt_of_cell? w1 a hc1
  have hc1' : (w1.alloc (.map #[] 0)).cell? a = some (.map none) := (hal.cell hab1).trans hc1
  have hf1' : (w1.alloc (.map #[] 0)).frozen? a = false := (hal.frozen hab1).trans hf1
  clear hbox hb1
  go_upto_region 7 with fail
  have hgw1 : w.grownBy w1 (some a.block) := ⟨hbw.os, hbw.tape, hbw.output, hbw.size, fun i hi _ => hbw.block i hi⟩
  obtain ⟨wA, hwA⟩ : ∃ wA, (w1.alloc (.map #[] 0)).setCell a (.map (some w1.heap.size)) = wA := ⟨_, rfl⟩
  have hgA : w1.grownBy wA (some a.block) := by
    rw [← hwA]
    exact (World.grownBy_alloc w1 _ (some a.block)).trans ⟨rfl, rfl, rfl, by simp [World.setCell], fun i _ hi => Below.heap_setCell _ _ _ _ (fun e => hi (by rw [e]))⟩
  have hc1A : wA.cell? a = some (.map (some w1.heap.size)) := by
    rw [← hwA]
    exact World.cell?_setCell_same _ _ _ hc1'
  have hfA : wA.frozen? a = false := by
    rw [← hwA, World.frozen?_setCell]
    exact hf1'
  have hoA : wA.ownsMap Try.prog 3 (mapElem (H := Unit)) w1.heap.size 0 (.map []) := by
    rw [← hwA]
    exact (World.ownsMap_made w1 Try.prog 3 mapElem).setCell (by omega) _
  have hszA : w1.heap.size < wA.heap.size := by rw [← hwA]; simp [World.setCell]
  rw [hwA]
  clear hwA hc1 hc1' hf1 hf1' hal
  have hbmw := hbw.size
  have hbx : ∀ (j : Nat) (v : Value), w1.cell? ⟨w.heap.size, j, none⟩ = some v → wA.cell? ⟨w.heap.size, j, none⟩ = some v := fun j v h =>
    (World.cell?_of_block (w := w1) (a := ⟨w.heap.size, j, none⟩) (hgA.block _ hw1 (by simp; omega))).trans h
  have z0 := hbx _ _ x0
  have z1 := hbx _ _ x1
  have z2 := hbx _ _ x2
  clear x0 x1 x2 hbx
  have x0 := z0
  have x1 := z1
  have x2 := z2
  clear z0 z1 z2
  have hgwA : w.grownBy wA (some a.block) := World.grownBy.andThen hgw1 hgA (fun j hj => Or.inr hj)
  have hw1b : w.heap.size < wA.heap.size := by omega
  have habA : a.block < wA.heap.size := by omega
  have hbmx : w.heap.size < w1.heap.size := hw1
  generalize w1.heap.size = bm at *
  clear hgw1 hgA hab1 hbw hw1
  have hc1 := hc1A
  have ho1 := hoA
  have hw1 := hw1b
  clear hc1A hoA hw1b
  have hal' : Below wA.heap.size wA (wA.alloc (.map #[] 0)) := (Below.refl _ _).alloc (Nat.le_refl _) _
  have hl1 := lookup_none wA bm _ _ s ho1 ws rfl
  have hn : (0 : Nat) < maxLen := by unfold maxLen; omega
  go_wp2_with (first
    | (at_mapUpdate; refine wpList_mapUpdate_in _ rfl _ _ _ 24 rfl 3 52 law3 Try.underlying24 mapElem bm 0 _ rfl (ho1.alloc _) hn _ _ _ rfl rfl (keyOf_int_mk Try.underlying3 ws) _ [] (mapElem_some _) ?_; intro w2 hown2 hturn2)
    | fail)
  go_frame
  have hbm1 : bm ≠ a.block := own_ne_cell ho1 hc1
  have hg2 := hturn2.grown
  have hlt1 := ho1.lt
  have hin2 : w2.ownsMap Try.prog 49 (plainElem (H := Unit) Try.prog 4) wA.heap.size 0 (.map []) := (World.ownsMap_made wA Try.prog 49 (plainElem Try.prog 4)).kept hg2 (by simp; omega)
  have hal : Below wA.heap.size wA (wA.alloc (.map #[] 0)) := (Below.refl _ _).alloc (Nat.le_refl _) _
  have hcl : ∀ (b j : Nat) (v : Value), b ≠ bm → b < wA.heap.size → wA.cell? ⟨b, j, none⟩ = some v → w2.cell? ⟨b, j, none⟩ = some v := fun b j v hb hl h =>
    (World.cell?_of_block (w := wA.alloc (.map #[] 0)) (a := ⟨b, j, none⟩) (hg2.block b (by simp; omega) (by simpa using hb))).trans ((hal.cell (p := ⟨b, j, none⟩) hl).trans h)
  have hbb : w.heap.size ≠ bm := fun e => own_ne_cell ho1 x0 e.symm
  have y0 := hcl _ _ _ hbb hw1 x0
  have y1 := hcl _ _ _ hbb hw1 x1
  have y2 := hcl _ _ _ hbb hw1 x2
  have hc2 : w2.cell? a = some (.map (some bm)) :=
    (World.cell?_of_block (w := wA.alloc (.map #[] 0)) (a := a) (hg2.block a.block (by simp; have := World.block_lt_of_cell? wA a hc1; omega) (by simpa using hbm1.symm))).trans ((hal.cell (World.block_lt_of_cell? wA a hc1)).trans hc1)
  have hsz2 : wA.heap.size < w2.heap.size := by have := hg2.size; simp at this; omega
  clear hcl hl1
  have hl2 := lookup_map w2.drew bm _ _ s wA.heap.size hown2.drew ws (fun zd => Maps.atKey_put_same ho1.isMap (show WideAt.IsKeyLit (.int .i64 s) from trivial) _ _)
  obtain ⟨w3, hup, hown3, hturn3⟩ := hin2.drew.store law49 Try.underlying52 (by unfold maxLen; omega) (key := .agg #[.int .i64 t, .int .i64 m, .int .i64 r]) (key_tv wt wm wr) (plainElem_bool Try.underlying4 true)
  go_region
  go_wp2
  go_ret
  have hg2d : (wA.alloc (.map #[] 0)).grownBy w2.drew (some bm) := ⟨hg2.os, hg2.tape, hg2.output, hg2.size, hg2.block⟩
  have h12 : wA.grownBy w2.drew (some bm) := (World.grownBy_alloc wA (.map #[] 0) (some bm)).trans hg2d
  have hg3 := hturn3.grown
  have hgA2 : wA.grownBy w2.drew (some bm) := h12
  have hca3 : w3.cell? a = some (.map (some bm)) := (World.cell?_of_block (w := w2.drew) (a := a) (hg3.block a.block (by have := World.block_lt_of_cell? w2 a hc2; exact this) (by simp; omega))).trans hc2
  have hfa3 : w3.frozen? a = false := by
    rw [World.frozen?_of_block (w := w2.drew) (a := a) (hg3.block a.block (by have := World.block_lt_of_cell? w2 a hc2; exact this) (by simp; omega))]
    show w2.frozen? a = false
    rw [World.frozen?_of_block (w := wA.alloc (.map #[] 0)) (a := a) (hg2.block a.block (by simp; omega) (by simpa using hbm1.symm)), hal'.frozen habA]
    exact hfA
  have hs3 := hg3.size
  refine ⟨rfl, bm, wA.heap.size, hbmw, ?_, ?_, ?_, ?_, ?_, hca3, hfa3, ?_, hown3⟩
  · have : w2.heap.size ≤ w3.heap.size := hs3
    omega
  · omega
  · have : w2.heap.size ≤ w3.heap.size := hs3
    omega
  · omega
  · refine World.grownBy.andThen (b' := w2.drew) (World.grownBy.andThen (b' := wA) hgwA h12 ?_) hg3 ?_
    · intro j hj
      cases hj
      exact Or.inl hbmw
    · intro j hj
      cases hj
      exact Or.inl (by omega)
  · exact hown2.drew.kept hg3 (by simp; omega)
end Go.Proofs.Yteccbihjkolpcaa
