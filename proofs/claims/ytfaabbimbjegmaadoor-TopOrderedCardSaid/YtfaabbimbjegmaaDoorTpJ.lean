/-
  slices.Insert at the map's pairs, one value; rows of pairs.
  slices.Insert at the map's pairs, one value that is not the last one: in place, and into a row anew.
-/
import Derived.Test.YtfaabbimbjegmaaDoorTpC
import Derived.Shelf.Spec.SlicesInsertGrow
import Derived.StillTailTactics
set_option linter.unusedVariables false
set_option linter.unusedSimpArgs false
namespace Go.Proofs.YtfaabbimbjegmaaDoor
open Go Go.RowKit Go.Proofs.YtfaabbimbjegmaaDoor.PA Go.Proofs.YtfaabbimbjegmaaDoor.SB Go.Proofs.YtfaabbimbjegmaaDoorW.PrintWords
namespace TP
abbrev Pr := S66
def cellsP (x : Pr) : List Value := [.string x.f0, .string x.f1.f0, .int .i64 x.f1.f1, .bool x.f1.f2]
def flatP : List Pr → List Value
  | [] => []
  | x :: l => cellsP x ++ flatP l
theorem flatP_length : ∀ l : List Pr, (flatP l).length = l.length * 4
  | [] => rfl
  | x :: l => by simp only [flatP, List.length_append, flatP_length l, List.length_cons]; show 4 + _ = _; omega
theorem flatP_append : ∀ a b : List Pr, flatP (a ++ b) = flatP a ++ flatP b
  | [], _ => rfl
  | x :: a, b => by simp only [List.cons_append, flatP, flatP_append a b, List.append_assoc]
theorem flatP_take (l : List Pr) (i : Nat) (h : i ≤ l.length) : (flatP l).take (i * 4) = flatP (l.take i) := by
  have e := flatP_append (l.take i) (l.drop i)
  rw [List.take_append_drop] at e
  rw [e, List.take_left' (by rw [flatP_length, List.length_take]; omega)]
theorem flatP_drop (l : List Pr) (i : Nat) (h : i ≤ l.length) : (flatP l).drop (i * 4) = flatP (l.drop i) := by
  have e := flatP_append (l.take i) (l.drop i)
  rw [List.take_append_drop] at e
  rw [e, List.drop_left' (by rw [flatP_length, List.length_take]; omega)]
theorem cellsP_one (x : Pr) : ∀ v ∈ cellsP x, v.oneCell' = true := by
  intro v hv
  simp only [cellsP, List.mem_cons, List.not_mem_nil, or_false] at hv
  rcases hv with rfl | rfl | rfl | rfl <;> rfl
theorem flatP_one : ∀ l : List Pr, ∀ v ∈ flatP l, v.oneCell' = true
  | [], v, h => by simp [flatP] at h
  | x :: l, v, h => by
    rcases List.mem_append.1 h with h | h
    · exact cellsP_one x v h
    · exact flatP_one l v h
def insP (l : List Pr) (i : Nat) (p : Pr) : List Pr := l.take i ++ p :: l.drop i
theorem insP_length (l : List Pr) (i : Nat) (p : Pr) (h : i ≤ l.length) : (insP l i p).length = l.length + 1 := by simp [insP]; omega
theorem insP_flat (l : List Pr) (i : Nat) (p : Pr) (h : i ≤ l.length) : flatP (insP l i p) = (flatP l).take (i * 4) ++ cellsP p ++ (flatP l).drop (i * 4) := by
  rw [flatP_take l i h, flatP_drop l i h, insP, flatP_append, flatP, List.append_assoc]
theorem insP_end (l : List Pr) (p : Pr) : flatP (insP l l.length p) = flatP l ++ cellsP p := by
  rw [insP_flat l _ p (Nat.le_refl _), ← flatP_length, List.take_length, List.drop_length, List.append_nil]
/-- A row of pairs of the call's own. -/
def OwP (w : World) (base : Nat) (v : Value) (l : List Pr) : Prop := w.ownsRow base 66 4 v l.length (flatP l)
theorem flat_of_reps {w : World} {R : Pr → List Value → Prop} (hR : ∀ p c, R p c → c = cellsP p) : ∀ (l : List Pr) (cs : List Value), Reps R 4 l cs → cs = flatP l
  | [], cs, h => List.eq_nil_of_length_eq_zero (by rw [h.1]; simp)
  | x :: l, cs, h => by
    have h0 := hR _ _ (h.2 0 x rfl)
    simp only [Nat.zero_mul, List.drop_zero] at h0
    have ht : Reps R 4 l (cs.drop 4) := ⟨by rw [List.length_drop, h.1, List.length_cons]; omega, fun j p hj => by
      rw [List.drop_drop, show 4 + j * 4 = (j + 1) * 4 by omega]
      exact h.2 (j + 1) p hj⟩
    rw [← List.take_append_drop 4 cs, h0, flat_of_reps (w := w) hR l _ ht, flatP]
theorem reps_flat {R : Pr → List Value → Prop} (hR : ∀ p, R p (cellsP p)) : ∀ l : List Pr, Reps R 4 l (flatP l)
  | [] => ⟨by simp [flatP], fun j p h => by simp at h⟩
  | x :: l => ⟨by rw [flatP_length], fun j p hj => by
    cases j with
    | zero =>
      obtain rfl := Option.some.inj hj
      exact hR _
    | succ j =>
      have := (reps_flat hR l).2 j p hj
      rw [show (j + 1) * 4 = 4 + j * 4 by omega, ← List.drop_drop]
      exact this⟩
theorem OwP.toR {w : World} {base : Nat} {v : Value} {l : List Pr} (h : OwP w base v l) : k66.R 66 w base (fun _ => True) v l :=
  ⟨fun _ _ => trivial, flatP l, h, reps_flat (fun p => k66_mkM w base _ p) l⟩
theorem OwP.ofR {w : World} {base : Nat} {v : Value} {l : List Pr} {ok : Nat → Prop} (h : k66.R 66 w base ok v l) : OwP w base v l := by
  obtain ⟨_, inner, ho, hr⟩ := h
  have e := flat_of_reps (w := w) (fun p c hc => k66_openM hc) l inner hr
  subst e
  exact ho
theorem setCells_below {B g : Nat} (hg : B ≤ g) : ∀ (vs : List Value) (o : Nat) (w : World), Below B w (w.setCells g o vs)
  | [], o, w => Below.refl B w
  | v :: vs, o, w => ((Below.refl B w).setCell (p := ⟨g, o, none⟩) hg v).trans (setCells_below hg vs (o + 1) _)
/-- Two stores into a row: what lay behind goes on, then the new one. -/
theorem two_stores {C cur A B D : List Value} {a k : Nat} (hC : cur.take C.length = C) (ha : a ≤ C.length) (hD : D.length = k) (hl : C.length + k ≤ cur.length)
    (hA : A = cur.take (a + k) ++ C.drop a ++ cur.drop (a + k + (C.drop a).length)) (hB : B = A.take a ++ D ++ A.drop (a + D.length)) :
    B.take (C.length + k) = C.take a ++ D ++ C.drop a := by
  have hcl : C.length ≤ cur.length := by omega
  have hta : cur.take a = C.take a := by
    have := congrArg (List.take a) hC
    rw [List.take_take, Nat.min_eq_left ha] at this
    exact this
  have h1 : A.take a = C.take a := by
    rw [hA, List.append_assoc, List.take_append_of_le_length (by rw [List.length_take]; omega), List.take_take, Nat.min_eq_left (by omega), hta]
  have h2 : A.drop (a + D.length) = C.drop a ++ cur.drop (a + k + (C.drop a).length) := by
    rw [hA, hD, List.append_assoc, List.drop_left' (by rw [List.length_take]; omega)]
  rw [hB, h1, h2, ← List.append_assoc]
  exact List.take_left' (by simp only [List.length_append, List.length_take, List.length_drop, hD]; omega)
theorem ownP_of {w : World} {base g cap : Nat} {cur : Array Value} {l : List Pr} (hg : base ≤ g) (hh : w.heap[g]? = some (.cells cur 66 (0, 0))) (hn : l.length ≤ cap) (hm : cap ≤ maxLen) (hs : cur.size = cap * 4) (ht : cur.toList.take (l.length * 4) = flatP l) : OwP w base (.slice (some ⟨g, 0, none⟩) l.length cap) l :=
  ⟨flatP_length l, .inr ⟨g, cap, cur, rfl, hg, hh, hn, hm, hs, ht⟩⟩
set_option maxHeartbeats 4000000 in
set_option maxRecDepth 100000 in
theorem insert_end {w : World} {base vb : Nat} {v : Value} {l : List Pr} {p : Pr} (HO : OwP w base v l) (hb : base ≤ w.heap.size) (hl : l.length ≤ 1000) (X : Bx w vb #[.string p.f0, .string p.f1.f0, .int .i64 p.f1.f1, .bool p.f1.f2] 66) :
    Calls Tryd.prog 23 #[v, .int .i64 l.length, .slice (some ⟨vb, 0, none⟩) 1 1] w fun e w' => ∃ v', e = .returned v' ∧ OwP w' base v' (insP l l.length p) ∧ w.grownBy w' v.ownBlock := by
  obtain ⟨A, c, hv⟩ := own_slice HO
  subst hv
  obtain ⟨i0, hi, hzz⟩ := Option.map_eq_some_iff.1 info66
  simp only [Prod.mk.injEq] at hzz
  obtain ⟨hz0, hz1, hz2⟩ := hzz
  have HOh := Lib.hid HO
  have hA : A = none → l.length = 0 ∧ c = 0 := by
    rintro rfl
    rcases HO.2 with ⟨h, h0⟩ | ⟨g, cap, cur, h, _⟩
    · injection h with _ _ h2
      exact ⟨h0, h2⟩
    · cases h
  have hc : l.length ≤ c ∧ c ≤ 9223372036854775807 := by
    rcases HO.2 with ⟨h, h0⟩ | ⟨g, cap, cur, h, _, _, h1, h2, _⟩
    · injection h with _ _ h2
      omega
    · injection h with _ _ h3
      subst h3
      exact ⟨h1, by simpa [maxLen] using h2⟩
  obtain ⟨hc1, hc2⟩ := hc
  have hrow : Hid (∀ j u, (cellsP p)[j]? = some u → w.cell? ((⟨vb, 0, none⟩ : Addr).add j) = some u) := fun j u hj => by
    rw [Addr.add_lit, Nat.zero_add, X.cell]
    rw [← hj]
    simp [cellsP]
  replace HOh : w.ownsRow base 66 4 (.slice A l.length c) l.length (flatP l) := HO
  have HF := Lib.hid (insP_end l p)
  have HN := Lib.hid (insP_length l l.length p (Nat.le_refl _))
  clear HO
  generalize hn : l.length = n at *
  clear hn
  replace HOh := Lib.hid HOh
  cases A with
  | none =>
    obtain ⟨hA1, hA2⟩ := hA rfl
    subst hA1 hA2
    go_enter Tryd.func23, Tryd.ntmps23
    go_wp2_with (at_builtin; go_loud (refine wpList_append_own_at _ rfl _ _ 24 rfl base 66 i0 _ 4 48 Tryd.underlying24 hi hz0 hz1 hz2 rfl (by decide) _ 0 _ rfl HOh.out ⟨vb, 0, none⟩ 1 1 (cellsP p) rfl rfl hrow.out (cellsP_one p) (by first | assumption | decide) (by first | assumption | decide) hb ?_); intro v1 w1 ho1 hg1 _ hat1)
    go_ret
    exact ⟨v1, rfl, by unfold OwP; rw [HN.out, HF.out]; exact ho1, hg1⟩
  | some a =>
    have hag : ∃ g, a = ⟨g, 0, none⟩ := by
      rcases HOh.out.2 with ⟨h, _⟩ | ⟨g, cap, cur, h, _⟩
      · cases h
      · injection h with h _ _
        injection h with h
        exact ⟨g, h⟩
    obtain ⟨g, rfl⟩ := hag
    clear hA
    have k1 : (0 : Int) ≤ (n : Int) := by omega
    have k2 : (n : Int) ≤ (c : Int) := by omega
    have hb5 : (n + 1) * 48 ≤ 140737488355328 := by omega
    have hm5 : n + 1 ≤ maxLen := by simp only [maxLen]; omega
    by_cases hcn : c = n
    · subst hcn
      go_enter Tryd.func23, Tryd.ntmps23
      go_wp2_with (at_builtin; go_loud (refine wpList_append_own_at _ rfl _ _ 24 rfl base 66 i0 _ 4 48 Tryd.underlying24 hi hz0 hz1 hz2 rfl (by decide) _ c _ rfl HOh.out ⟨vb, 0, none⟩ 1 1 (cellsP p) rfl rfl hrow.out (cellsP_one p) (by first | assumption | decide) (by first | assumption | decide) hb ?_); intro v1 w1 ho1 hg1 _ hat1)
      go_ret
      exact ⟨v1, rfl, by unfold OwP; rw [HN.out, HF.out]; exact ho1, hg1⟩
    · skip
      go_enter Tryd.func23, Tryd.ntmps23
      go_wp2_with (at_builtin; go_loud (refine wpList_append_own_at _ rfl _ _ 24 rfl base 66 i0 _ 4 48 Tryd.underlying24 hi hz0 hz1 hz2 rfl (by decide) _ n _ rfl HOh.out ⟨vb, 0, none⟩ 1 1 (cellsP p) rfl rfl hrow.out (cellsP_one p) (by first | assumption | decide) (by first | assumption | decide) hb ?_); intro v1 w1 ho1 hg1 _ hat1)
      go_ret
      exact ⟨v1, rfl, by unfold OwP; rw [HN.out, HF.out]; exact ho1, hg1⟩
end TP
end Go.Proofs.YtfaabbimbjegmaaDoor

set_option linter.unusedVariables false
set_option linter.unusedSimpArgs false
namespace Go.Proofs.YtfaabbimbjegmaaDoor
open Go Go.RowKit Go.Lib Go.Proofs.YtfaabbimbjegmaaDoor.PA Go.Proofs.YtfaabbimbjegmaaDoor.SB Go.Proofs.YtfaabbimbjegmaaDoorW.PrintWords
namespace TP
theorem run_copy_k {P : Program} (w : World) (dT sT ty elem : TypeId) (size m b o dLen dCap : Nat) (a : Addr) (sLen sCap : Nat) (cs : List Value)
    (hu : P.underlying dT = some (.slice elem)) (hs : (P.info? elem).map (·.size) = some size) (hm : m = Nat.min sLen dLen) (hn : cs.length = m * size)
    (hsrc : ∀ j v, cs[j]? = some v → w.cell? (a.add j) = some v) (hc : ∀ j, j < cs.length → (w.cell? ⟨b, o + j, none⟩).isSome = true) (hf : ∀ j, j < cs.length → w.frozen? ⟨b, o + j, none⟩ = false) (h1 : ∀ v ∈ cs, v.oneCell' = true) :
    (Builtin.copy_ #[dT, sT] ty #[.slice (some ⟨b, o, none⟩) dLen dCap, .slice (some a) sLen sCap]).run P w = .ok (goInt m) (w.setCells b o cs) := by
  have hl := run_loadCells_list (P := P) w a cs hsrc
  have hst := run_storeCells_cells (P := P) b o cs 0 w (by simpa using hc) (by simpa using hf) h1
  cases hq : P.info? elem with
  | none => simp [hq] at hs
  | some i =>
    have hi : i.size = size := by simpa [hq] using hs
    simp [Builtin.copy_, run_underlying hu, Builtin.lenOf, Builtin.firstCells, sizeOf, typeInfo, hq, hi, ← hm, ← hn, hl, hst]
theorem no_overlap {w : World} {vb g t k1 : Nat} {cs : Array Value} {cur : Array Value} (X : Bx w vb cs t) (hg : w.heap[g]? = some (.cells cur k1 (0, 0))) (hne : vb ≠ g) (hc : cur.size ≠ 0) (off lb cb : Nat) :
    (callFunc 44 #[.slice (some ⟨vb, 0, none⟩) 1 1, .slice (some ⟨g, off, none⟩) lb cb]).run Tryd.prog w = .ok (.value (.bool false)) w := by
  rw [run_callFunc_extern Tryd.func44 (by kernel_rfl) (by kernel_rfl) (by kernel_rfl) (e := Extern.SlicesOverlaps.overlaps #[24, 24] #[4]) (by kernel_rfl),
    Lib.run_overlaps_apart w 24 4 66 Tryd.underlying24 4 (fun _ => by kernel_rfl) ⟨vb, 0, none⟩ ⟨g, off, none⟩ 1 1 lb cb hne t k1 cs.size cur.size (by unfold Bx at X; simp [World.shape?, X]) (by simp [World.shape?, hg]) hc (X.free 0) (X.free _)]
  rfl
theorem grown_drew (w : World) (row : Option Nat) : w.grownBy w.drew row := ⟨rfl, rfl, rfl, Nat.le_refl _, fun _ _ _ => rfl⟩
theorem grown_setCells (w : World) (g o : Nat) (vs : List Value) : w.grownBy (w.setCells g o vs) (some g) := by
  obtain ⟨s1, s2, s3, s4⟩ := setCells_same g vs o w
  exact ⟨s1, s2, s3, by rw [s4]; exact Nat.le_refl _, fun k _ hk => setCells_far vs o k (fun he => hk (by rw [he]))⟩
/-- What a shift in place leaves: what the two copies answer, and the row behind them. -/
theorem shift_facts {w : World} {base vb g c n i : Nat} {l : List Pr} {p : Pr} {cur : Array Value} (hn : l.length = n) (hl : n ≤ 1000) (hi : i < n) (hroom : n + 1 ≤ c) (hne : vb ≠ g)
    (X : Bx w vb #[.string p.f0, .string p.f1.f0, .int .i64 p.f1.f1, .bool p.f1.f2] 66)
    (hg : base ≤ g) (hh : w.heap[g]? = some (.cells cur 66 (0, 0))) (hcm : c ≤ maxLen) (hcs : cur.size = c * 4) (htake : cur.toList.take (n * 4) = flatP l) :
    ∃ W1 W2, (∀ ty dc sc, (Builtin.copy_ #[24, 24] ty #[.slice (some ⟨g, (i + 1) * 4, none⟩) (n - i) dc, .slice (some ⟨g, i * 4, none⟩) (n + 1 - i) sc]).run Tryd.prog w.drew = .ok (goInt (n - i : Nat)) W1) ∧
      (∀ ty dc, (Builtin.copy_ #[24, 24] ty #[.slice (some ⟨g, i * 4, none⟩) (n + 1 - i) dc, .slice (some ⟨vb, 0, none⟩) 1 1]).run Tryd.prog W1 = .ok (goInt (1 : Nat)) W2) ∧
      OwP W2 base (.slice (some ⟨g, 0, none⟩) (n + 1) c) (insP l i p) ∧ w.grownBy W2 (some g) := by
  have hfl := flatP_length l
  rw [hn] at hfl
  have hdl : ((flatP l).drop (i * 4)).length = (n - i) * 4 := by rw [List.length_drop, hfl]; omega
  have hcell : ∀ j u, (flatP l)[j]? = some u → w.cell? ⟨g, j, none⟩ = some u := fun j u hj => by
    rw [cell_of_row w g _ cur 66 (0, 0) hh, ← Array.getElem?_toList]
    rw [← htake, List.getElem?_take] at hj
    split at hj
    · exact hj
    · cases hj
  have hcp1 : Hid (∀ ty dc sc, (Builtin.copy_ #[24, 24] ty #[.slice (some ⟨g, (i + 1) * 4, none⟩) (n - i) dc, .slice (some ⟨g, i * 4, none⟩) (n + 1 - i) sc]).run Tryd.prog w.drew = .ok (goInt (n - i : Nat)) (w.drew.setCells g ((i + 1) * 4) ((flatP l).drop (i * 4)))) := fun ty dc sc =>
    run_copy_k w.drew _ _ ty 66 4 (n - i) g ((i + 1) * 4) _ dc ⟨g, i * 4, none⟩ _ sc _ Tryd.underlying24 (by kernel_rfl) (by simp only [Nat.min_def]; split <;> omega) hdl
      (fun j u hj => by rw [Addr.add_lit]; exact hcell _ u (by rwa [List.getElem?_drop] at hj))
      (fun j hj => by rw [hdl] at hj; show (w.cell? _).isSome = true; rw [cell_of_row w g _ cur 66 (0, 0) hh]; simp; omega) (fun j hj => blk_frozen hh _) (fun u hu => flatP_one l u (List.mem_of_mem_drop hu))
  obtain ⟨cur1, h1, s1, e1⟩ := setCells_row ((flatP l).drop (i * 4)) ((i + 1) * 4) w.drew cur hh (by rw [hdl]; omega)
  obtain ⟨cur2, h2, s2, e2⟩ := setCells_row (cellsP p) (i * 4) _ cur1 h1 (by show i * 4 + 4 ≤ _; omega)
  have hXp : ∀ j u, (cellsP p)[j]? = some u → (w.drew.setCells g ((i + 1) * 4) ((flatP l).drop (i * 4))).cell? ((⟨vb, 0, none⟩ : Addr).add j) = some u := fun j u hj => by
    rw [Addr.add_lit, Nat.zero_add, World.cell?_setCells_out _ _ _ _ _ (fun h _ => absurd h hne)]
    show w.cell? _ = _
    rw [X.cell, ← hj]
    simp [cellsP]
  have hcp2 : Hid (∀ ty dc, (Builtin.copy_ #[24, 24] ty #[.slice (some ⟨g, i * 4, none⟩) (n + 1 - i) dc, .slice (some ⟨vb, 0, none⟩) 1 1]).run Tryd.prog (w.drew.setCells g ((i + 1) * 4) ((flatP l).drop (i * 4))) = .ok (goInt (1 : Nat)) ((w.drew.setCells g ((i + 1) * 4) ((flatP l).drop (i * 4))).setCells g (i * 4) (cellsP p))) := fun ty dc =>
    run_copy_k _ _ _ ty 66 4 1 g (i * 4) _ dc ⟨vb, 0, none⟩ 1 1 _ Tryd.underlying24 (by kernel_rfl) (by simp only [Nat.min_def]; split <;> omega) rfl hXp
      (fun j hj => by rw [cell_of_row _ g _ cur1 66 (0, 0) h1]; have hj' : j < 4 := hj; simp; omega) (fun j hj => blk_frozen h1 _) (cellsP_one p)
  have hfin : OwP ((w.drew.setCells g ((i + 1) * 4) ((flatP l).drop (i * 4))).setCells g (i * 4) (cellsP p)) base (.slice (some ⟨g, 0, none⟩) (n + 1) c) (insP l i p) := by
    have hil := insP_length l i p (by omega)
    rw [hn] at hil
    rw [← hil]
    refine ownP_of hg h2 (by omega) hcm (by omega) ?_
    have := two_stores (C := flatP l) (cur := cur.toList) (A := cur1.toList) (B := cur2.toList) (D := cellsP p) (a := i * 4) (k := 4) (by rw [hfl]; exact htake) (by omega) rfl (by simp; omega) (by rw [e1, show (i + 1) * 4 = i * 4 + 4 by omega]) e2
    rw [insP_flat l i p (by omega), ← this, hfl, hil, show (n + 1) * 4 = n * 4 + 4 by omega]
  have hbl : w.grownBy ((w.drew.setCells g ((i + 1) * 4) ((flatP l).drop (i * 4))).setCells g (i * 4) (cellsP p)) (some g) :=
    World.grownBy.trans (World.grownBy.trans (grown_drew w _) (grown_setCells w.drew g _ _)) (grown_setCells _ g _ _)
  exact ⟨_, _, hcp1.out, hcp2.out, hfin, hbl⟩
set_option maxHeartbeats 4000000 in
set_option maxRecDepth 100000 in
theorem insert_shift {w : World} {base vb g c n i : Nat} {l : List Pr} {p : Pr} (HO : OwP w base (.slice (some ⟨g, 0, none⟩) n c) l) (hb : base ≤ w.heap.size) (hn : l.length = n) (hl : n ≤ 1000) (hi : i < n) (hroom : n + 1 ≤ c) (hne : vb ≠ g)
    (X : Bx w vb #[.string p.f0, .string p.f1.f0, .int .i64 p.f1.f1, .bool p.f1.f2] 66) :
    Calls Tryd.prog 23 #[.slice (some ⟨g, 0, none⟩) n c, .int .i64 i, .slice (some ⟨vb, 0, none⟩) 1 1] w fun e w' => ∃ v', e = .returned v' ∧ OwP w' base v' (insP l i p) ∧ w.grownBy w' (some g) := by
  obtain ⟨_, ⟨hv, _⟩ | ⟨g', cap, cur, hv, hg, hh, hnc, hcm, hcs, htake⟩⟩ := HO
  · cases hv
  injection hv with hv1 hv2 hv3
  injection hv1 with hv1
  injection hv1 with hv1
  subst hv1 hv3
  rw [hn] at htake hnc
  have hc63 : c ≤ 9223372036854775807 := by simpa [maxLen] using hcm
  have hz2 : ¬ ((i : Int) = (n : Int)) := by omega
  have hw1 : IntKind.i64.wrap ((i : Int) + 1) = (i : Int) + 1 := by rw [IntKind.wrap_i64]; omega
  have hw2 : IntKind.i64.wrap ((n : Int) + 1) = (n : Int) + 1 := by rw [IntKind.wrap_i64]; omega
  have hb1 : (0 : Int) ≤ (i : Int) + 1 := by omega
  have hb1n : (0 : Int) ≤ (n : Int) + 1 := by omega
  have hin : i ≤ n := by omega
  have hi0 : (0 : Int) ≤ (i : Int) := by omega
  have hin' : (i : Int) ≤ (n : Int) := by omega
  have hr2 : ¬ ((c : Int) < (n : Int) + 1) := by omega
  have hr3 : (n : Int) + 1 ≤ (c : Int) := by omega
  have hr4 : (i : Int) + 1 ≤ (n : Int) + 1 := by omega
  have htn : ((i : Int) + 1).toNat = i + 1 := by omega
  have htn2 : ((n : Int) + 1).toNat = n + 1 := by omega
  have hb2 : ¬ (c = i + 1) := by omega
  have hb3 : (i : Int) ≤ (n : Int) + 1 := by omega
  have hb4 : ¬ (c = i) := by omega
  have k1 : (n : Int) ≤ (c : Int) := by omega
  have k2 : (i : Int) ≤ (c : Int) := by omega
  have k3 : (i : Int) + 1 ≤ (c : Int) := by omega
  have hov := fun off lb cb => no_overlap X hh hne (by omega) off lb cb
  have hP : Hid _ := Lib.hid (shift_facts hn hl hi hroom hne X hg hh hcm hcs htake)
  obtain ⟨W1, W2, q1, q2, q3, q4⟩ := hP.out
  have hcp1 := Lib.hid q1
  have hcp2 := Lib.hid q2
  have hfin := Lib.hid q3
  have hbl := Lib.hid q4
  clear hP q1 q2 q3 q4 hv2 htake hh hg hcs hcm X
  go_enter Tryd.func23, Tryd.ntmps23
  go_wp2_with (simp only [hov])
  go_still_tail 8, (by kernel_rfl)
  change wpList _ _ _ _ _ w.drew
  refine wpList_copy_runI _ rfl _ _ 24 24 rfl (.slice (some ⟨g, (i + 1) * 4, none⟩) (n - i) (c - (i + 1))) (.slice (some ⟨g, i * 4, none⟩) (n + 1 - i) (c - i)) (by rfl) (by rfl) (hcp1.out _ _ _) ?_
  have ecp2 := hcp2.out
  go_wp2
  go_ret
  exact ⟨_, rfl, hfin.out, hbl.out⟩
theorem grow_stores {R A B C D E : List Value} {a : Nat} (hR : R.take a = C.take a) (ha : a ≤ R.length) (haC : a ≤ C.length) (hD : D.length = 4) (hA : A = R.take a ++ D ++ R.drop (a + D.length)) (hB : B = A.take (a + 4) ++ E ++ A.drop (a + 4 + E.length)) :
    B.take (a + 4 + E.length) = C.take a ++ D ++ E := by
  have h1 : A.take (a + 4) = C.take a ++ D := by
    rw [hA, hR]
    exact List.take_left' (by rw [List.length_append, List.length_take, hD]; omega)
  rw [hB, h1]
  exact List.take_left' (by rw [List.length_append, List.length_append, List.length_take, hD]; omega)
theorem grow_facts {w : World} {base vb g c n i : Nat} {l : List Pr} {p : Pr} {cur : Array Value} (hn : l.length = n) (hl : n ≤ 1000) (hi : i < n) (hnc : n ≤ c) (hroom : c < n + 1) (hb : base ≤ w.heap.size)
    (X : Bx w vb #[.string p.f0, .string p.f1.f0, .int .i64 p.f1.f1, .bool p.f1.f2] 66)
    (hg : base ≤ g) (hh : w.heap[g]? = some (.cells cur 66 (0, 0))) (hcs : cur.size = c * 4) (htake : cur.toList.take (n * 4) = flatP l) :
    ∃ G W1 W2 W3, n + 1 ≤ G ∧ G ≤ 9223372036854775807 ∧
      (∀ ty, (Builtin.append_ #[24, 3] ty #[.slice (some ⟨g, 0, none⟩) i c, .int .i64 ((n : Int) + 1 - (i : Int))]).run Tryd.prog w = .ok (.slice (some ⟨w.heap.size, 0, none⟩) (n + 1) G) W1) ∧
      (∀ ty dc, (Builtin.copy_ #[24, 24] ty #[.slice (some ⟨w.heap.size, i * 4, none⟩) (n + 1 - i) dc, .slice (some ⟨vb, 0, none⟩) 1 1]).run Tryd.prog W1 = .ok (goInt (1 : Nat)) W2) ∧
      (∀ ty dc sc, (Builtin.copy_ #[24, 24] ty #[.slice (some ⟨w.heap.size, (i + 1) * 4, none⟩) (n - i) dc, .slice (some ⟨g, i * 4, none⟩) (n - i) sc]).run Tryd.prog W2.drew = .ok (goInt (n - i : Nat)) W3) ∧
      OwP W3 base (.slice (some ⟨w.heap.size, 0, none⟩) (n + 1) G) (insP l i p) ∧ Below w.heap.size w W3 := by
  obtain ⟨i0, hi0, hzz⟩ := Option.map_eq_some_iff.1 info66
  simp only [Prod.mk.injEq] at hzz
  obtain ⟨hz0, hz1, hz2⟩ := hzz
  have hfl := flatP_length l
  rw [hn] at hfl
  have hcell : ∀ j u, (flatP l)[j]? = some u → w.cell? ⟨g, j, none⟩ = some u := fun j u hj => by
    rw [cell_of_row w g _ cur 66 (0, 0) hh, ← Array.getElem?_toList]
    rw [← htake, List.getElem?_take] at hj
    split at hj
    · exact hj
    · cases hj
  have hgw : g < w.heap.size := blk_lt hh
  have hvw : vb < w.heap.size := X.lt
  have hold : (Builtin.firstCells i0.size i (.slice (some ⟨g, 0, none⟩) i c)).run Tryd.prog w.drew = .ok ((flatP l).take (i * 4)).toArray w.drew := by
    rw [hz1]
    exact run_firstCells_some w.drew 4 i ⟨g, 0, none⟩ i c _ (by rw [List.length_take]; omega) (fun j v hj => by
      rw [Addr.add_lit, Nat.zero_add]
      rw [List.getElem?_take] at hj
      split at hj
      · exact hcell j v hj
      · cases hj)
  have hik : i + (n + 1 - i) = n + 1 := by omega
  have hkk : (n : Int) + 1 - (i : Int) = ((n + 1 - i : Nat) : Int) := by omega
  have hrz := fun ty => Lib.run_append_grow_zeros w 24 3 ty 66 i0 _ .i64 .i64 Tryd.underlying24 Tryd.underlying3 hi0 hz0 (some ⟨g, 0, none⟩) i c _ hold (n + 1 - i) (by omega) (by omega) (by omega) (by omega) (by rw [hz2]; omega) (by rw [hz2, hik]; exact growslice_fits hroom (by omega))
  rw [hik] at hrz
  rw [hkk]
  have hGn : n + 1 ≤ grownCap w (n + 1) c 66 := grownCap_ge w _ _ _
  have hG63 := grownCap_le_maxLen w (n + 1) c 66 (by unfold maxLen; omega)
  generalize grownCap w (n + 1) c 66 = G at hrz hGn hG63
  obtain ⟨ROW, hROW⟩ : ∃ ROW : Array Value, ROW = ((flatP l).take (i * 4)).toArray ++ Builtin.zeroCells (Value.agg #[(.string ⟨#[]⟩), (.string ⟨#[]⟩), (.int .i64 0), (.bool false)]).cells (n + 1 - i) ++ Builtin.zeroCells (Value.agg #[(.string ⟨#[]⟩), (.string ⟨#[]⟩), (.int .i64 0), (.bool false)]).cells (G - (n + 1)) := ⟨_, rfl⟩
  rw [← hROW] at hrz
  have hRs : ROW.size = G * 4 := by
    have hz4 : (Value.agg #[(.string ⟨#[]⟩), (.string ⟨#[]⟩), (.int .i64 0), (.bool false)]).cells.size = 4 := by rfl
    rw [hROW, Array.size_append, Array.size_append, size_zeroCells, size_zeroCells, hz4, List.size_toArray, List.length_take, hfl]
    omega
  have hRt : ROW.toList.take (i * 4) = (flatP l).take (i * 4) := by
    rw [hROW]
    simp only [Array.toList_append, List.append_assoc]
    exact List.take_left' (by simp; omega)
  have hhR : (w.drew.alloc (.cells ROW 66)).heap[w.heap.size]? = some (.cells ROW 66 (0, 0)) := heap_alloc_new w.drew _
  obtain ⟨W1, hW1⟩ : ∃ W1, W1 = w.drew.alloc (.cells ROW 66) := ⟨_, rfl⟩
  have hba : Below w.heap.size w W1 := by rw [hW1]; exact ((Below.refl w.heap.size w).drew).alloc (Nat.le_refl _) _
  have hbo : ∀ a : Addr, a.block < w.heap.size → W1.cell? a = w.cell? a := fun a ha => by rw [hW1]; exact ((Below.refl w.heap.size w).drew.alloc (Nat.le_refl _) _).cell ha
  rw [← hW1] at hrz hhR
  clear hW1 hROW hold
  obtain ⟨N, hN⟩ : ∃ N, N = w.heap.size := ⟨_, rfl⟩
  rw [← hN] at hrz hhR hgw hvw hbo hb hba ⊢
  clear hN
  obtain ⟨cur1, h1, s1, e1⟩ := setCells_row (cellsP p) (i * 4) _ ROW hhR (by show i * 4 + 4 ≤ _; omega)
  have hdl : ((flatP l).drop (i * 4)).length = (n - i) * 4 := by rw [List.length_drop, hfl]; omega
  have hcA : ∀ ty dc, (Builtin.copy_ #[24, 24] ty #[.slice (some ⟨N, i * 4, none⟩) (n + 1 - i) dc, .slice (some ⟨vb, 0, none⟩) 1 1]).run Tryd.prog W1 = .ok (goInt (1 : Nat)) (W1.setCells N (i * 4) (cellsP p)) := fun ty dc =>
    run_copy_k _ _ _ ty 66 4 1 N (i * 4) _ dc ⟨vb, 0, none⟩ 1 1 _ Tryd.underlying24 (by kernel_rfl) (by simp only [Nat.min_def]; split <;> omega) rfl
      (fun j u hj => by
        rw [Addr.add_lit, Nat.zero_add, hbo _ hvw, X.cell, ← hj]
        simp [cellsP])
      (fun j hj => by rw [cell_of_row _ N _ ROW 66 (0, 0) hhR]; have hj' : j < 4 := hj; simp; omega) (fun j hj => blk_frozen hhR _) (cellsP_one p)
  have hb2 : Below N w (W1.setCells N (i * 4) (cellsP p)) := hba.trans (setCells_below (Nat.le_refl N) _ _ _)
  have hbo2 : ∀ a : Addr, a.block < N → (W1.setCells N (i * 4) (cellsP p)).cell? a = w.cell? a := fun a ha => by
    rw [World.cell?_setCells_out _ _ _ _ _ (fun h _ => by omega)]
    exact hbo a ha
  generalize W1.setCells N (i * 4) (cellsP p) = W2 at *
  have h1' : W2.drew.heap[N]? = some (.cells cur1 66 (0, 0)) := h1
  obtain ⟨cur2, h2, s2, e2⟩ := setCells_row ((flatP l).drop (i * 4)) ((i + 1) * 4) _ cur1 h1' (by rw [hdl]; omega)
  have hcB : ∀ ty dc sc, (Builtin.copy_ #[24, 24] ty #[.slice (some ⟨N, (i + 1) * 4, none⟩) (n - i) dc, .slice (some ⟨g, i * 4, none⟩) (n - i) sc]).run Tryd.prog W2.drew = .ok (goInt (n - i : Nat)) (W2.drew.setCells N ((i + 1) * 4) ((flatP l).drop (i * 4))) := fun ty dc sc =>
    run_copy_k _ _ _ ty 66 4 (n - i) N ((i + 1) * 4) _ dc ⟨g, i * 4, none⟩ _ sc _ Tryd.underlying24 (by kernel_rfl) (by simp only [Nat.min_def]; split <;> omega) hdl
      (fun j u hj => by
        rw [Addr.add_lit]
        rw [List.getElem?_drop] at hj
        exact (hbo2 ⟨g, i * 4 + j, none⟩ hgw).trans (hcell _ u hj))
      (fun j hj => by rw [hdl] at hj; rw [cell_of_row _ N _ cur1 66 (0, 0) h1']; simp; omega) (fun j hj => blk_frozen h1' _) (fun u hu => flatP_one l u (List.mem_of_mem_drop hu))
  have hb3 : Below N w (W2.drew.setCells N ((i + 1) * 4) ((flatP l).drop (i * 4))) := hb2.drew.trans (setCells_below (Nat.le_refl N) _ _ _)
  generalize W2.drew.setCells N ((i + 1) * 4) ((flatP l).drop (i * 4)) = W3 at *
  refine ⟨G, W1, W2, W3, hGn, by simpa [maxLen] using hG63, hrz, hcA, hcB, ?_, hb3⟩
  have hil := insP_length l i p (by omega)
  rw [hn] at hil
  have hgs := grow_stores (R := ROW.toList) (A := cur1.toList) (B := cur2.toList) (C := flatP l) (D := cellsP p) (E := (flatP l).drop (i * 4)) (a := i * 4) hRt (by simp; omega) (by omega) rfl e1 (by rw [e2, show (i + 1) * 4 = i * 4 + 4 by omega])
  rw [← hil]
  refine ownP_of hb h2 (by omega) hG63 (by omega) ?_
  rw [insP_flat l i p (by omega), ← hgs, hil, hdl, show (n + 1) * 4 = i * 4 + 4 + (n - i) * 4 by omega]
set_option maxHeartbeats 4000000 in
set_option maxRecDepth 100000 in
theorem insert_grow {w : World} {base vb g c n i : Nat} {l : List Pr} {p : Pr} (HO : OwP w base (.slice (some ⟨g, 0, none⟩) n c) l) (hb : base ≤ w.heap.size) (hn : l.length = n) (hl : n ≤ 1000) (hi : i < n) (hroom : c < n + 1)
    (X : Bx w vb #[.string p.f0, .string p.f1.f0, .int .i64 p.f1.f1, .bool p.f1.f2] 66) :
    Calls Tryd.prog 23 #[.slice (some ⟨g, 0, none⟩) n c, .int .i64 i, .slice (some ⟨vb, 0, none⟩) 1 1] w fun e w' => ∃ v', e = .returned v' ∧ OwP w' base v' (insP l i p) ∧ w.grownBy w' (some g) := by
  obtain ⟨_, ⟨hv, _⟩ | ⟨g', cap, cur, hv, hg, hh, hnc, hcm, hcs, htake⟩⟩ := HO
  · cases hv
  injection hv with hv1 hv2 hv3
  injection hv1 with hv1
  injection hv1 with hv1
  subst hv1 hv3
  rw [hn] at htake hnc
  have hP : Hid _ := Lib.hid (grow_facts hn hl hi hnc hroom hb X hg hh hcs htake)
  obtain ⟨G, W1, W2, W3, g1, g2, q1, q2, q3, q4, q5⟩ := hP.out
  have hcp1 := Lib.hid q1
  have hcp2 := Lib.hid q2
  have hcp3 := Lib.hid q3
  have hfin := Lib.hid q4
  have hbl := Lib.hid (grown_of_below q5 (some g))
  clear hP q1 q2 q3 q4 q5 hv2 htake hh hg hcs hcm X
  generalize hN : w.heap.size = N at *
  clear hN
  have hz2 : ¬ ((i : Int) = (n : Int)) := by omega
  have hw1 : IntKind.i64.wrap ((i : Int) + 1) = (i : Int) + 1 := by rw [IntKind.wrap_i64]; omega
  have hw2 : IntKind.i64.wrap ((n : Int) + 1) = (n : Int) + 1 := by rw [IntKind.wrap_i64]; omega
  have hw3 : IntKind.i64.wrap ((n : Int) + 1 - (i : Int)) = (n : Int) + 1 - (i : Int) := by rw [IntKind.wrap_i64]; omega
  have hb1 : (0 : Int) ≤ (i : Int) + 1 := by omega
  have hb1n : (0 : Int) ≤ (n : Int) + 1 := by omega
  have hin : i ≤ n := by omega
  have hi0 : (0 : Int) ≤ (i : Int) := by omega
  have hin' : (i : Int) ≤ (n : Int) := by omega
  have hr2 : (c : Int) < (n : Int) + 1 := by omega
  have hr4 : (i : Int) + 1 ≤ (n : Int) + 1 := by omega
  have htn : ((i : Int) + 1).toNat = i + 1 := by omega
  have htn2 : ((n : Int) + 1).toNat = n + 1 := by omega
  have hb2 : ¬ (G = i + 1) := by omega
  have hb3 : (i : Int) ≤ (n : Int) + 1 := by omega
  have hb4 : ¬ (c = i) := by omega
  have hb5 : ¬ (G = i) := by omega
  have k1 : (n : Int) ≤ (c : Int) := by omega
  have k2 : (i : Int) ≤ (c : Int) := by omega
  have k4 : (i : Int) ≤ (G : Int) := by omega
  have k5 : (i : Int) + 1 ≤ (G : Int) := by omega
  have k6 : (n : Int) + 1 ≤ (G : Int) := by omega
  have ecp2 := hcp2.out
  go_enter Tryd.func23, Tryd.ntmps23
  go_wp2_with (at_builtin; refine Lib.wpList_append_run _ rfl _ _ _ _ rfl _ _ rfl rfl _ _ (hcp1.out _) ?_)
  go_still_tail 8, (by kernel_rfl)
  change wpList _ _ _ _ _ W2.drew
  refine wpList_copy_runI _ rfl _ _ 24 24 rfl (.slice (some ⟨N, (i + 1) * 4, none⟩) (n - i) (G - (i + 1))) (.slice (some ⟨g, i * 4, none⟩) (n - i) (c - i)) (by rfl) (by rfl) (hcp3.out _ _ _) ?_
  go_wp2
  go_ret
  exact ⟨_, rfl, hfin.out, hbl.out⟩
theorem insert_c {w : World} {base vb i : Nat} {v : Value} {l : List Pr} {p : Pr} (HO : OwP w base v l) (hb : base ≤ w.heap.size) (hl : l.length ≤ 1000) (hi : i ≤ l.length) (hne : v.ownBlock ≠ some vb)
    (X : Bx w vb #[.string p.f0, .string p.f1.f0, .int .i64 p.f1.f1, .bool p.f1.f2] 66) :
    Calls Tryd.prog 23 #[v, .int .i64 i, .slice (some ⟨vb, 0, none⟩) 1 1] w fun e w' => ∃ v', e = .returned v' ∧ OwP w' base v' (insP l i p) ∧ w.grownBy w' v.ownBlock := by
  rcases Nat.lt_or_ge i l.length with h | h
  · rcases HO.2 with ⟨_, h0⟩ | ⟨g, c, cur, hv, _⟩
    · omega
    · subst hv
      have hg : vb ≠ g := fun e => hne (by rw [e]; rfl)
      by_cases hr : l.length + 1 ≤ c
      · exact insert_shift HO hb rfl hl h hr hg X
      · exact insert_grow HO hb rfl hl h (by omega) X
  · obtain rfl : i = l.length := by omega
    exact insert_end HO hb hl X
end TP
end Go.Proofs.YtfaabbimbjegmaaDoor
