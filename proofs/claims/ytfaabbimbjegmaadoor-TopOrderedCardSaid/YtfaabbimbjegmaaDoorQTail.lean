/-
  A region that draws its order: its first operations are quiet in a class of worlds, the last ones wait for all of them and come one by one.
-/
import Derived.Deep.Quiet
import Derived.StillTail
set_option linter.unusedVariables false
namespace Go.Proofs.YtfaabbimbjegmaaDoor
open Go
namespace QT
variable {P : Program} {ops : Array Oper} {md : Region.Mode} {C : World → Prop}
/-- Each of the first n waits for such as stand ahead of it alone. -/
def headB (md : Region.Mode) (ops : Array Oper) (n : Nat) : Bool :=
  (List.range n).all fun i => match ops[i]? with
    | some o => o.after.all fun e => !Region.binds md e || decide (e.on < i)
    | none => false
theorem headB_at {n i : Nat} (h : headB md ops n = true) (hi : i < n) : ∃ o, ops[i]? = some o ∧ ∀ e ∈ o.after, Region.binds md e = true → e.on < i := by
  have h1 := List.all_eq_true.1 h i (List.mem_range.2 hi)
  split at h1
  · rename_i o ho
    refine ⟨o, ho, fun e he hb => ?_⟩
    have h2 := Array.all_eq_true'.1 h1 e he
    simpa [hb] using h2
  · cases h1
theorem least {n : Nat} {F : Array Bool} (hh : headB md ops n = true) (inv : HeadInv md ops n F) (hn : n < ops.size) :
    ∀ i, i < n → F.getD i true = false → ∃ j, j < n ∧ j ∈ Region.ready md ops F := by
  intro i
  induction i using Nat.strongRecOn with
  | _ i ih =>
    intro hi hf
    obtain ⟨o, ho, hlow⟩ := headB_at hh hi
    by_cases hall : ∀ e ∈ o.after, Region.binds md e = true → F.getD e.on false = true
    · exact ⟨i, hi, mem_ready.2 ⟨hf, o, ho, hall⟩⟩
    · simp only [Classical.not_forall] at hall
      obtain ⟨e, he, hb, hne⟩ := hall
      have hlt := hlow e he hb
      exact ih e.on hlt (by omega) (getD_in (by rw [inv.size]; omega) (by simpa using hne))
/-- T: the list with the last operations struck as if they had come. -/
structure Rel (ops : Array Oper) (n : Nat) (T F : Array Bool) : Prop where
  low : ∀ i, i < n → T.getD i true = F.getD i true ∧ T.getD i false = F.getD i false
  high : ∀ i, n ≤ i → T.getD i true = true
theorem Rel.set {n i : Nat} {T F : Array Bool} (h : Rel ops n T F) (hi : i < n) (hT : i < T.size) (hF : i < F.size) : Rel ops n (T.setIfInBounds i true) (F.setIfInBounds i true) := by
  refine ⟨fun j hj => ?_, fun j hj => ?_⟩
  · by_cases hij : i = j
    · subst hij
      simp [hT, hF]
    · rw [getD_set_ne true hij, getD_set_ne false hij, getD_set_ne true hij, getD_set_ne false hij]
      exact h.low j hj
  · rw [getD_set_ne true (by omega)]
    exact h.high j hj
theorem wpAny_more {Q' : Exit → Act → World → Prop} : ∀ (g : Nat) (F : Array Bool) (a : Act) (w : World), wpAny P md ops Q' g F a w → wpAny P md ops Q' (g + 1) F a w
  | 0, F, a, w, h => ⟨fun _ => h.2, fun i hi => by rw [h.1] at hi; cases hi⟩
  | g + 1, F, a, w, h => ⟨h.1, fun i hi => wpOp_mono (fun a' w' h' => wpAny_more g _ a' w' h') (h.2 i hi)⟩
theorem wpAny_plus {Q' : Exit → Act → World → Prop} {g : Nat} {F : Array Bool} {a : Act} {w : World} (h : wpAny P md ops Q' g F a w) : ∀ f, wpAny P md ops Q' (f + g) F a w
  | 0 => by rw [Nat.zero_add]; exact h
  | f + 1 => by rw [show f + 1 + g = (f + g) + 1 by omega]; exact wpAny_more _ _ _ _ (wpAny_plus h f)
theorem all_of_none {n : Nat} {T F : Array Bool} (hh : headB md ops n = true) (inv : HeadInv md ops n F) (hn : n < ops.size) (hR : Rel ops n T F) (h0 : Region.ready md ops T = []) : ∀ i, i < n → F.getD i false = true := by
  intro i hi
  cases hf : F.getD i false with
  | true => rfl
  | false =>
    obtain ⟨j, hj, hr⟩ := least hh inv hn i hi (getD_in (by rw [inv.size]; omega) hf)
    obtain ⟨hun, o, ho, hall⟩ := mem_ready.1 hr
    obtain ⟨o', ho', hlow⟩ := headB_at hh hj
    have : o' = o := Option.some.inj (ho'.symm.trans ho)
    subst this
    have : j ∈ Region.ready md ops T := mem_ready.2 ⟨(hR.low j hj).1.trans hun, o', ho, fun e he hb => (hR.low e.on (by have := hlow e he hb; omega)).2.trans (hall e he hb)⟩
    rw [h0] at this
    cases this
theorem wpAny_of_headQ {n g : Nat} {K : Act → Prop} {Q' : Exit → Act → World → Prop} (hh : headB md ops n = true) (hs : Region.sinkB md ops n = true) (hc : Region.chainB md ops n = true) (hn : n < ops.size)
    (hK : ∀ F a w, HeadInv md ops n F → (∀ i, i < n → F.getD i false = true) → C w → K a → wpAny P md ops Q' g F a w) :
    ∀ (f : Nat) (T F : Array Bool) (a : Act) (w : World), Rel ops n T F → T.size = ops.size → HeadInv md ops n F → C w → wpAnyQ P md ops C K f T a → wpAny P md ops Q' (f + g) F a w
  | 0, T, F, a, w, hR, hT, inv, hw, h => by
    rw [Nat.zero_add]
    exact hK F a w inv (all_of_none hh inv hn hR h.1) hw h.2
  | f + 1, T, F, a, w, hR, hT, inv, hw, h => by
    by_cases h0 : Region.ready md ops T = []
    · exact wpAny_plus (hK F a w inv (all_of_none hh inv hn hR h0) hw (h.1 h0)) (f + 1)
    · obtain ⟨i, hi⟩ := List.exists_mem_of_ne_nil _ h0
      have hun := (mem_ready.1 hi).1
      have hin : i < n := by
        rcases Nat.lt_or_ge i n with h | h
        · exact h
        · rw [hR.high i h] at hun; cases hun
      have hFi : F.getD i true = false := (hR.low i hin).1.symm.trans hun
      rw [show f + 1 + g = (f + g) + 1 by omega]
      refine ⟨fun hF0 => ?_, fun j hj => ?_⟩
      · obtain ⟨j, hj, hr⟩ := least hh inv hn i hin hFi
        rw [hF0] at hr
        cases hr
      · have hjn : j < n := by
          rcases Nat.lt_or_ge j n with h | h
          · exact h
          · exact absurd hj (tail_waits hs hc hn inv _ i rfl hin hFi j h)
        obtain ⟨hjun, o, ho, hall⟩ := mem_ready.1 hj
        obtain ⟨o', ho', hlow⟩ := headB_at hh hjn
        have : o' = o := Option.some.inj (ho'.symm.trans ho)
        subst this
        have hjT : j ∈ Region.ready md ops T := mem_ready.2 ⟨(hR.low j hjn).1.trans hjun, o', ho, fun e he hb => (hR.low e.on (by have := hlow e he hb; omega)).2.trans (hall e he hb)⟩
        exact wpOp_of_qOp hw (fun a' w' hw' h' => wpAny_of_headQ hh hs hc hn hK f _ _ a' w' (hR.set hjn (by omega) (by rw [inv.size]; omega)) (by simp [hT]) (inv.set hj hjn) hw' h') (h.2 j hjT)
theorem lexQ {K : Act → Prop} (hsel : Region.noSelect ops = true) : ∀ (l : List Oper) (k : Nat) (T : Array Bool) (a : Act), (∀ j, j < l.length → l[j]? = ops[k + j]?) →
    Region.lexFrom md ops l.length k T = true → wpQuiet P ops C K l a → wpAnyQ P md ops C K l.length T a
  | [], _, _, _, _, hB, h => ⟨by simpa [Region.lexFrom] using hB, h⟩
  | o :: l, k, T, a, hl, hB, h => by
    have h0 : ops[k]? = some o := by simpa using (hl 0 (by simp)).symm
    simp only [List.length_cons, Region.lexFrom, Bool.and_eq_true] at hB
    obtain ⟨⟨hr, hf⟩, hB'⟩ := hB
    have hq : qOp P ops C k (wpQuiet P ops C K l) a := by unfold qOp; simp only [h0]; exact h
    obtain ⟨v, hy, hK⟩ := yieldsIn_of_qOp h0 hq
    exact wpAnyQ_first h0 (Region.noSelect_spec hsel) l.length T a (Region.free_spec h0 hf) (by simpa using hr) hy
      (lexQ hsel l (k + 1) _ _ (fun j hj => by have := hl (j + 1) (by simp; omega); simpa [Nat.add_assoc, Nat.add_comm 1 j] using this) hB' hK)
def tailB (md : Region.Mode) (l : List Oper) (n : Nat) : Bool :=
  Region.noSelect l.toArray && decide (n < l.length) && headB md l.toArray n && Region.sinkB md l.toArray n && Region.chainB md l.toArray n &&
    Region.lexFrom md l.toArray n 0 (Array.replicate n false ++ Array.replicate (l.length - n) true) &&
    Region.seqB md l.toArray (l.length - n) n (Array.replicate n true ++ Array.replicate (l.length - n) false)
theorem wp_region_quiet_tail {id : Nat} {Q : Exit → Act → World → Prop} {a : Act} {w : World} {l : List Oper} (n : Nat) (hm : P.follows .mixedOrders = true) (hB : tailB .any l n = true) (hC : C w.drew)
    (h : wpQuiet P l.toArray C (fun a' => ∀ w', C w' → wpList P l.toArray Q (l.drop n) a' w') (l.take n) a) : (Code.region id l.toArray true).wp P Q a w := by
  simp only [tailB, Bool.and_eq_true, decide_eq_true_eq] at hB
  obtain ⟨⟨⟨⟨⟨⟨hsel, hn'⟩, hh⟩, hs⟩, hc⟩, hlex⟩, hseq⟩ := hB
  have hn : n < l.toArray.size := by simpa using hn'
  have htl : (l.take n).length = n := by simp; omega
  have hdl : (l.drop n).length = l.length - n := by simp
  refine wp_region_any hm ?_
  have H := lexQ (md := .any) (C := C) hsel (l.take n) 0 (Array.replicate n false ++ Array.replicate (l.length - n) true) a (fun j hj => by
    have hj' : j < n := by rw [htl] at hj; exact hj
    simp [hj']) (by rw [htl]; exact hlex) h
  rw [htl] at H
  have inv0 : HeadInv .any l.toArray n (Array.replicate l.toArray.size false) :=
    ⟨by simp, fun j oj _ hl => (by rw [getD_replicate_false] at hl; cases hl), fun t _ ht => getD_in (by simpa using ht) (getD_replicate_false _ _)⟩
  have hR : Rel l.toArray n (Array.replicate n false ++ Array.replicate (l.length - n) true) (Array.replicate l.toArray.size false) := by
    refine ⟨fun i hi => ?_, fun i hi => ?_⟩
    · have h1 : i < l.length := by omega
      simp [Array.getD, hi, h1]
      omega
    · by_cases h1 : i < l.length
      · have : ¬ i < n := by omega
        simp [Array.getD, Array.getElem_append, this]
      · have : ¬ i < n + (l.length - n) := by omega
        simp [Array.getD, this]
  have := wpAny_of_headQ (Q' := Q) (g := l.length - n) hh hs hc hn (fun F a' w' inv hall hw' hk => by
    have hF : F = Array.replicate n true ++ Array.replicate (l.length - n) false := by
      apply Array.ext
      · rw [inv.size]; simp; omega
      · intro i h1 h2
        by_cases hi : i < n
        · have := hall i hi
          simp only [Array.getD, h1, dif_pos] at this
          simpa [Array.getElem_append, hi] using this
        · have h3 := inv.tail i (by omega) (by rw [inv.size] at h1; exact h1)
          simp only [Array.getD, h1, dif_pos] at h3
          simpa [Array.getElem_append, hi] using h3
    have h4 := wpAny_of_seq (md := .any) (Q' := Q) (l.drop n) n F a' w' (fun j => by simp [List.getElem?_drop]) (by rw [hdl, hF]; exact hseq) (hk w' hw')
    rwa [hdl] at h4) n _ _ a _ hR (by simp; omega) inv0 hC H
  rw [show n + (l.length - n) = l.toArray.size by simp; omega] at this
  exact this
end QT
end Go.Proofs.YtfaabbimbjegmaaDoor
