/- The values of any bytes, or what is wrong with them, are the document's answer: the pure statement. Condition: a text has at most 2^47 - 4096 bytes. -/
import Derived.Test.YtojelhacelfjkaaKeysSpeaks
import Derived.Test.YtojelhacelfjkaaPAx11
set_option linter.unusedVariables false
namespace Go.Proofs.Ytojelhacelfjkaa.Pure
open Go.RowKit Go.Proofs.Ytojelhacelfjkaa.PA Go.Proofs.Ytojelhacelfjkaa.BB Go.Proofs.Ytojelhacelfjkaa.KB Go.Proofs.YtojelhacelfjkaaW.PrintWords Go.Proofs.YtojelhacelfjkaaW.PrintLast Go.Proofs.YtojelhacelfjkaaW.PrintMore

theorem gets_same (vs : List PV) (a : ByteArray) (f : Int) (r : Bool) (hr : Ev (fun k => (keys_Put.f k (vs.map s36)).bind fun bt249 => (if f = 0 then (if bt249.2 = 0 then (some (bt249.1.toList == a.toList)) else (some false)) else (some true))) r) (hl : vs.length < 1000000) (d : Nat) :
    ∀ i, i + d = vs.length → Ev (fun k => concordancelaw01_KeysGets.l0 k a (vs.map s36) (vs.map s40) f (i : Int)) r := by
  have l36 : (vs.map s36).length = vs.length := List.length_map _
  have l40 : (vs.map s40).length = vs.length := List.length_map _
  induction d with
  | zero =>
    intro i hi
    refine Ev.step (fun k => ?_) hr
    simp only [concordancelaw01_KeysGets.l0]
    rw [if_neg (by rw [l40]; omega)]
  | succ d ih =>
    intro i hi
    have e := ih (i + 1) (by omega)
    have hlt : i < vs.length := by omega
    refine Ev.step (fun k => ?_) e
    simp only [concordancelaw01_KeysGets.l0]
    have c : (!(((rd_T36 (vs.map s36) (i : Int)).f0.toList) == ((rd_T40 (vs.map s40) (i : Int)).f0.toList)) || (!(((rd_T36 (vs.map s36) (i : Int)).f1) == ((rd_T40 (vs.map s40) (i : Int)).f1)) || (!(((rd_T36 (vs.map s36) (i : Int)).f2) == ((rd_T40 (vs.map s40) (i : Int)).f2))))) = false := by
      rw [rd36 _ i (by omega), rd40 _ i (by omega), List.getElem_map, List.getElem_map]
      simp [s36, s40]
    rw [if_pos (by omega), if_pos (by omega), if_pos (by omega), c, if_neg (by decide), wrap_succ (by omega)]

theorem getP_length (n : Nat) : ∀ l, (getP n l).1.length ≤ n := by
  induction n with
  | zero => intro l; simp [getP]
  | succ n ih =>
    intro l
    simp only [getP]
    split
    · simp
    · split
      · split
        · have := ih (one l).2.2
          simp only [List.length_cons]
          omega
        · simp
      · simp

theorem KeysGets : concordancelaw01_KeysGets.Pure := by
  intro a ha
  obtain ⟨K1, h1⟩ := speaks
  by_cases h500 : (a.size : Int) > 500
  · refine ⟨K1, ?_⟩
    have e1 := h1 K1 (by omega)
    simp only at e1
    unfold concordancelaw01_KeysGets.f
    rw [e1]
    simp only [Option.bind_some, if_true]
    rw [if_pos h500]
  · obtain ⟨K2, h2⟩ := getF a (by omega)
    obtain ⟨K3, h3⟩ := refGetF a (by omega)
    have hlen : (getL a.data.toList).1.length ≤ 501 := by
      have := getP_length (a.data.toList.length + 1) a.data.toList
      rw [sizeL] at this
      unfold getL
      rw [sizeL]
      omega
    have hres : Ev (fun k => concordancelaw01_KeysGets.j0 k a (gres [] (getL a.data.toList)).1 (gres40 [] (getL a.data.toList)).1 (gres40 [] (getL a.data.toList)).2 (((gres [] (getL a.data.toList)).1.length : Int) != ((gres40 [] (getL a.data.toList)).1.length : Int))) true := by
      have hvs : ∃ vs : List PV, vs.length ≤ 501 ∧ (gres [] (getL a.data.toList)).1 = vs.map s36 ∧ (gres40 [] (getL a.data.toList)).1 = vs.map s40 ∧ (gres40 [] (getL a.data.toList)).2 = (getL a.data.toList).2 ∧ ((getL a.data.toList).2 = 0 → putP vs = (a.data.toList, 0)) := by
        by_cases h : (getL a.data.toList).2 = 0
        · refine ⟨(getL a.data.toList).1, hlen, ?_, ?_, ?_, fun _ => ?_⟩
          · unfold gres; rw [if_pos h]; simp
          · unfold gres40; rw [if_pos h]; simp
          · unfold gres40; rw [if_pos h]; exact h.symm
          · unfold getL at h ⊢
            exact put_get _ _ (by omega) h
        · refine ⟨[], by simp, ?_, ?_, ?_, fun h2 => absurd h2 h⟩
          · unfold gres; rw [if_neg h]; rfl
          · unfold gres40; rw [if_neg h]; rfl
          · unfold gres40; rw [if_neg h]
      obtain ⟨vs, v1, v2, v3, v4, v5⟩ := hvs
      rw [v2, v3, v4]
      have hput := put_f (vs.map s36) (by rw [List.length_map]; omega)
      have hmap : (vs.map s36).map p36 = vs := by
        rw [List.map_map]
        conv => rhs; rw [← List.map_id vs]
        apply List.map_congr_left
        intro v _
        exact p36_s36 v
      rw [hmap] at hput
      have hlast : Ev (fun k => (keys_Put.f k (vs.map s36)).bind fun bt249 => (if (getL a.data.toList).2 = 0 then (if bt249.2 = 0 then (some (bt249.1.toList == a.toList)) else (some false)) else (some true))) true := by
        refine Ev.bind hput ?_
        refine ⟨0, fun k _ => ?_⟩
        by_cases h : (getL a.data.toList).2 = 0
        · have hp := v5 h
          simp only
          rw [if_pos h]
          unfold putR
          rw [hp, if_pos rfl]
          simp only
          rw [Lib.toList_data, Lib.toList_data, B_L]
          simp
        · simp only
          rw [if_neg h]
      have hloop := gets_same vs a (getL a.data.toList).2 true hlast (by omega) vs.length 0 (by omega)
      refine Ev.step (fun k => ?_) hloop
      simp only [concordancelaw01_KeysGets.j0]
      rw [List.length_map, List.length_map, if_neg (by simp)]
      rfl
    obtain ⟨K4, h4⟩ := hres
    refine ⟨K1 + K2 + K3 + K4, ?_⟩
    have e1 := h1 (K1 + K2 + K3 + K4) (by omega)
    have e2 := h2 (K1 + K2 + K3 + K4) (by omega)
    have e3 := h3 (K1 + K2 + K3 + K4) (by omega)
    have e4 := h4 (K1 + K2 + K3 + K4) (by omega)
    simp only at e1 e2 e3 e4
    have hsame : (gres [] (getL a.data.toList)).2 = (gres40 [] (getL a.data.toList)).2 := by
      unfold gres gres40
      by_cases h : (getL a.data.toList).2 = 0
      · rw [if_pos h, if_pos h]
      · rw [if_neg h, if_neg h]
    unfold concordancelaw01_KeysGets.f
    rw [e1]
    simp only [Option.bind_some, if_true]
    rw [if_neg h500, e2]
    simp only [Option.bind_some]
    rw [e3]
    simp only [Option.bind_some]
    rw [if_pos hsame]
    exact e4

end Go.Proofs.Ytojelhacelfjkaa.Pure
