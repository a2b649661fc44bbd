import Derived.Test.YtojelhacelfjkaaKeysCmp
import Derived.Test.YtojelhacelfjkaaKeysSpeaks
import Derived.Test.YtojelhacelfjkaaPAx16
set_option linter.unusedVariables false
namespace Go.Proofs.Ytojelhacelfjkaa.Pure
open Go.RowKit Go.Proofs.Ytojelhacelfjkaa.PA Go.Proofs.Ytojelhacelfjkaa.KB Go.Proofs.Ytojelhacelfjkaa.BB Go.Proofs.YtojelhacelfjkaaW.PrintWords Go.Proofs.YtojelhacelfjkaaW.PrintLast Go.Proofs.YtojelhacelfjkaaW.PrintMore

theorem full_l0 (s : ByteArray) (hs : s.size < 9223372036854775000) (ha : ∀ x ∈ s.data.toList, x = 255) (d : Nat) : ∀ i, i + d = s.size → Ev (fun k => concordancelaw01_KeysAfter.l0 k s (i : Int)) true := by
  induction d with
  | zero =>
    intro i hi
    refine ⟨1, fun k hk => ?_⟩
    obtain ⟨K, rfl⟩ : ∃ K, k = K + 1 := ⟨k - 1, by omega⟩
    show concordancelaw01_KeysAfter.l0 (K + 1) s _ = _
    rw [concordancelaw01_KeysAfter.l0, if_neg (by omega)]
  | succ d ih =>
    intro i hi
    have hlt : i < s.size := by omega
    have hb : s[i] = 255 := by
      refine ha _ ?_
      have := List.getElem_mem (l := s.data.toList) (n := i) (by rw [sizeL]; exact hlt)
      rw [dataGet s i hlt] at this
      exact this
    refine Ev.step (fun k => ?_) (ih (i + 1) (by omega))
    rw [concordancelaw01_KeysAfter.l0, if_pos (by omega), if_pos (by omega), btL s i hlt, hb, if_pos (show ((UInt8.toNat 255 : Nat) : Int) = 255 from rfl), wrap_succ (by omega)]

theorem j1_none (s t : ByteArray) (hs : s.size < 9223372036854775000) (ht : t.size < 9223372036854775000) (b : Bool) (h : aft s.data.toList = []) : Ev (fun k => concordancelaw01_KeysAfter.j1 k s t (B (aft s.data.toList)) b) true := by
  refine Ev.step (fun k => ?_) (full_l0 s hs (aft_none h) s.size 0 (by omega))
  rw [concordancelaw01_KeysAfter.j1, if_pos (by rw [Lib.toList_data, B_L]; exact h)]
  rfl

theorem j1_begins (s t : ByteArray) (hs : s.size < 9223372036854775000) (ht : t.size < 9223372036854775000) (h : aft s.data.toList ≠ []) (hp : s.data.toList <+: t.data.toList) : Ev (fun k => concordancelaw01_KeysAfter.j1 k s t (B (aft s.data.toList)) true) true := by
  have e1 := refBytes_f t (B (aft s.data.toList)) (by omega)
  have e2 := refBytes_f s (B (aft s.data.toList)) (by omega)
  rw [B_L] at e1 e2
  obtain ⟨m, hm⟩ := hp
  have c1 : Lib.compareBytes t.data.toList (aft s.data.toList) < 0 := by rw [← hm]; exact aft_begins _ _ h
  have c2 : Lib.compareBytes s.data.toList (aft s.data.toList) < 0 := by
    have := aft_begins s.data.toList [] h
    rwa [List.append_nil] at this
  refine Ev.step (fun k => ?_) (Ev.bind e1 (f := fun k t357 => if t357 < 0 then ((concordanceref01_Bytes.f k s (B (aft s.data.toList))).bind fun t358 => (some (decide (t358 < 0)))) else (some false)) ?_)
  · rw [concordancelaw01_KeysAfter.j1, if_neg (by rw [Lib.toList_data, B_L]; exact h), if_pos rfl]
  · simp only [if_pos c1]
    refine Ev.bind e2 (f := fun k t358 => some (decide (t358 < 0))) ?_
    simp only [decide_eq_true c2]
    exact Ev.now _

theorem j1_else (s t : ByteArray) (hs : s.size < 9223372036854775000) (ht : t.size < 9223372036854775000) (h : aft s.data.toList ≠ []) (hp : ¬ s.data.toList <+: t.data.toList) : Ev (fun k => concordancelaw01_KeysAfter.j1 k s t (B (aft s.data.toList)) false) true := by
  have e1 := refBytes_f t (B (aft s.data.toList)) (by omega)
  have e2 := refBytes_f t s (by omega)
  rw [B_L] at e1
  refine Ev.step (fun k => ?_) (Ev.bind e2 (f := fun k t359 => if t359 < 0 then (some true) else ((concordanceref01_Bytes.f k t (B (aft s.data.toList))).bind fun t360 => (some (decide (t360 ≥ 0))))) ?_)
  · rw [concordancelaw01_KeysAfter.j1, if_neg (by rw [Lib.toList_data, B_L]; exact h), if_neg (by decide)]
  · by_cases c : Lib.compareBytes t.data.toList s.data.toList < 0
    · simp only [if_pos c]
      exact Ev.now _
    · simp only [if_neg c]
      refine Ev.bind e1 (f := fun k t360 => some (decide (t360 ≥ 0))) ?_
      have c2 : Lib.compareBytes t.data.toList (aft s.data.toList) ≥ 0 := (aft_else _ _ hp).resolve_left c
      simp only [decide_eq_true c2]
      exact Ev.now _

/-- Does the one begin with the other? -/
theorem j1_all (s t : ByteArray) (hs : s.size < 9223372036854775000) (ht : t.size < 9223372036854775000) (b : Bool) (hb : b = true ↔ s.data.toList <+: t.data.toList) : Ev (fun k => concordancelaw01_KeysAfter.j1 k s t (B (aft s.data.toList)) b) true := by
  by_cases h : aft s.data.toList = []
  · exact j1_none s t hs ht b h
  · cases b with
    | true => exact j1_begins s t hs ht h (hb.mp rfl)
    | false => exact j1_else s t hs ht h (fun c => absurd (hb.mpr c) (by decide))

theorem j0_false (s t : ByteArray) (hs : s.size < 9223372036854775000) (ht : t.size < 9223372036854775000) : Ev (fun k => concordancelaw01_KeysAfter.j0 k s t false) true := by
  have e1 := after_f s hs
  refine Ev.step (fun k => ?_) (Ev.bind e1 (f := fun k t356 => if (t.size : Int) ≥ (s.size : Int) then (concordancelaw01_KeysAfter.j1 k s t t356 ((t.extract 0 s.size).toList == s.toList)) else (concordancelaw01_KeysAfter.j1 k s t t356 false)) ?_)
  · rw [concordancelaw01_KeysAfter.j0, if_neg (by decide)]
    by_cases h : (t.size : Int) ≥ (s.size : Int)
    · simp only [if_pos h]
      congr 1
      funext x
      have hm : mn (s.size : Int) (t.size : Int) = (s.size : Int) := by unfold mn; exact if_neg (by omega)
      first | rw [hm, if_pos (by omega), if_pos (by omega), Int.toNat_natCast] | rw [if_pos (by omega), if_pos (by omega), Int.toNat_natCast]
    · simp only [if_neg h]
  · by_cases h : (t.size : Int) ≥ (s.size : Int)
    · simp only [if_pos h]
      refine j1_all s t hs ht _ ?_
      rw [Lib.toList_data, Lib.toList_data, extract_front, beq_iff_eq, List.prefix_iff_eq_take, sizeL]
      exact ⟨fun h => h.symm, fun h => h.symm⟩
    · simp only [if_neg h]
      refine j1_all s t hs ht _ ?_
      refine ⟨fun h => absurd h (by decide), fun hp => ?_⟩
      have := hp.length_le
      rw [sizeL, sizeL] at this
      omega

theorem j0_any (s t : ByteArray) (hs : s.size < 9223372036854775000) (ht : t.size < 9223372036854775000) (b : Bool) : Ev (fun k => concordancelaw01_KeysAfter.j0 k s t b) true := by
  cases b with
  | false => exact j0_false s t hs ht
  | true =>
    refine ⟨1, fun k hk => ?_⟩
    obtain ⟨K, rfl⟩ : ∃ K, k = K + 1 := ⟨k - 1, by omega⟩
    show concordancelaw01_KeysAfter.j0 (K + 1) s t true = _
    rw [concordancelaw01_KeysAfter.j0, if_pos rfl]

theorem KeysAfter : concordancelaw01_KeysAfter.Pure := by
  intro s t hs ht
  have h : Ev (fun k => concordancelaw01_KeysAfter.f k s t) true := by
    unfold concordancelaw01_KeysAfter.f
    refine Ev.bind speaks ?_
    simp only [if_true]
    by_cases h1 : (s.size : Int) > 100
    · simp only [if_pos h1]
      exact j0_any s t (by omega) (by omega) _
    · simp only [if_neg h1]
      exact j0_any s t (by omega) (by omega) _
  exact h.rounds

end Go.Proofs.Ytojelhacelfjkaa.Pure
