import Derived.Test.YteccbihjkolpcaaProg
import Derived.WalkKit
import Derived.WalkSpells
import Derived.Maps.RangeWalk
import Derived.Maps.Ext
import Derived.ProofKit
set_option linter.unusedVariables false
set_option linter.unusedSimpArgs false
namespace Go.Proofs.Yteccbihjkolpcaa
open Go.RowKit Go.Maps

theorem laidOut : laidOutB Try.prog = true := by kernel_rfl
theorem row49 : 49 < Try.prog.types.size := of_decide_eq_true (by kernel_rfl)
theorem wide49 : (match Try.prog.underlying 49 with | some (.array _ _) | some (.struct _) => true | _ => false) = true := by kernel_rfl
theorem law49 : Keyed Try.prog 49 := Keyed.of_law (deep_law_laid laidOut (m := 2) (by omega) row49 (by kernel_rfl) wide49)
theorem law3 : Keyed Try.prog 3 := int_keyed Try.underlying3
theorem cells49 : Try.prog.cellsOf 49 = 3 := by kernel_rfl
theorem cells3 : Try.prog.cellsOf 3 = 1 := by kernel_rfl
theorem kt49 : Try.prog.keyType 49 = true := by kernel_rfl
def tv (a b c : Int) : Value := .agg #[.int .i64 a, .int .i64 b, .int .i64 c]
def tk (a b c : Int) : Lit := .string (keyBytes [.int .i64 a, .int .i64 b, .int .i64 c])
def wf (a : Int) : Prop := (Lit.int .i64 a).wf = true
theorem keyLits3 (d : Nat) (a : Int) (h : wf a) : Try.prog.keyLits (d + 1) 3 [.int .i64 a] = some [.int .i64 a] := by
  unfold wf at h
  simp [Program.keyLits, Try.underlying3, h]
theorem key_tv {a b c : Int} (ha : wf a) (hb : wf b) (hc : wf c) : keyOf Try.prog 49 (tv a b c) = some (tk a b c) := by
  unfold keyOf tv tk
  simp only [Try.underlying49, kt49, Value.formed, cells49]
  obtain ⟨d, hd⟩ : ∃ d, Try.prog.types.size = d + 1 := ⟨Try.prog.types.size - 1, by have := row49; omega⟩
  rw [hd]
  unfold Program.keyLits
  simp [Try.underlying49, cells49, cells3, Value.cells, keyLits3 d _ ha, keyLits3 d _ hb, keyLits3 d _ hc]
theorem keyLits3_inv (d : Nat) {cs : List Value} {ls : List Lit} (h : Try.prog.keyLits (d + 1) 3 cs = some ls) : ∃ a, cs = [.int .i64 a] ∧ wf a := by
  unfold Program.keyLits at h
  rw [Try.underlying3] at h
  split at h
  all_goals first
    | (rename_i h1; cases h1; done)
    | skip
  · rename_i q q' n heq
    injection heq with heq
    injection heq with heq
    subst heq
    split at h
    · rename_i hc
      obtain ⟨rfl, hw⟩ := hc
      exact ⟨n, rfl, hw⟩
    · cases h
  · cases h
theorem key_inv {v : Value} {kl : Lit} (h : keyOf Try.prog 49 v = some kl) : ∃ a b c, v = tv a b c ∧ wf a ∧ wf b ∧ wf c := by
  unfold keyOf at h
  simp only [Try.underlying49, kt49] at h
  split at h
  · rename_i hf
    simp only [Bool.true_and] at hf
    have hs : ∃ x y z, v = .agg #[x, y, z] := by
      cases v <;> simp [Value.formed, Try.underlying49, cells49] at hf
      rename_i cs
      obtain ⟨l⟩ := cs
      match l, hf with
      | [x, y, z], _ => exact ⟨x, y, z, rfl⟩
    obtain ⟨x, y, z, rfl⟩ := hs
    obtain ⟨d, hd⟩ : ∃ d, Try.prog.types.size = d + 1 := ⟨Try.prog.types.size - 1, by have := row49; omega⟩
    rw [hd] at h
    unfold Program.keyLits at h
    simp [Try.underlying49, cells49, cells3, Value.cells] at h
    obtain ⟨l1, h1, h⟩ := Option.bind_eq_some_iff.1 h
    obtain ⟨a, ea, wa⟩ := keyLits3_inv _ h1
    cases hy : Try.prog.keyLits (d + 1) 3 [y] with
    | none => rw [hy] at h; simp at h
    | some l2 =>
      obtain ⟨b, eb, wb⟩ := keyLits3_inv _ hy
      cases hz : Try.prog.keyLits (d + 1) 3 [z] with
      | none => rw [hy, hz] at h; simp at h
      | some l3 =>
        obtain ⟨c, ec, wc⟩ := keyLits3_inv _ hz
        simp only [List.cons.injEq, and_true] at ea eb ec
        exact ⟨a, b, c, by rw [ea, eb, ec]; rfl, wa, wb, wc⟩
  · simp at h

theorem tk_inj {a b c a' b' c' : Int} (ha : wf a) (hb : wf b) (hc : wf c) (ha' : wf a') (hb' : wf b') (hc' : wf c') (h : tk a b c = tk a' b' c') : a = a' ∧ b = b' ∧ c = c' := by
  have h1 := key_tv ha hb hc
  have h2 := key_tv ha' hb' hc'
  rw [h] at h1
  have := law49.inj h1 h2
  simp only [tv, Value.agg.injEq, Array.mk.injEq, List.cons.injEq, Value.int.injEq, true_and, and_true] at this
  exact this
/-- A map held in a map: it reads as its block's number; nil as nil. -/
def mapElem {H : Type} (v : Value) : Option (DataW H × List MemPlace) :=
  match v with
  | .map none => some (.nil, [])
  | .map (some b) => some (.lit (.int .i64 b), [])
  | _ => none
theorem mapElem_some {H : Type} (b : Nat) : mapElem (H := H) (.map (some b)) = some (.lit (.int .i64 b), []) := rfl
theorem mapElem_nil {H : Type} : mapElem (H := H) (.map none) = some (.nil, []) := rfl
theorem mapElem_inv {H : Type} {v : Value} {y : DataW H × List MemPlace} (h : mapElem v = some y) : ∃ c : Option Nat, v = .map c := by
  unfold mapElem at h
  split at h
  · exact ⟨_, rfl⟩
  · exact ⟨_, rfl⟩
  · cases h
theorem mapElem_lit {H : Type} {v : Value} {b : Nat} {ps : List MemPlace} (h : mapElem (H := H) v = some (.lit (.int .i64 b), ps)) : v = .map (some b) := by
  unfold mapElem at h
  split at h
  · cases h
  · rename_i b'
    simp only [Option.some.injEq, Prod.mk.injEq, DataW.lit.injEq, Lit.int.injEq, true_and] at h
    obtain ⟨h, _⟩ := h
    have : b' = b := by omega
    rw [this]
  · cases h
theorem zero52 (w : World) : (zeroValue 52).run Try.prog w = .ok (.map none) w := by kernel_rfl
theorem zero4 (w : World) : (zeroValue 4).run Try.prog w = .ok (.bool false) w := by kernel_rfl
#print axioms key_inv
#print axioms tk_inj
