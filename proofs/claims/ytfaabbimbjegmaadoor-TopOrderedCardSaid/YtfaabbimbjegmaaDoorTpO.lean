/-
  The law's values among the arguments, opened.
-/
import Derived.Test.YtfaabbimbjegmaaDoorTpV
import Derived.ChangeSlices
import Derived.OpenShut
import Derived.Lib.SmallJoins
set_option linter.unusedVariables false
set_option linter.unusedSimpArgs false
namespace Go.Proofs.YtfaabbimbjegmaaDoor
open Go Go.RowKit Go.Joins Go.WideShapes Go.ChangeShapes Go.Proofs.YtfaabbimbjegmaaDoor.PA Go.Proofs.YtfaabbimbjegmaaDoorW.PrintWords
namespace TP
section
variable {H : Type} {enc : TypeId × Value → H} {w : World} {base : Nat} {sp : Nat → Bool} {held : Bool}
def ofV (y : DataW H × List MemPlace) : V := match y.1 with
  | .agg [.lit (.string k), .lit (.int .i64 v), .lit (.bool m)] => ⟨⟨k.toArray⟩, v, m⟩
  | _ => ⟨⟨#[]⟩, 0, false⟩
theorem laidOut : laidOutB Tryd.prog = true := by kernel_rfl
theorem cellsV : Tryd.prog.cellsOf 31 = 3 := by kernel_rfl
set_option maxRecDepth 100000 in
theorem trodV {fuel : Nat} {cs : List Value} {x : DataW H × List MemPlace} (h : DataW.trod enc Tryd.prog w base sp held fuel 31 cs = some x) : cs = [.string (ofV x).f0, .int .i64 (ofV x).f1, .bool (ofV x).f2] := by
  obtain ⟨xs, n, _, rfl, hl, hlen, hf⟩ := DataW.trod_struct Tryd.underlying31 h
  rw [cellsV] at hl
  match xs, hlen, cs, hl with
  | [y0, y1, y2], _, [c0, c1, c2], _ =>
    have e0 := hf 0 _ rfl
    have e1 := hf 1 _ rfl
    have e2 := hf 2 _ rfl
    simp only [List.getElem?_cons_zero, List.getElem?_cons_succ] at e0 e1 e2
    obtain ⟨s, hs, rfl, _⟩ := DataW.trod_string Tryd.underlying9 e0
    obtain ⟨t, ht, rfl, _⟩ := DataW.trod_int Tryd.underlying3 e1
    obtain ⟨b, hb, rfl⟩ := DataW.trod_bool Tryd.underlying4 e2
    obtain rfl := List.cons.inj hs |>.1
    obtain rfl := List.cons.inj ht |>.1
    obtain rfl := List.cons.inj hb |>.1
    rfl
set_option maxRecDepth 100000 in
theorem openV {fuel : Nat} {cs : List Value} {x : DataW H × List MemPlace} (h : DataW.trod enc Tryd.prog w base sp held fuel 22 cs = some x) :
    ∃ (A : Option Addr) (l : List V) (c : Nat), cs = [.slice A l.length c] ∧ l.length ≤ 9223372036854775807 ∧ RdV w (.slice A l.length c) l := by
  have hmx : maxLen ≤ 9223372036854775807 := by decide
  rcases DataW.trod_slice Tryd.underlying22 h with ⟨rfl, _⟩ | ⟨a, len, cap, elems, rest, n, _, rfl, rfl, hb, hl, hm, hlen, hel, hsp, hns⟩
  · exact ⟨none, [], 0, rfl, Nat.zero_le _, none, 0, rfl, rfl, Nat.zero_le _, fun h => absurd h (by simp)⟩
  · have hL : (elems.map ofV).length = len := by rw [List.length_map]; exact hlen
    refine ⟨some a, elems.map ofV, cap, by rw [hL], by rw [hL]; omega, some a, cap, rfl, ?_⟩
    refine ⟨rfl, by rw [hL]; omega, fun _ => ⟨a, rfl, fun j p hj => ?_⟩⟩
    rw [List.getElem?_map, Option.map_eq_some_iff] at hj
    obtain ⟨y, hy, rfl⟩ := hj
    have hjl : j < len := by rw [← hlen]; exact (List.getElem?_eq_some_iff.1 hy).1
    have e := hel j hjl
    rw [hy, Option.bind_eq_some_iff] at e
    obtain ⟨cs', hcs, hy'⟩ := e
    have hc := trodV hy'
    obtain ⟨_, _, hcell⟩ := World.cells?_some hcs
    rw [cellsV] at hcell
    refine ⟨[.string (ofV y).f0, .int .i64 (ofV y).f1, .bool (ofV y).f2], rfl, k32_mk w (ofV y), fun i u hu => ?_⟩
    have hi : i < 3 := (List.getElem?_eq_some_iff.1 hu).1
    have := hcell i hi
    rw [Addr.add_add, hc, hu] at this
    exact this
end
end TP
end Go.Proofs.YtfaabbimbjegmaaDoor
