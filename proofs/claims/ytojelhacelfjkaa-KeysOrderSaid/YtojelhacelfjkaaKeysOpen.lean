/-
  Layer 1: a list of values among the arguments, opened.
-/
import Derived.Test.YtojelhacelfjkaaPAx0
import Derived.ChangeSlices
import Derived.OpenShut
set_option linter.unusedVariables false
namespace Go.Proofs.Ytojelhacelfjkaa.KO
open Go Go.RowKit Go.Proofs.Ytojelhacelfjkaa.PA Go.Proofs.YtojelhacelfjkaaW.PrintWords Go.Proofs.YtojelhacelfjkaaW.PrintLast Go.Proofs.YtojelhacelfjkaaW.PrintMore
section
variable {H : Type} {enc : TypeId × Value → H} {w : World} {base : Nat} {sp : Nat → Bool} {held : Bool}

def of52 (y : DataW H × List MemPlace) : S52 := match y.1 with
  | .agg [.lit (.string bs), .lit (.int _ n), .lit (.bool b)] => ⟨⟨bs.toArray⟩, n, b⟩
  | _ => z52

theorem cells52 : Try.prog.cellsOf 52 = 3 := by kernel_rfl

theorem trod52 {fuel : Nat} {cs : List Value} {x : DataW H × List MemPlace} (h : DataW.trod enc Try.prog w base sp held fuel 52 cs = some x) :
    cs = [.string (of52 x).f0, .int .i64 (of52 x).f1, .bool (of52 x).f2] := by
  obtain ⟨xs, n, _, rfl, hl, hlen, hf⟩ := DataW.trod_struct Try.underlying52 h
  rw [cells52] at hl
  match xs, hlen, cs, hl with
  | [y0, y1, y2], _, [c0, c1, c2], _ =>
    have e0 := hf 0 _ rfl
    have e1 := hf 1 _ rfl
    have e2 := hf 2 _ rfl
    simp only [List.getElem?_cons_zero, List.getElem?_cons_succ] at e0 e1 e2
    obtain ⟨s, hs, rfl, _⟩ := DataW.trod_string Try.underlying9 e0
    obtain ⟨m, hm, rfl, _⟩ := DataW.trod_int Try.underlying3 e1
    obtain ⟨b, hb, rfl⟩ := DataW.trod_bool Try.underlying4 e2
    obtain rfl := List.cons.inj hs |>.1
    obtain rfl := List.cons.inj hm |>.1
    obtain rfl := List.cons.inj hb |>.1
    rfl

theorem open52 {t : TypeId} (ht : Try.prog.underlying t = some (.slice 52)) {fuel : Nat} {cs : List Value} {x : DataW H × List MemPlace} (h : DataW.trod enc Try.prog w base sp held fuel t cs = some x) :
    ∃ (A : Option Addr) (l : List S52) (c : Nat), cs = [.slice A l.length c] ∧ l.length ≤ c ∧ Kd.C k52 w A l.length l := by
  rcases DataW.trod_slice ht h with ⟨rfl, _⟩ | ⟨a, len, cap, elems, rest, n, _, rfl, rfl, hb, hl, hm, hlen, hel, hsp, hns⟩
  · exact ⟨none, [], 0, rfl, Nat.le_refl _, rfl, Nat.zero_le _, fun h => absurd h (by decide)⟩
  · have hL : (elems.map of52).length = len := by rw [List.length_map]; exact hlen
    refine ⟨some a, elems.map of52, cap, by rw [hL], by rw [hL]; exact hl, rfl, ?_, fun _ => ⟨a, rfl, fun j p hj => ?_⟩⟩
    · rw [hL]; have : maxLen ≤ 9223372036854775807 := by decide
      omega
    · rw [List.getElem?_map, Option.map_eq_some_iff] at hj
      obtain ⟨y, hy, rfl⟩ := hj
      have hjl : j < len := by rw [← hlen]; exact (List.getElem?_eq_some_iff.1 hy).1
      have e := hel j hjl
      rw [hy, Option.bind_eq_some_iff] at e
      obtain ⟨cs', hcs, hy'⟩ := e
      have hc := trod52 hy'
      obtain ⟨_, _, hcell⟩ := World.cells?_some hcs
      rw [cells52] at hcell
      refine ⟨[.string (of52 y).f0, .int .i64 (of52 y).f1, .bool (of52 y).f2], rfl, k52_mk w _, fun i u hu => ?_⟩
      have hi : i < 3 := (List.getElem?_eq_some_iff.1 hu).1
      have := hcell i hi
      rw [Addr.add_add, hc, hu] at this
      exact this
end
end Go.Proofs.Ytojelhacelfjkaa.KO
