/-
  A list of acts among the arguments, opened.
-/
import Derived.Test.YteccbihjkolpcaaLkG
import Derived.ChangeSlices
import Derived.OpenShut
import Derived.Lib.SmallJoins
set_option linter.unusedVariables false
set_option linter.unusedSimpArgs false
namespace Go.Proofs.Yteccbihjkolpcaa
open Go.RowKit Go.Maps LockP Go.Joins
section
variable {H : Type} {enc : TypeId × Value → H} {w : World} {base : Nat} {sp : Nat → Bool} {held : Bool}

def ofAct (y : DataW H × List MemPlace) : Act := match y.1 with
  | .agg [.lit (.int _ a), .lit (.int _ b), .lit (.int _ c), .lit (.int _ d)] => ⟨a, b, c, d⟩
  | _ => ⟨0, 0, 0, 0⟩
theorem cells34 : Try.prog.cellsOf 34 = 4 := by kernel_rfl

theorem trod34 {fuel : Nat} {cs : List Value} {x : DataW H × List MemPlace} (h : DataW.trod enc Try.prog w base sp held fuel 34 cs = some x) :
    cs = [.int .i64 (ofAct x).what, .int .i64 (ofAct x).s, .int .i64 (ofAct x).t, .int .i64 (ofAct x).r] ∧ WfA (ofAct x) := by
  obtain ⟨xs, n, _, rfl, hl, hlen, hf⟩ := DataW.trod_struct Try.underlying34 h
  rw [cells34] at hl
  match xs, hlen, cs, hl with
  | [y0, y1, y2, y3], _, [c0, c1, c2, c3], _ =>
    have e0 := hf 0 _ rfl
    have e1 := hf 1 _ rfl
    have e2 := hf 2 _ rfl
    have e3 := hf 3 _ rfl
    simp only [List.getElem?_cons_zero, List.getElem?_cons_succ] at e0 e1 e2 e3
    obtain ⟨m0, h0, rfl, w0⟩ := DataW.trod_int Try.underlying3 e0
    obtain ⟨m1, h1, rfl, w1⟩ := DataW.trod_int Try.underlying3 e1
    obtain ⟨m2, h2, rfl, w2⟩ := DataW.trod_int Try.underlying3 e2
    obtain ⟨m3, h3, rfl, w3⟩ := DataW.trod_int Try.underlying3 e3
    obtain rfl := List.cons.inj h0 |>.1
    obtain rfl := List.cons.inj h1 |>.1
    obtain rfl := List.cons.inj h2 |>.1
    obtain rfl := List.cons.inj h3 |>.1
    exact ⟨rfl, w0, w1, w2, w3⟩

theorem openA {fuel : Nat} {cs : List Value} {x : DataW H × List MemPlace} (h : DataW.trod enc Try.prog w base sp held fuel 31 cs = some x) :
    ∃ (A : Option Addr) (l : List Act) (c : Nat), cs = [.slice A l.length c] ∧ l.length ≤ 9223372036854775807 ∧ ReadsA w A l ∧ ∀ y ∈ l, WfA y := by
  rcases DataW.trod_slice Try.underlying31 h with ⟨rfl, _⟩ | ⟨a, len, cap, elems, rest, n, _, rfl, rfl, hb, hl, hm, hlen, hel, hsp, hns⟩
  · exact ⟨none, [], 0, rfl, Nat.zero_le _, fun k x h => by simp at h, fun y hy => by simp at hy⟩
  · have hL : (elems.map ofAct).length = len := by rw [List.length_map]; exact hlen
    have hall : ∀ j y, elems[j]? = some y → WfA (ofAct y) ∧ w.cell? (a.add (j * 4)) = some (.int .i64 (ofAct y).what) ∧ w.cell? ((a.add (j * 4)).add 1) = some (.int .i64 (ofAct y).s) ∧ w.cell? ((a.add (j * 4)).add 2) = some (.int .i64 (ofAct y).t) ∧ w.cell? ((a.add (j * 4)).add 3) = some (.int .i64 (ofAct y).r) := by
      intro j y hy
      have hjl : j < len := by rw [← hlen]; exact (List.getElem?_eq_some_iff.1 hy).1
      have e := hel j hjl
      rw [hy, Option.bind_eq_some_iff] at e
      obtain ⟨cs', hcs, hy'⟩ := e
      obtain ⟨hc, hw⟩ := trod34 hy'
      obtain ⟨_, _, hcell⟩ := World.cells?_some hcs
      rw [cells34] at hcell
      have g0 := hcell 0 (by omega)
      have g1 := hcell 1 (by omega)
      have g2 := hcell 2 (by omega)
      have g3 := hcell 3 (by omega)
      rw [hc] at g0 g1 g2 g3
      exact ⟨hw, by simpa [Addr.add] using g0, by simpa using g1, by simpa using g2, by simpa using g3⟩
    refine ⟨some a, elems.map ofAct, cap, by rw [hL], ?_, fun k x hk => ?_, fun y hy => ?_⟩
    · rw [hL]
      have : maxLen ≤ 9223372036854775807 := by decide
      omega
    · rw [List.getElem?_map, Option.map_eq_some_iff] at hk
      obtain ⟨y, hy, rfl⟩ := hk
      obtain ⟨_, h0, h1, h2, h3⟩ := hall k y hy
      exact ⟨a, rfl, h0, by simpa [Addr.add] using h1, by simpa [Addr.add] using h2, by simpa [Addr.add] using h3⟩
    · obtain ⟨z, hz, rfl⟩ := List.mem_map.1 hy
      obtain ⟨j, hj⟩ := List.getElem?_of_mem hz
      exact (hall j z hj).1
end
end Go.Proofs.Yteccbihjkolpcaa
