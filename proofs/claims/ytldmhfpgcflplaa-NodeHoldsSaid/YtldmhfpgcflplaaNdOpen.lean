/-
  Entries and raw nodes among the arguments, opened.
-/
import Derived.Test.YtldmhfpgcflplaaNdC
import Derived.ChangeSlices
import Derived.OpenShut
import Derived.Lib.SmallJoins
set_option linter.unusedVariables false
set_option linter.unusedSimpArgs false
namespace Go.Proofs.Ytldmhfpgcflplaa
open Go Go.RowKit Go.Joins Go.WideShapes Go.ChangeShapes Go.Proofs.Ytldmhfpgcflplaa.PA Go.Proofs.YtldmhfpgcflplaaW.PrintWords NdP
section
variable {H : Type} {enc : TypeId × Value → H} {w : World} {base : Nat} {sp : Nat → Bool} {held : Bool}

def of47 (y : DataW H × List MemPlace) : Ent := match y.1 with
  | .agg [.lit (.string k), .lit (.string v), .lit (.bool m)] => ⟨⟨k.toArray⟩, ⟨v.toArray⟩, m⟩
  | _ => ⟨⟨#[]⟩, ⟨#[]⟩, false⟩
theorem laidOut : laidOutB Try.prog = true := by kernel_rfl
theorem cells47 : Try.prog.cellsOf 47 = 3 := by kernel_rfl
theorem cells24 : Try.prog.cellsOf 24 = 5 := by kernel_rfl

theorem trod47 {fuel : Nat} {cs : List Value} {x : DataW H × List MemPlace} (h : DataW.trod enc Try.prog w base sp held fuel 47 cs = some x) : cs = [.string (of47 x).k, .string (of47 x).v, .bool (of47 x).m] := by
  obtain ⟨xs, n, _, rfl, hl, hlen, hf⟩ := DataW.trod_struct Try.underlying47 h
  rw [cells47] at hl
  match xs, hlen, cs, hl with
  | [y0, y1, y2], _, [c0, c1, c2], _ =>
    have e0 := hf 0 _ rfl
    have e1 := hf 1 _ rfl
    have e2 := hf 2 _ rfl
    simp only [List.getElem?_cons_zero, List.getElem?_cons_succ] at e0 e1 e2
    obtain ⟨s, hs, rfl, _⟩ := DataW.trod_string Try.underlying9 e0
    obtain ⟨t, ht, rfl, _⟩ := DataW.trod_string Try.underlying9 e1
    obtain ⟨b, hb, rfl⟩ := DataW.trod_bool Try.underlying4 e2
    obtain rfl := List.cons.inj hs |>.1
    obtain rfl := List.cons.inj ht |>.1
    obtain rfl := List.cons.inj hb |>.1
    rfl

theorem open22 {fuel : Nat} {cs : List Value} {x : DataW H × List MemPlace} (h : DataW.trod enc Try.prog w base sp held fuel 22 cs = some x) :
    ∃ (A : Option Addr) (l : List Ent) (c : Nat), cs = [.slice A l.length c] ∧ l.length ≤ 9223372036854775807 ∧ RdN w (.slice A l.length c) l := by
  have hmx : maxLen ≤ 9223372036854775807 := by decide
  rcases DataW.trod_slice Try.underlying22 h with ⟨rfl, _⟩ | ⟨a, len, cap, elems, rest, n, _, rfl, rfl, hb, hl, hm, hlen, hel, hsp, hns⟩
  · exact ⟨none, [], 0, rfl, Nat.zero_le _, rdN_nil w⟩
  · have hL : (elems.map of47).length = len := by rw [List.length_map]; exact hlen
    refine ⟨some a, elems.map of47, cap, by rw [hL], by rw [hL]; omega, some a, cap, rfl, by rw [hL]; exact hl, hm, ?_⟩
    refine ⟨rfl, by rw [List.length_map, hL]; omega, fun _ => ⟨a, rfl, fun j p hj => ?_⟩⟩
    rw [List.getElem?_map, List.getElem?_map, Option.map_eq_some_iff] at hj
    obtain ⟨z, hz, rfl⟩ := hj
    rw [Option.map_eq_some_iff] at hz
    obtain ⟨y, hy, rfl⟩ := hz
    have hjl : j < len := by rw [← hlen]; exact (List.getElem?_eq_some_iff.1 hy).1
    have e := hel j hjl
    rw [hy, Option.bind_eq_some_iff] at e
    obtain ⟨cs', hcs, hy'⟩ := e
    have hc := trod47 hy'
    obtain ⟨_, _, hcell⟩ := World.cells?_some hcs
    rw [cells47] at hcell
    refine ⟨[.string (of47 y).k, .string (of47 y).v, .bool (of47 y).m], rfl, k44_mk w (c44 (of47 y)), fun i u hu => ?_⟩
    have hi : i < 3 := (List.getElem?_eq_some_iff.1 hu).1
    have := hcell i hi
    rw [Addr.add_add, hc, hu] at this
    exact this

theorem open47 {r : Reach} {b0 : Nat} {v : Value} {d : DataW H} {ps : List MemPlace} (hval : Value.okWide Try.prog w r b0 47 v) (hd : DataW.Trod enc Try.prog w base sp held 47 v d ps) : ∃ e : Ent, v = enV e := by
  obtain ⟨cs, rfl, _⟩ := okWide_struct Try.underlying47 hval
  obtain ⟨fuel, hf⟩ := hd
  have hc := trod47 hf
  refine ⟨of47 (d, ps), ?_⟩
  have h2 : cs.toList = [Value.string (of47 (d, ps)).k, Value.string (of47 (d, ps)).v, Value.bool (of47 (d, ps)).m] := hc
  unfold enV
  rw [← h2]

/-- A raw node. -/
structure Rw where
  level : Int
  right : Int
  high : ByteArray
  es : List Ent
  tidy : Bool
def rwV (x : Rw) (s : Value) : Value := .agg #[.int .i64 x.level, .int .i64 x.right, .string x.high, s, .bool x.tidy]
theorem open24 {r : Reach} {b0 : Nat} {v : Value} {d : DataW H} {ps : List MemPlace} (hval : Value.okWide Try.prog w r b0 24 v) (hd : DataW.Trod enc Try.prog w base sp held 24 v d ps) :
    ∃ (x : Rw) (A : Option Addr) (c : Nat), v = rwV x (.slice A x.es.length c) ∧ x.es.length ≤ 9223372036854775807 ∧ RdN w (.slice A x.es.length c) x.es := by
  obtain ⟨cs, rfl, _⟩ := okWide_struct Try.underlying24 hval
  obtain ⟨fuel, h⟩ := hd
  obtain ⟨xs, n, _, hxx, hl, hlen, hf⟩ := DataW.trod_struct Try.underlying24 h
  clear hxx
  rw [cells24] at hl
  change cs.toList.length = 5 at hl
  obtain ⟨cl⟩ := cs
  change cl.length = 5 at hl
  simp only [Value.cells] at hf
  match xs, hlen, cl, hl with
  | [y0, y1, y2, y3, y4], _, [c0, c1, c2, c3, c4], _ =>
    have e0 := hf 0 _ rfl
    have e1 := hf 1 _ rfl
    have e2 := hf 2 _ rfl
    have e3 := hf 3 _ rfl
    have e4 := hf 4 _ rfl
    simp only [List.getElem?_cons_zero, List.getElem?_cons_succ] at e0 e1 e2 e3 e4
    obtain ⟨m0, h0, rfl, w0⟩ := DataW.trod_int Try.underlying3 e0
    obtain ⟨m1, h1, rfl, w1⟩ := DataW.trod_int Try.underlying3 e1
    obtain ⟨s, hs, rfl, _⟩ := DataW.trod_string Try.underlying9 e2
    obtain ⟨A, l, c, h3, hm, hr⟩ := open22 e3
    obtain ⟨b, hb, rfl⟩ := DataW.trod_bool Try.underlying4 e4
    obtain rfl := List.cons.inj h0 |>.1
    obtain rfl := List.cons.inj h1 |>.1
    obtain rfl := List.cons.inj hs |>.1
    obtain rfl := List.cons.inj h3 |>.1
    obtain rfl := List.cons.inj hb |>.1
    exact ⟨⟨_, _, _, l, _⟩, A, c, rfl, hm, hr⟩
end
end Go.Proofs.Ytldmhfpgcflplaa
