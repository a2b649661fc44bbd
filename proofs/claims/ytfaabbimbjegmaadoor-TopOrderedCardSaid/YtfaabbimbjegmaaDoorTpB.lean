/-
  What the walks share: numbers in bytes of one and of two, a builder under memory that grows, rows of one's own that are read.
-/
import Derived.Test.YtfaabbimbjegmaaDoorTpC
import Derived.Test.YtfaabbimbjegmaaDoorQTail
import Derived.Test.YtfaabbimbjegmaaDoorShelf
import Derived.BigQuiet
set_option linter.unusedVariables false
set_option linter.unusedSimpArgs false
namespace Go.Proofs.YtfaabbimbjegmaaDoor
open Go Go.RowKit Go.Proofs.YtfaabbimbjegmaaDoor.PA Go.Proofs.YtfaabbimbjegmaaDoor.SB Go.Proofs.YtfaabbimbjegmaaDoorW.PrintWords
namespace TP
theorem quiet_of {P : Program} {C : World → Prop} {a : Act} {o : Oper} {K : Act → Prop} {v : Value} (h : ∀ w, C w → o.quietAt P a C w v) (k : K (a.put o.dst v)) : o.quiet P a C K := ⟨v, h, k⟩
theorem rt_small {i n N : Nat} (h : i ≤ n) (h2 : n + 0 ≤ N) (h3 : N ≤ 65535) : i ≤ 10000000 := by omega
theorem rt_measure {i n : Nat} (h : i < n) (hs : i ≤ 10000000) : n - (intOf (.int .i64 ((i : Int) + 1))).toNat < n - (intOf (.int .i64 (i : Int))).toNat := by
  simp only [intOf]
  omega
theorem rt_next {i : Nat} (hs : i ≤ 10000000) : Value.int .i64 (wrap64 ((i : Int) + 1)) = .int .i64 ((i + 1 : Nat) : Int) := by rw [w1 hs]
theorem put1_c (n : Nat) (w : World) (hn : n < 256) : Calls Tryd.prog 20 #[.int .i64 n, .int .i64 1] w fun e w' => e = .returned (.string (nb n 1)) ∧ Below w.heap.size w w' := put_c n 1 w (by decide) (by decide) (by omega)
theorem put2_c (n : Nat) (w : World) (hn : n < 65536) : Calls Tryd.prog 20 #[.int .i64 n, .int .i64 2] w fun e w' => e = .returned (.string (nb n 2)) ∧ Below w.heap.size w w' := put_c n 2 w (by decide) (by decide) (by omega)
theorem bld_below {T e : TypeId} {B b : Nat} {bs : List Value} {w w' : World} (h : Lib.IsBuilder T e B b bs w) (hb : Below w.heap.size w w') : Lib.IsBuilder T e B b bs w' := by
  have key : ∀ p, Lib.BuilderAt T e B b p bs w → Lib.BuilderAt T e B b p bs w' := by
    intro p h
    have hlt := h.lt
    obtain ⟨hB, v, hk, ⟨hl, hrow⟩, hne⟩ := h
    refine ⟨hB, v, (hb.block b hlt).trans hk, ⟨hl, ?_⟩, hne⟩
    rcases hrow with h | ⟨g, cap, cur, e1, e2, e3, e4⟩
    · exact Or.inl h
    · exact Or.inr ⟨g, cap, cur, e1, e2, (hb.block g (Array.getElem?_eq_some_iff.1 e3).1).trans e3, e4⟩
  rcases h with h | h
  · exact Or.inl (key _ h)
  · exact Or.inr (key _ h)
theorem bld_lt {T e : TypeId} {B b : Nat} {bs : List Value} {w : World} (h : Lib.IsBuilder T e B b bs w) : b < w.heap.size := by
  rcases h with h | h
  · exact h.lt
  · exact h.lt
theorem R_cap {α : Type} {d : Kd α} {e : Nat} {w : World} {base : Nat} {ok : Nat → Prop} {v : Value} {xs : List α} (h : d.R e w base ok v xs) : ∃ A c, v = .slice A xs.length c ∧ xs.length ≤ c ∧ c ≤ maxLen ∧ d.C w A xs.length xs := by
  obtain ⟨A, c, hv, hc, hr⟩ := Kd.R_reads h
  refine ⟨A, c, hv, hc, ?_, hr⟩
  obtain ⟨inner, ho⟩ := Kd.R_own h
  rcases ho.2 with ⟨e1, _⟩ | ⟨g, cap, cur, e1, _, _, _, hm, _⟩
  · rw [hv] at e1
    injection e1 with _ _ e3
    omega
  · rw [hv] at e1
    injection e1 with _ _ e3
    omega
end TP
end Go.Proofs.YtfaabbimbjegmaaDoor
