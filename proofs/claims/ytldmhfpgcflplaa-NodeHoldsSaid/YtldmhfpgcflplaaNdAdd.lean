/-
  Appending to a full slice that is read; the program's Insert.
-/
import Derived.Test.YtldmhfpgcflplaaNdC
import Derived.StillTailTactics
import Derived.ArgAppend
import Derived.Deep.RegionHeld3
set_option linter.unusedVariables false
set_option linter.unusedSimpArgs false
namespace Go.Proofs.Ytldmhfpgcflplaa
open Go Go.RowKit Go.Proofs.Ytldmhfpgcflplaa.PA Go.Proofs.YtldmhfpgcflplaaW.PrintWords NdP

theorem old {w wr : World} (h : Below w.heap.size w wr) {p : Addr} {v : Value} (hc : w.cell? p = some v) : wr.cell? p = some v := (h.cell (World.block_lt_of_cell? w p hc)).trans hc
theorem C_inner {α : Type} {d : Kd α} {w : World} {A : Option Addr} {xs : List α} (h : Kd.C d w A xs.length xs) : ∃ inner, Reps (d.K w) d.sz xs inner ∧ ∀ ad, A = some ad → ∀ j u, inner[j]? = some u → w.cell? (ad.add j) = some u := by
  cases A with
  | some ad =>
    obtain ⟨inner, h1, h2⟩ := ReadsRow.inner_ h
    exact ⟨inner, h1, fun b hb => by cases hb; exact h2⟩
  | none =>
    have : xs = [] := by
      cases xs with
      | nil => rfl
      | cons x l => obtain ⟨_, hx, _⟩ := h.2.2 (by simp); cases hx
    subst this
    exact ⟨[], Reps.none _ _, fun b hb => by cases hb⟩

theorem K44_M {w : World} (w' : World) (base : Nat) (ok : Nat → Prop) {x : S44} {cs : List Value} (h : k44.K w x cs) : k44.M w' base ok x cs := by
  rw [k44_open h]
  exact k44_mkM _ _ _ _
theorem K56_M {w : World} (w' : World) (base : Nat) (ok : Nat → Prop) {x : S56} {cs : List Value} (h : k56.K w x cs) : k56.M w' base ok x cs := by
  rw [k56_open h]
  exact k56_mkM _ _ _ _

theorem append_full_N {W : World} (ty : TypeId) {A : Option Addr} {l : List Ent} (e : Ent) (hl : l.length ≤ 100000) (hC : Kd.C k44 W A (l.map c44).length (l.map c44)) :
    ∃ v1 w1, (Builtin.append_ #[26, 26] ty #[.slice A l.length l.length, .slice (some ⟨W.heap.size, 0, none⟩) 1 1]).run Try.prog (W.alloc (.cells #[.string e.k, .string e.v, .bool e.m] 44)) = .ok v1 w1 ∧ OwN w1 W.heap.size v1 (l ++ [e]) ∧ Below W.heap.size W w1 := by
  obtain ⟨olds, hr, hcells⟩ := C_inner hC
  obtain ⟨i0, hi, hzz⟩ := Option.map_eq_some_iff.1 info44
  simp only [Prod.mk.injEq] at hzz
  obtain ⟨hz0, hz1, hz2⟩ := hzz
  have hb0 : Below W.heap.size W (W.alloc (.cells #[.string e.k, .string e.v, .bool e.m] 44)) := Below.alloc (Below.refl _ _) (Nat.le_refl _) _
  have hol : olds.length = l.length * 3 := by rw [hr.1, List.length_map]; rfl
  have hnew := World.news_of_block (cs := #[.string e.k, .string e.v, .bool e.m]) (t := 44) (fr := (0, 0)) (heap_alloc_new W (.cells #[.string e.k, .string e.v, .bool e.m] 44))
  have mk : ∀ v' (w' : World) (b : Nat), W.heap.size ≤ b → w'.ownsRow b 44 3 v' (l.length + 1) (olds ++ [.string e.k, .string e.v, .bool e.m]) → OwN w' W.heap.size v' (l ++ [e]) := by
    intro v' w' b hb hown
    refine ⟨fun _ _ => trivial, _, own_weaken (by rw [List.length_map, List.length_append]; exact hown) hb, ?_⟩
    rw [List.map_append]
    exact Reps.snoc (hr.imp_ fun p c hp => K44_M _ _ _ hp) (k44_mkM _ _ _ (c44 e)) rfl
  cases A with
  | some b =>
    obtain ⟨v', w', hrun, r1, r2⟩ := run_append_arg_grows (P := Try.prog) (W.alloc (.cells #[.string e.k, .string e.v, .bool e.m] 44)) 26 ty 44 i0 _ 3 40 Try.underlying26 hi hz0 hz1 hz2 rfl (by decide) b l.length l.length olds hol
      (fun j u hj => old hb0 (hcells b rfl j u hj)) ⟨W.heap.size, 0, none⟩ 1 1 [.string e.k, .string e.v, .bool e.m] rfl hnew (by omega) (by simp only [maxLen]; omega) (by omega)
    exact ⟨v', w', hrun, mk v' w' _ (by simp) r1, hb0.trans (((Below.refl (W.alloc (.cells #[.string e.k, .string e.v, .bool e.m] 44)).heap.size _).grown r2 (Nat.le_refl _) (fun k hk => by cases hk)).mono hb0.size)⟩
  | none =>
    have : l = [] := by
      cases l with
      | nil => rfl
      | cons x l => obtain ⟨_, hx, _⟩ := hC.2.2 (by simp); cases hx
    subst this
    obtain rfl : olds = [] := List.eq_nil_of_length_eq_zero (by simpa using hol)
    obtain ⟨v', w', hrun, r1, r2, _⟩ := run_append_own (P := Try.prog) (W.alloc (.cells #[.string e.k, .string e.v, .bool e.m] 44)) W.heap.size 26 ty 44 i0 _ 3 40 Try.underlying26 hi hz0 hz1 hz2 rfl (by decide) (.slice none 0 0) 0 [] (World.ownsRow_nil _ _ 44 3) ⟨W.heap.size, 0, none⟩ 1 1 [.string e.k, .string e.v, .bool e.m] rfl hnew
      (by simp [Value.oneCell']) (by simp only [maxLen]; omega) (by omega) (by simp)
    exact ⟨v', w', hrun, mk v' w' _ (by simp) r1, hb0.grown r2 hb0.size (fun k hk => by cases hk)⟩

/-- The step of a region that draws. -/
theorem step_append_full_N {ops : Array Oper} {o : Oper} {a : Act} {Q : Exit → Act → World → Prop} {K : Act → World → Prop} {W : World} (hw : Region.wanted o (yielded ops a.tmps) = true) (s x : Operand)
    (ho : o.op = .call { callee := .builtin .append, args := #[s, x], argTypes := #[26, 26] }) {A : Option Addr} {l : List Ent} (e : Ent) (hs : a.eval s = .slice A l.length l.length) (hx : a.eval x = .slice (some ⟨W.heap.size, 0, none⟩) 1 1)
    (hl : l.length ≤ 100000) (hC : Kd.C k44 W A (l.map c44).length (l.map c44)) (h : ∀ v1 w1, OwN w1 W.heap.size v1 (l ++ [e]) → Below W.heap.size W w1 → K (a.put o.dst v1) w1) :
    if Region.wanted o (yielded ops a.tmps) = true then Oper.wp Try.prog o a (W.alloc (.cells #[.string e.k, .string e.v, .bool e.m] 44)) K Q else K (a.put o.dst undef) (W.alloc (.cells #[.string e.k, .string e.v, .bool e.m] 44)) := by
  rw [if_pos hw]
  obtain ⟨v1, w1, hr, h1, h2⟩ := append_full_N o.type e hl hC
  unfold Oper.wp execOp
  simp only [ho, resolve, invoke, builtin, Sem.run_bind, Sem.run_pure, Result.andThen_ok, List.map_toArray, List.map_cons, List.map_nil, hs, hx, hr]
  exact h v1 w1 h1 h2
theorem step_append_rows_N {ops : Array Oper} {o : Oper} {a : Act} {Q : Exit → Act → World → Prop} {K : Act → World → Prop} {w0 W : World} (hw : Region.wanted o (yielded ops a.tmps) = true) (s x : Operand)
    (ho : o.op = .call { callee := .builtin .append, args := #[s, x], argTypes := #[26, 26] }) {v : Value} {A : Option Addr} {l m : List Ent} {n c : Nat} (hn : n = m.length) (hs : a.eval s = v) (hx : a.eval x = .slice A n c) (hO : OwN W w0.heap.size v l)
    (hl : l.length + m.length ≤ 100000) (hC : Kd.C k44 W A (m.map c44).length (m.map c44)) (hB : Below w0.heap.size w0 W) (h : ∀ v1 w1, OwN w1 w0.heap.size v1 (l ++ m) → Below w0.heap.size w0 w1 → K (a.put o.dst v1) w1) :
    if Region.wanted o (yielded ops a.tmps) = true then Oper.wp Try.prog o a W K Q else K (a.put o.dst undef) W := by
  subst hn
  rw [List.length_map] at hC
  refine Kd.R_append_rows_step k44 (w0 := w0) w0.heap.size hw s x 26 44 _ 40 ho Try.underlying26 info44 rfl (by decide) (by omega) v (l.map c44) (m.map c44) A m.length c (fun _ => True) (fun _ => False) hs hx hO hC (fun x cs h => K44_M _ _ _ h) (fun _ h => h.elim) (fun _ _ => trivial) hB hB.size (by rw [List.length_map]; omega) ?_
  intro v1 w1 h1 h2 _ _
  exact h v1 w1 (by unfold OwN; rw [List.map_append]; exact h1) h2

theorem C_take44 {w : World} {A : Option Addr} {l : List Ent} (n : Nat) (hn : n ≤ l.length) (h : Kd.C k44 w A (l.map c44).length (l.map c44)) : Kd.C k44 w A ((l.take n).map c44).length ((l.take n).map c44) := by
  rw [List.map_take]
  exact Kd.C_take h (by simpa using hn)
theorem C_drop44 {w : World} {A : Option Addr} {c : Nat} {l : List Ent} (n : Nat) (hn : n ≤ l.length) (hc : l.length ≤ c) (h : Kd.C k44 w A (l.map c44).length (l.map c44)) : Kd.C k44 w (if c = n then A else A.map (·.add (n * 3))) ((l.drop n).map c44).length ((l.drop n).map c44) := by
  rw [List.map_drop]
  exact Kd.C_drop h (by simpa using hn) (by simpa using hc)
end Go.Proofs.Ytldmhfpgcflplaa
