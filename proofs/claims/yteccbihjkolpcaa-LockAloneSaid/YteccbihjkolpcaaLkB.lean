/-
  The closures of the locks, what a map of maps holds, and what it is that the locks at an address hold a list of things.
-/
import Derived.Test.YteccbihjkolpcaaLkA
import Derived.Test.YteccbihjkolpcaaLkPlain
import Derived.Deep.QuietTactic
import Derived.BigQuiet
import Derived.Lib.Hide
set_option linter.unusedVariables false
set_option linter.unusedSimpArgs false
namespace Go.Proofs.Yteccbihjkolpcaa
open Go.RowKit Go.Maps LockP
theorem read1 (a b c : Int) (w : World) : Calls Try.prog 17 #[tv a b c] w fun e w' => e = .returned (.bool (b != 0)) ∧ Below w.heap.size w w' := by
  unfold tv
  go_enter Try.func17, Try.ntmps17
  go_wp2
  go_ret
  exact ⟨rfl, (Below.refl _ _).alloc (Nat.le_refl _) _⟩
theorem alone1 (a b c : Int) (w : World) : Calls Try.prog 19 #[tv a b c] w fun e w' => e = .returned (.bool true) ∧ Below w.heap.size w w' := by
  unfold tv
  go_enter Try.func19, Try.ntmps19
  go_wp2
  go_ret
  exact ⟨rfl, (Below.refl _ _).alloc (Nat.le_refl _) _⟩
theorem cell_alloc {w : World} {p : Addr} {v : Value} (h : w.cell? p = some v) (o : Obj) : (w.alloc o).cell? p = some v :=
  (((Below.refl w.heap.size w).alloc (Nat.le_refl _) o).cell (World.block_lt_of_cell? w p h)).trans h
theorem write1 (a b c r : Int) (B : Nat) (w : World) (hc0 : w.cell? ⟨B, 0, none⟩ = some (.int .i64 r)) : Calls Try.prog 18 #[tv a b c, .pointer (some ⟨B, 0, none⟩)] w fun e w' => e = .returned (.bool (b != 1 || c == r)) ∧ Below w.heap.size w w' := by
  unfold tv
  have hc := cell_alloc hc0
  clear hc0
  by_cases hb : b = 1
  · subst hb
    go_enter Try.func18, Try.ntmps18
    go_wp2
    go_ret
    exact ⟨rfl, (Below.refl _ _).alloc (Nat.le_refl _) _⟩
  · have h1 : (b != 1) = true := by simpa using hb
    go_enter Try.func18, Try.ntmps18
    go_wp2
    go_ret
    exact ⟨by simp [h1], (Below.refl _ _).alloc (Nat.le_refl _) _⟩
theorem rel1 (s : Int) (v : Value) (r : Int) (B : Nat) (w : World) (hc : w.cell? ⟨B, 0, none⟩ = some (.int .i64 r)) : Calls Try.prog 21 #[.int .i64 s, v, .pointer (some ⟨B, 0, none⟩)] w fun e w' => e = .returned (.bool (s == r)) ∧ w = w' := by
  go_enter Try.func21, Try.ntmps21
  go_wp2
  go_ret
  exact ⟨rfl, rfl⟩

/-- The map of a session's things. -/
def Inner (w : World) (b : Nat) (s : Int) (L : List H) : Prop :=
  ∃ E : DataW Unit, w.ownsMap Try.prog 49 (plainElem Try.prog 4) b (Maps.size E) E ∧ (∀ t m r, wf t → wf m → wf r → (Maps.has E (tk t m r) = true ↔ (⟨s, t, m, r⟩ : H) ∈ L)) ∧ Maps.size E = held L s

def WfH (h : H) : Prop := wf h.s ∧ wf h.t ∧ wf h.m ∧ wf h.r

/-- What the locks' map holds. -/
def Outer (w : World) (F : Nat → Prop) (N bm : Nat) (L : List H) : Prop :=
  F bm ∧ ∃ D : DataW Unit, w.ownsMap Try.prog 3 mapElem bm (Maps.size D) D ∧ Maps.size D ≤ N ∧
    (∀ s, wf s → Maps.has D (.int .i64 s) = true → ∃ b : Nat, (∀ zd, D.atKey (.int .i64 s) zd = .lit (.int .i64 b)) ∧ b ≠ bm ∧ F b ∧ Inner w b s L) ∧
    (∀ s, wf s → Maps.has D (.int .i64 s) = false → held L s = 0) ∧
    (∀ s s' (b : Nat), wf s → wf s' → Maps.has D (.int .i64 s) = true → Maps.has D (.int .i64 s') = true → (∀ zd, D.atKey (.int .i64 s) zd = .lit (.int .i64 b)) → (∀ zd, D.atKey (.int .i64 s') zd = .lit (.int .i64 b)) → s = s')

/-- The locks that lie at a hold the things of L; F: the blocks that they take. -/
structure Rep (w : World) (a : Addr) (F : Nat → Prop) (N : Nat) (L : List H) : Prop where
  wfs : ∀ h ∈ L, WfH h
  nodup : L.Nodup
  len : L.length ≤ N
  fresh : ∀ i, F i → i < w.heap.size
  cell : F a.block
  free : w.frozen? a = false
  map : (w.cell? a = some (.map none) ∧ L = []) ∨ ∃ bm, w.cell? a = some (.map (some bm)) ∧ bm ≠ a.block ∧ Outer w F N bm L

theorem own_below {H' : Type} {w w' : World} {k : TypeId} {R : Value → Option (DataW H' × List MemPlace)} {b n : Nat} {D : DataW H'} (h : w.ownsMap Try.prog k R b n D) (hb : Below w.heap.size w w') : w'.ownsMap Try.prog k R b n D :=
  h.kept (row := none) ⟨hb.os, hb.tape, hb.output, hb.size, fun i hi _ => hb.block i hi⟩ (by simp)

theorem Rep.below {w w' : World} {a : Addr} {F : Nat → Prop} {N : Nat} {L : List H} (h : Rep w a F N L) (hb : Below w.heap.size w w') : Rep w' a F N L := by
  have ha := h.fresh _ h.cell
  refine ⟨h.wfs, h.nodup, h.len, fun i hi => Nat.lt_of_lt_of_le (h.fresh i hi) hb.size, h.cell, (hb.frozen ha).trans h.free, ?_⟩
  rcases h.map with ⟨h1, h2⟩ | ⟨bm, h1, h2, h3, D, h4, h5, h6, h7, h8⟩
  · exact Or.inl ⟨(hb.cell ha).trans h1, h2⟩
  · refine Or.inr ⟨bm, (hb.cell ha).trans h1, h2, h3, D, own_below h4 hb, h5, fun s ws hs => ?_, h7, h8⟩
    obtain ⟨b, e1, e2, e3, E, e4, e5⟩ := h6 s ws hs
    exact ⟨b, e1, e2, e3, E, own_below e4 hb, e5⟩

theorem invK3 (key : Value) (kl : Lit) (h : keyOf Try.prog 3 key = some kl) : ∃ x, key = Value.int .i64 x := by
  obtain ⟨x, rfl, _⟩ := Maps.keyOf_int_inv Try.underlying3 h; exact ⟨x, rfl⟩
theorem invV52 (v : Value) (y : DataW Unit × List MemPlace) (h : mapElem v = some y) : ∃ c, v = Value.map c := mapElem_inv h
def tvp (p : Int × Int × Int) : Value := tv p.1 p.2.1 p.2.2
theorem invK49 (key : Value) (kl : Lit) (h : keyOf Try.prog 49 key = some kl) : ∃ x, key = tvp x := by
  obtain ⟨a, b, c, rfl, _⟩ := key_inv h; exact ⟨(a, b, c), rfl⟩
theorem invV4 (v : Value) (y : DataW Unit × List MemPlace) (h : plainElem Try.prog 4 v = some y) : ∃ c, v = Value.bool c := by
  unfold plainElem at h
  rw [Try.underlying4] at h
  cases v <;> simp at h
  exact ⟨_, rfl⟩

def hit (t : Int) (hb : Int → Int → Bool) (y : H) : Bool := decide (y.t = t) && hb y.m y.r


theorem others_nil (fv : Value) (a : Addr) (s t : Int) (w : World) (hbm : w.cell? a = some (.map none)) :
    Calls Try.prog 22 #[.pointer (some a), .int .i64 s, .int .i64 t, fv] w fun e w' => e = .returned (.bool false) ∧ Below w.heap.size w w' := by
  have hrg := run_range_nilMap (P := Try.prog) w 24 3 52 Try.underlying24
  have hnx : ∀ ty, (Instr.next (.pointer (some ⟨w.heap.size, 0, none⟩)) false ty).run Try.prog (w.alloc (.mapIter none 0 #[] 0)) = _ := fun ty => run_next_nilMap w ty 0 0 #[]
  go_enter Try.func22, Try.ntmps22
  go_wp2
  refine wp_loop_rounds 1 ?_
  rw [rounds_succ]
  go_wp2
  go_ret
  exact ⟨rfl, (Below.refl _ _).alloc (Nat.le_refl _) _⟩
end Go.Proofs.Yteccbihjkolpcaa
