import Derived.Test.YteccbihjkolpcaaLkS
set_option linter.unusedVariables false
set_option linter.unusedSimpArgs false
namespace Go.Proofs.Yteccbihjkolpcaa
open Go.RowKit Go.Maps LockP

/-- Locks of the call's own: below B nothing has turned. -/
def Lk (B : Nat) (w0 w : World) (a : Addr) (N : Nat) (L : List H) : Prop := ∃ F, Rep w a F N L ∧ (∀ i, F i → B ≤ i) ∧ Below B w0 w ∧ B ≤ w.heap.size

theorem Lk.bel {B : Nat} {w0 w : World} {a : Addr} {N : Nat} {L : List H} (h : Lk B w0 w a N L) : Below B w0 w := by
  obtain ⟨F, h1, h2, h3, h4⟩ := h
  exact h3
theorem Lk.len {B : Nat} {w0 w : World} {a : Addr} {N : Nat} {L : List H} (h : Lk B w0 w a N L) : L.length ≤ N := by
  obtain ⟨F, h1, h2, h3, h4⟩ := h
  exact h1.len
theorem Lk.nodup {B : Nat} {w0 w : World} {a : Addr} {N : Nat} {L : List H} (h : Lk B w0 w a N L) : L.Nodup := by
  obtain ⟨F, h1, h2, h3, h4⟩ := h
  exact h1.nodup
theorem Lk.drew {B : Nat} {w0 w : World} {a : Addr} {N : Nat} {L : List H} (h : Lk B w0 w a N L) : Lk B w0 w.drew a N L := by
  obtain ⟨F, h1, h2, h3, h4⟩ := h
  exact ⟨F, h1.below (Below.refl _ _).drew, h2, h3.drew, h4⟩
theorem Lk.below {B : Nat} {w0 w w' : World} {a : Addr} {N : Nat} {L : List H} (h : Lk B w0 w a N L) (hb : Below w.heap.size w w') : Lk B w0 w' a N L := by
  obtain ⟨F, h1, h2, h3, h4⟩ := h
  exact ⟨F, h1.below hb, h2, h3.trans (hb.mono h4), Nat.le_trans h4 hb.size⟩
theorem Lk.mono {B : Nat} {w0 w : World} {a : Addr} {N N' : Nat} {L : List H} (h : Lk B w0 w a N L) (hN : N ≤ N') : Lk B w0 w a N' L := by
  obtain ⟨F, h1, h2⟩ := h
  exact ⟨F, h1.mono hN, h2⟩
theorem lk_new (w0 w : World) (B : Nat) (hb : Below B w0 w) (hB : B ≤ w.heap.size) : Lk B w0 (w.alloc (.cells #[.map none] 26)) ⟨w.heap.size, 0, none⟩ 0 [] :=
  ⟨_, rep_new w, fun i hi => by omega, hb.alloc hB _, by simp; omega⟩
theorem lk_post {B : Nat} {w0 w w' : World} {a : Addr} {F : Nat → Prop} {N N' : Nat} {L L' : List H} (h1 : Rep w a F N L) (h2 : ∀ i, F i → B ≤ i) (h3 : Below B w0 w) (h4 : B ≤ w.heap.size) (hp : Post w w' a F N' L') : Lk B w0 w' a N' L' := by
  obtain ⟨F', g1, g2, g3⟩ := hp
  refine ⟨F', g1, fun i hi => ?_, g3.below h3 h2 h4, Nat.le_trans h4 g3.size⟩
  rcases g2 i hi with h | h
  · exact h2 i h
  · omega

theorem small {N : Nat} (h : N ≤ 1000) : N + 2 < maxLen := by unfold maxLen; omega

theorem read_lk {B : Nat} {w0 w : World} {a : Addr} {N : Nat} {L : List H} (h : Lk B w0 w a N L) (s t : Int) (ws : wf s) (wt : wf t) (hN : N ≤ 1000) :
    Calls Try.prog 8 #[.pointer (some a), .int .i64 s, .int .i64 t] w fun e w' => e = .returned (.int .i64 (LockP.take L ⟨s, t, 0, 0⟩).2) ∧ Lk B w0 w' a (N + 1) (LockP.take L ⟨s, t, 0, 0⟩).1 := by
  obtain ⟨F, h1, h2, h3, h4⟩ := h
  refine (read_rep w a F N L s t h1 ws wt (small hN)).mono ?_
  rintro e w' ⟨rfl, hp⟩
  exact ⟨rfl, lk_post h1 h2 h3 h4 hp⟩
theorem alone_lk {B : Nat} {w0 w : World} {a : Addr} {N : Nat} {L : List H} (h : Lk B w0 w a N L) (s t : Int) (ws : wf s) (wt : wf t) (hN : N ≤ 1000) :
    Calls Try.prog 10 #[.pointer (some a), .int .i64 s, .int .i64 t] w fun e w' => e = .returned (.int .i64 (LockP.take L ⟨s, t, 2, 0⟩).2) ∧ Lk B w0 w' a (N + 1) (LockP.take L ⟨s, t, 2, 0⟩).1 := by
  obtain ⟨F, h1, h2, h3, h4⟩ := h
  refine (alone_rep w a F N L s t h1 ws wt (small hN)).mono ?_
  rintro e w' ⟨rfl, hp⟩
  exact ⟨rfl, lk_post h1 h2 h3 h4 hp⟩
theorem write_lk {B : Nat} {w0 w : World} {a : Addr} {N : Nat} {L : List H} (h : Lk B w0 w a N L) (s t r : Int) (ws : wf s) (wt : wf t) (wr : wf r) (hN : N ≤ 1000) :
    Calls Try.prog 9 #[.pointer (some a), .int .i64 s, .int .i64 t, .int .i64 r] w fun e w' => e = .returned (.int .i64 (LockP.take L ⟨s, t, 1, r⟩).2) ∧ Lk B w0 w' a (N + 1) (LockP.take L ⟨s, t, 1, r⟩).1 := by
  obtain ⟨F, h1, h2, h3, h4⟩ := h
  refine (write_rep w a F N L s t r h1 ws wt wr (small hN)).mono ?_
  rintro e w' ⟨rfl, hp⟩
  exact ⟨rfl, lk_post h1 h2 h3 h4 hp⟩
theorem release_lk {B : Nat} {w0 w : World} {a : Addr} {N : Nat} {L : List H} (h : Lk B w0 w a N L) (s : Int) (ws : wf s) (hN : N ≤ 1000) :
    Calls Try.prog 11 #[.pointer (some a), .int .i64 s] w fun e w' => e = .returned (.int .i64 (held L s)) ∧ Lk B w0 w' a (N + 1) (without L s) := by
  obtain ⟨F, h1, h2, h3, h4⟩ := h
  refine (release_rep w a F N L s h1 ws (small hN)).mono ?_
  rintro e w' ⟨rfl, hp⟩
  exact ⟨rfl, lk_post h1 h2 h3 h4 hp⟩
theorem held_lk {B : Nat} {w0 w : World} {a : Addr} {N : Nat} {L : List H} (h : Lk B w0 w a N L) (s : Int) (ws : wf s) :
    Calls Try.prog 15 #[.pointer (some a), .int .i64 s] w fun e w' => e = .returned (.int .i64 (held L s)) ∧ w = w' := by
  obtain ⟨F, h1, h2, h3, h4⟩ := h
  exact held_rep w a F N L s h1 ws

structure Act where
  what : Int
  s : Int
  t : Int
  r : Int

def WfA (x : Act) : Prop := wf x.what ∧ wf x.s ∧ wf x.t ∧ wf x.r
/-- The acts that lie in a slice. -/
def ReadsA (w : World) (A : Option Addr) (l : List Act) : Prop :=
  ∀ k x, l[k]? = some x → ∃ ad, A = some ad ∧ w.cell? (ad.add (k * 4)) = some (.int .i64 x.what) ∧ w.cell? ⟨(ad.add (k * 4)).block, (ad.add (k * 4)).off + 1, none⟩ = some (.int .i64 x.s) ∧
    w.cell? ⟨(ad.add (k * 4)).block, (ad.add (k * 4)).off + 2, none⟩ = some (.int .i64 x.t) ∧ w.cell? ⟨(ad.add (k * 4)).block, (ad.add (k * 4)).off + 3, none⟩ = some (.int .i64 x.r)

theorem old {w wr : World} (h : Below w.heap.size w wr) {p : Addr} {v : Value} (hc : w.cell? p = some v) : wr.cell? p = some v := (h.cell (World.block_lt_of_cell? w p hc)).trans hc
theorem below_drew {B : Nat} {w w' : World} (h : Below B w w') : Below B w w'.drew := h.drew
end Go.Proofs.Yteccbihjkolpcaa
