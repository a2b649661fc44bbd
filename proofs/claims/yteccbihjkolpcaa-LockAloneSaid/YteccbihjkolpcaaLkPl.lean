import Derived.Test.YteccbihjkolpcaaLkPure
import Derived.Test.YteccbihjkolpcaaLkW
set_option linter.unusedVariables false
set_option linter.unusedSimpArgs false
namespace Go.Proofs.Yteccbihjkolpcaa
open Go.RowKit Go.Maps LockP Go.Proofs.Yteccbihjkolpcaa.PA Go.Proofs.YteccbihjkolpcaaW.PrintWords

/-- The locks at a hold L; the reference's list v holds M. -/
def Pl (w1 w : World) (a : Addr) (N : Nat) (v : Value) (L M : List H) : Prop :=
  ∃ F P : Nat → Prop, Rep w a F N L ∧ (∀ i, F i → w1.heap.size ≤ i) ∧ Below w1.heap.size w1 w ∧ Kd.R k41 41 w w1.heap.size P v (M.map enc) ∧ (∀ i, P i → ¬ F i) ∧ Modes M ∧ M.length ≤ N

variable {w1 w w' : World} {a : Addr} {N : Nat} {v : Value} {L M : List H}
theorem Pl.bel (h : Pl w1 w a N v L M) : Below w1.heap.size w1 w := by
  obtain ⟨F, P, h1, h2, h3, h4⟩ := h
  exact h3
theorem Pl.below (h : Pl w1 w a N v L M) (hb : Below w.heap.size w w') : Pl w1 w' a N v L M := by
  obtain ⟨F, P, h1, h2, h3, h4, h5, h6, h7⟩ := h
  exact ⟨F, P, h1.below hb, h2, h3.trans (hb.mono h3.size), Kd.R_below h4 hb, h5, h6, h7⟩
theorem Pl.drew (h : Pl w1 w a N v L M) : Pl w1 w.drew a N v L M := h.below (Below.refl _ _).drew
theorem Pl.mono {N' : Nat} (h : Pl w1 w a N v L M) (hN : N ≤ N') : Pl w1 w a N' v L M := by
  obtain ⟨F, P, h1, h2, h3, h4, h5, h6, h7⟩ := h
  exact ⟨F, P, h1.mono hN, h2, h3, h4, h5, h6, by omega⟩
theorem pl_post {F P : Nat → Prop} {L' : List H} (h1 : Rep w a F N L) (h2 : ∀ i, F i → w1.heap.size ≤ i) (h3 : Below w1.heap.size w1 w) (h4 : Kd.R k41 41 w w1.heap.size P v (M.map enc)) (h5 : ∀ i, P i → ¬ F i) (h6 : Modes M) (h7 : M.length ≤ N)
    (hp : Post w w' a F (N + 1) L') : Pl w1 w' a (N + 1) v L' M := by
  obtain ⟨F', g1, g2, g3⟩ := hp
  have h4' := Kd.R_bound h4
  refine ⟨F', fun k => P k ∧ k < w.heap.size, g1, fun i hi => ?_, g3.below h3 h2 h3.size, Kd.R_step (Kd.R_mono h4' (fun k hk => ⟨hk.1, hk.2.2.1⟩)) (fun k ho hk => g3.block k hk (h5 k ho.1)), fun i hi hf => ?_, h6, by omega⟩
  · rcases g2 i hi with h | h
    · exact h2 i h
    · have := h3.size; omega
  · rcases g2 i hf with h | h
    · exact h5 i hi.1 h
    · omega
theorem pl_new (w1 : World) : Pl w1 (w1.alloc (.cells #[.map none] 26)) ⟨w1.heap.size, 0, none⟩ 0 (.slice none 0 0) [] [] :=
  ⟨_, fun _ => False, rep_new w1, fun i hi => by omega, (Below.refl _ _).alloc (Nat.le_refl _) _, Kd.R_nil _ _ _ _ _, fun i h => h.elim, fun h hh => by simp at hh, Nat.le_refl _⟩


/-- .. and an act's copy lies in block b. -/
def Pb (w1 w : World) (a : Addr) (N : Nat) (v : Value) (L M : List H) (b : Nat) (y : Act) : Prop :=
  ∃ F P : Nat → Prop, Rep w a F N L ∧ (∀ i, F i → w1.heap.size ≤ i) ∧ Below w1.heap.size w1 w ∧ Kd.R k41 41 w w1.heap.size P v (M.map enc) ∧ (∀ i, P i → ¬ F i) ∧ Modes M ∧ M.length ≤ N ∧
    w.heap[b]? = some (.cells #[.int .i64 y.what, .int .i64 y.s, .int .i64 y.t, .int .i64 y.r] 34 (0, 0)) ∧ ¬ F b ∧ ¬ P b
variable {b : Nat} {y : Act}
theorem Pb.pl (h : Pb w1 w a N v L M b y) : Pl w1 w a N v L M := by
  obtain ⟨F, P, h1, h2, h3, h4, h5, h6, h7, h8, h9, h10⟩ := h
  exact ⟨F, P, h1, h2, h3, h4, h5, h6, h7⟩
theorem Pb.bel (h : Pb w1 w a N v L M b y) : Below w1.heap.size w1 w := h.pl.bel
theorem Pl.pb (h : Pl w1 w a N v L M) (y : Act) : Pb w1 (w.alloc (.cells #[.int .i64 y.what, .int .i64 y.s, .int .i64 y.t, .int .i64 y.r] 34)) a N v L M w.heap.size y := by
  obtain ⟨F, P, h1, h2, h3, h4, h5, h6, h7⟩ := h
  have hb : Below w.heap.size w (w.alloc (.cells #[.int .i64 y.what, .int .i64 y.s, .int .i64 y.t, .int .i64 y.r] 34)) := (Below.refl _ _).alloc (Nat.le_refl _) _
  refine ⟨F, fun k => P k ∧ k < w.heap.size, h1.below hb, h2, h3.trans (hb.mono h3.size), Kd.R_below (Kd.R_mono (Kd.R_bound h4) (fun k hk => ⟨hk.1, hk.2.2.1⟩)) hb, fun i hi => h5 i hi.1, h6, h7, heap_alloc_new w _, fun hf => ?_, fun hp => ?_⟩
  · have := h1.fresh _ hf; omega
  · omega
theorem Pb.lt (h : Pb w1 w a N v L M b y) : b < w.heap.size := by
  obtain ⟨F, P, h1, h2, h3, h4, h5, h6, h7, h8, h9, h10⟩ := h
  exact (Array.getElem?_eq_some_iff.1 h8).1
theorem Pb.cells (h : Pb w1 w a N v L M b y) : w.cell? ⟨b, 1, none⟩ = some (.int .i64 y.s) ∧ w.cell? ⟨b, 2, none⟩ = some (.int .i64 y.t) ∧ w.cell? ⟨b, 3, none⟩ = some (.int .i64 y.r) := by
  obtain ⟨F, P, h1, h2, h3, h4, h5, h6, h7, h8, h9, h10⟩ := h
  simp [World.cell?, h8]
theorem Pb.below (h : Pb w1 w a N v L M b y) (hb : Below w.heap.size w w') : Pb w1 w' a N v L M b y := by
  have hl := h.lt
  obtain ⟨F, P, h1, h2, h3, h4, h5, h6, h7, h8, h9⟩ := h
  exact ⟨F, P, h1.below hb, h2, h3.trans (hb.mono h3.size), Kd.R_below h4 hb, h5, h6, h7, (hb.block b hl).trans h8, h9⟩
theorem Pb.drew (h : Pb w1 w a N v L M b y) : Pb w1 w.drew a N v L M b y := h.below (Below.refl _ _).drew
theorem pb_post {F P : Nat → Prop} {L' : List H} (h1 : Rep w a F N L) (h2 : ∀ i, F i → w1.heap.size ≤ i) (h3 : Below w1.heap.size w1 w) (h4 : Kd.R k41 41 w w1.heap.size P v (M.map enc)) (h5 : ∀ i, P i → ¬ F i) (h6 : Modes M) (h7 : M.length ≤ N)
    (h8 : w.heap[b]? = some (.cells #[.int .i64 y.what, .int .i64 y.s, .int .i64 y.t, .int .i64 y.r] 34 (0, 0))) (h9 : ¬ F b) (h10 : ¬ P b)
    (hp : Post w w' a F (N + 1) L') : Pb w1 w' a (N + 1) v L' M b y := by
  have hbl : b < w.heap.size := (Array.getElem?_eq_some_iff.1 h8).1
  obtain ⟨F', g1, g2, g3⟩ := hp
  have h4' := Kd.R_bound h4
  refine ⟨F', fun k => P k ∧ k < w.heap.size, g1, fun i hi => ?_, g3.below h3 h2 h3.size, Kd.R_step (Kd.R_mono h4' (fun k hk => ⟨hk.1, hk.2.2.1⟩)) (fun k ho hk => g3.block k hk (h5 k ho.1)), fun i hi hf => ?_, h6, by omega, (g3.block b hbl h9).trans h8, fun hf => ?_, fun hp => h10 hp.1⟩
  · rcases g2 i hi with h | h
    · exact h2 i h
    · have := h3.size; omega
  · rcases g2 i hf with h | h
    · exact h5 i hi.1 h
    · omega
  · rcases g2 b hf with h | h
    · exact h9 h
    · omega

theorem read_pl (h : Pb w1 w a N v L M b y) (s t : Int) (ws : wf s) (wt : wf t) (hN : N ≤ 1000) :
    Calls Try.prog 8 #[.pointer (some a), .int .i64 s, .int .i64 t] w fun e w' => e = .returned (.int .i64 (LockP.take L ⟨s, t, 0, 0⟩).2) ∧ Pb w1 w' a (N + 1) v (LockP.take L ⟨s, t, 0, 0⟩).1 M b y := by
  obtain ⟨F, P, h1, h2, h3, h4, h5, h6, h7, h8, h9, h10⟩ := h
  refine (read_rep w a F N L s t h1 ws wt (small hN)).mono ?_
  rintro e w' ⟨rfl, hp⟩
  exact ⟨rfl, pb_post h1 h2 h3 h4 h5 h6 h7 h8 h9 h10 hp⟩
theorem alone_pl (h : Pb w1 w a N v L M b y) (s t : Int) (ws : wf s) (wt : wf t) (hN : N ≤ 1000) :
    Calls Try.prog 10 #[.pointer (some a), .int .i64 s, .int .i64 t] w fun e w' => e = .returned (.int .i64 (LockP.take L ⟨s, t, 2, 0⟩).2) ∧ Pb w1 w' a (N + 1) v (LockP.take L ⟨s, t, 2, 0⟩).1 M b y := by
  obtain ⟨F, P, h1, h2, h3, h4, h5, h6, h7, h8, h9, h10⟩ := h
  refine (alone_rep w a F N L s t h1 ws wt (small hN)).mono ?_
  rintro e w' ⟨rfl, hp⟩
  exact ⟨rfl, pb_post h1 h2 h3 h4 h5 h6 h7 h8 h9 h10 hp⟩
theorem write_pl (h : Pb w1 w a N v L M b y) (s t r : Int) (ws : wf s) (wt : wf t) (wr : wf r) (hN : N ≤ 1000) :
    Calls Try.prog 9 #[.pointer (some a), .int .i64 s, .int .i64 t, .int .i64 r] w fun e w' => e = .returned (.int .i64 (LockP.take L ⟨s, t, 1, r⟩).2) ∧ Pb w1 w' a (N + 1) v (LockP.take L ⟨s, t, 1, r⟩).1 M b y := by
  obtain ⟨F, P, h1, h2, h3, h4, h5, h6, h7, h8, h9, h10⟩ := h
  refine (write_rep w a F N L s t r h1 ws wt wr (small hN)).mono ?_
  rintro e w' ⟨rfl, hp⟩
  exact ⟨rfl, pb_post h1 h2 h3 h4 h5 h6 h7 h8 h9 h10 hp⟩
theorem release_pl (h : Pb w1 w a N v L M b y) (s : Int) (ws : wf s) (hN : N ≤ 1000) :
    Calls Try.prog 11 #[.pointer (some a), .int .i64 s] w fun e w' => e = .returned (.int .i64 (held L s)) ∧ Pb w1 w' a (N + 1) v (without L s) M b y := by
  obtain ⟨F, P, h1, h2, h3, h4, h5, h6, h7, h8, h9, h10⟩ := h
  refine (release_rep w a F N L s h1 ws (small hN)).mono ?_
  rintro e w' ⟨rfl, hp⟩
  exact ⟨rfl, pb_post h1 h2 h3 h4 h5 h6 h7 h8 h9 h10 hp⟩
theorem held_pl (h : Pb w1 w a N v L M b y) (s : Int) (ws : wf s) :
    Calls Try.prog 15 #[.pointer (some a), .int .i64 s] w fun e w' => e = .returned (.int .i64 (held L s)) ∧ Pb w1 w' a N v L M b y := by
  have h0 := h
  obtain ⟨F, P, h1, h2, h3, h4⟩ := h
  refine (held_rep w a F N L s h1 ws).mono ?_
  rintro e w' ⟨rfl, rfl⟩
  exact ⟨rfl, h0⟩
theorem count_pl (h : Pb w1 w a N v L M b y) (s : Int) (hN : N ≤ 1000) :
    Calls Try.prog 12 #[v, .int .i64 s] w fun e w' => e = .returned (.int .i64 (held M s)) ∧ Pb w1 w' a N v L M b y := by
  have h0 := h
  obtain ⟨F, P, h1, h2, h3, h4, h5, h6, h7, h8, h9, h10⟩ := h
  obtain ⟨A, c, rfl, hc, hr⟩ := Kd.R_reads h4
  obtain ⟨k, hk⟩ := count_eq M s (by omega)
  refine (concordanceref21_Count.calls k A c (M.map enc) s _ w hr hc hk).mono ?_
  rintro e w' ⟨rfl, hd⟩
  exact ⟨rfl, h0.below hd.below⟩
theorem without_pl (h : Pb w1 w a N v L M b y) (s : Int) (hN : N ≤ 1000) :
    Calls Try.prog 13 #[v, .int .i64 s] w fun e w' => ∃ v', e = .returned v' ∧ Pb w1 w' a N v' L (without M s) b y := by
  obtain ⟨F, P, h1, h2, h3, h4, h5, h6, h7, h8, h9, h10⟩ := h
  obtain ⟨A, c, rfl, hc, hr⟩ := Kd.R_reads h4
  obtain ⟨k, hk⟩ := without_eq M s (by omega)
  refine (concordanceref21_Without.calls k A c (M.map enc) s _ w hr hc hk).mono ?_
  rintro e w' ⟨v', rfl, hR, hb⟩
  refine ⟨v', rfl, F, fun k => w.heap.size ≤ k, h1.below hb, h2, h3.trans (hb.mono h3.size), ?_, fun i hi hf => ?_, fun y hy => h6 y (mem_without.1 hy).1, Nat.le_trans (length_without M s) h7, (hb.block b (Array.getElem?_eq_some_iff.1 h8).1).trans h8, h9, fun h => by have := (Array.getElem?_eq_some_iff.1 h8).1; omega⟩
  · exact Kd.R_lower (Kd.R_mono (Kd.R_bound hR) (fun k hk => hk.2.1)) h3.size
  · have := h1.fresh i hf
    omega
theorem ask_pl (h : Pb w1 w a N v L M b y) (s t m r : Int) (hm : m = 0 ∨ m = 1 ∨ m = 2) (hN : N ≤ 1000) :
    Calls Try.prog 14 #[v, .agg #[.int .i64 s, .int .i64 t, .int .i64 (m + 1), .int .i64 r]] w fun e w' => ∃ v', e = .returned (.tuple #[v', .int .i64 (LockP.take M ⟨s, t, m, r⟩).2]) ∧ Pb w1 w' a (N + 1) v' L (LockP.take M ⟨s, t, m, r⟩).1 b y := by
  obtain ⟨F, P, h1, h2, h3, h4, h5, h6, h7, h8, h9, h10⟩ := h
  obtain ⟨k, hk⟩ := ask_eq M ⟨s, t, m, r⟩ (by omega) h6 hm
  refine (concordanceref21_Ask.calls k P v (M.map enc) s t (m + 1) r _ _ w1 w h3 h4 hk).mono ?_
  rintro e w' ⟨v', rfl, hR, hb, hkp⟩
  have ht : Turn P w w' := ⟨hb.os.trans h3.os.symm, hb.tape.trans h3.tape.symm, hb.output.trans h3.output.symm, hkp.1, hkp.2⟩
  refine ⟨v', rfl, F, _, (h1.turn ht (fun i hf hp => h5 i hp hf)).mono (by omega), h2, hb, hR, fun i hi hf => ?_, fun y hy => ?_, Nat.le_trans (length_take M _) (by omega), (hkp.2 b (Array.getElem?_eq_some_iff.1 h8).1 h10).trans h8, h9, fun h => ?_⟩
  · rcases hi with hi | hi
    · exact h5 i hi hf
    · have := h1.fresh i hf
      omega
  · rcases mem_take hy with hy | rfl
    · exact h6 _ hy
    · exact hm
  · rcases h with h | h
    · exact h10 h
    · have := (Array.getElem?_eq_some_iff.1 h8).1
      omega
end Go.Proofs.Yteccbihjkolpcaa
