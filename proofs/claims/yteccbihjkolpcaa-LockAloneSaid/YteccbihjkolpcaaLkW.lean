import Derived.Test.YteccbihjkolpcaaLkG
set_option linter.unusedVariables false
set_option linter.unusedSimpArgs false
namespace Go.Proofs.Yteccbihjkolpcaa
open Go.RowKit Go.Maps LockP

theorem Rep.turn {w w' : World} {a : Addr} {F G : Nat → Prop} {N : Nat} {L : List H} (h : Rep w a F N L) (ht : Turn G w w') (hd : ∀ i, F i → ¬ G i) : Rep w' a F N L := by
  have ha := h.fresh _ h.cell
  have hb : ∀ i, F i → w'.heap[i]? = w.heap[i]? := fun i hi => ht.block i (h.fresh i hi) (hd i hi)
  refine ⟨h.wfs, h.nodup, h.len, fun i hi => Nat.lt_of_lt_of_le (h.fresh i hi) ht.size, h.cell, (World.frozen?_of_block (a := a) (hb _ h.cell)).trans h.free, ?_⟩
  rcases h.map with ⟨h1, h2⟩ | ⟨bm, h1, h2, h3, D, h4, h5, h6, h7, h8⟩
  · exact Or.inl ⟨(World.cell?_of_block (a := a) (hb _ h.cell)).trans h1, h2⟩
  · refine Or.inr ⟨bm, (World.cell?_of_block (a := a) (hb _ h.cell)).trans h1, h2, h3, D, own_block h4 (hb _ h3), h5, fun s ws hs => ?_, h7, h8⟩
    obtain ⟨b, e1, e2, e3, E, e4, e5⟩ := h6 s ws hs
    exact ⟨b, e1, e2, e3, E, own_block e4 (hb _ e3), e5⟩

/-- Two locks of the call's own. -/
def Two (B : Nat) (w0 w : World) (a a' : Addr) (N : Nat) (L L' : List H) : Prop :=
  ∃ F G : Nat → Prop, Rep w a F N L ∧ Rep w a' G N L' ∧ (∀ i, F i → ¬ G i) ∧ (∀ i, F i → B ≤ i) ∧ (∀ i, G i → B ≤ i) ∧ Below B w0 w ∧ B ≤ w.heap.size

variable {B : Nat} {w0 w w' : World} {a a' : Addr} {N : Nat} {L L' : List H}
theorem Two.swap (h : Two B w0 w a a' N L L') : Two B w0 w a' a N L' L := by
  obtain ⟨F, G, h1, h2, h3, h4, h5, h6, h7⟩ := h
  exact ⟨G, F, h2, h1, fun i hg hf => h3 i hf hg, h5, h4, h6, h7⟩
theorem Two.bel (h : Two B w0 w a a' N L L') : Below B w0 w := by
  obtain ⟨F, G, h1, h2, h3, h4, h5, h6, h7⟩ := h
  exact h6
theorem Two.drew (h : Two B w0 w a a' N L L') : Two B w0 w.drew a a' N L L' := by
  obtain ⟨F, G, h1, h2, h3, h4, h5, h6, h7⟩ := h
  exact ⟨F, G, h1.below (Below.refl _ _).drew, h2.below (Below.refl _ _).drew, h3, h4, h5, h6.drew, h7⟩
theorem two_post {F G : Nat → Prop} {M : List H} (h1 : Rep w a F N L) (h2 : Rep w a' G N L') (h3 : ∀ i, F i → ¬ G i) (h4 : ∀ i, F i → B ≤ i) (h5 : ∀ i, G i → B ≤ i) (h6 : Below B w0 w) (h7 : B ≤ w.heap.size) (hp : Post w w' a F (N + 1) M) : Two B w0 w' a a' (N + 1) M L' := by
  obtain ⟨F', g1, g2, g3⟩ := hp
  refine ⟨F', G, g1, (h2.turn g3 (fun i hg hf => h3 i hf hg)).mono (by omega), fun i hf hg => ?_, fun i hi => ?_, h5, g3.below h6 h4 h7, Nat.le_trans h7 g3.size⟩
  · rcases g2 i hf with h | h
    · exact h3 i h hg
    · have := h2.fresh i hg
      omega
  · rcases g2 i hi with h | h
    · exact h4 i h
    · omega
theorem two_new (w0 w : World) (B : Nat) (hb : Below B w0 w) (hB : B ≤ w.heap.size) : Two B w0 ((w.alloc (.cells #[.map none] 26)).alloc (.cells #[.map none] 26)) ⟨w.heap.size, 0, none⟩ ⟨w.heap.size + 1, 0, none⟩ 0 [] [] := by
  have h1 := (rep_new w).below ((Below.refl _ _).alloc (Nat.le_refl _) (.cells #[.map none] 26))
  have h2 := rep_new (w.alloc (.cells #[.map none] 26))
  rw [show (w.alloc (.cells #[.map none] 26)).heap.size = w.heap.size + 1 by simp] at h2
  exact ⟨_, _, h1, h2, fun i h h' => by omega, fun i h => by omega, fun i h => by omega, (hb.alloc hB _).alloc (by simp; omega) _, by simp; omega⟩

theorem read_two (h : Two B w0 w a a' N L L') (s t : Int) (ws : wf s) (wt : wf t) (hN : N ≤ 1000) :
    Calls Try.prog 8 #[.pointer (some a), .int .i64 s, .int .i64 t] w fun e w' => e = .returned (.int .i64 (LockP.take L ⟨s, t, 0, 0⟩).2) ∧ Two B w0 w' a a' (N + 1) (LockP.take L ⟨s, t, 0, 0⟩).1 L' := by
  obtain ⟨F, G, h1, h2, h3, h4, h5, h6, h7⟩ := h
  refine (read_rep w a F N L s t h1 ws wt (small hN)).mono ?_
  rintro e w' ⟨rfl, hp⟩
  exact ⟨rfl, two_post h1 h2 h3 h4 h5 h6 h7 hp⟩
theorem alone_two (h : Two B w0 w a a' N L L') (s t : Int) (ws : wf s) (wt : wf t) (hN : N ≤ 1000) :
    Calls Try.prog 10 #[.pointer (some a), .int .i64 s, .int .i64 t] w fun e w' => e = .returned (.int .i64 (LockP.take L ⟨s, t, 2, 0⟩).2) ∧ Two B w0 w' a a' (N + 1) (LockP.take L ⟨s, t, 2, 0⟩).1 L' := by
  obtain ⟨F, G, h1, h2, h3, h4, h5, h6, h7⟩ := h
  refine (alone_rep w a F N L s t h1 ws wt (small hN)).mono ?_
  rintro e w' ⟨rfl, hp⟩
  exact ⟨rfl, two_post h1 h2 h3 h4 h5 h6 h7 hp⟩
theorem write_two (h : Two B w0 w a a' N L L') (s t r : Int) (ws : wf s) (wt : wf t) (wr : wf r) (hN : N ≤ 1000) :
    Calls Try.prog 9 #[.pointer (some a), .int .i64 s, .int .i64 t, .int .i64 r] w fun e w' => e = .returned (.int .i64 (LockP.take L ⟨s, t, 1, r⟩).2) ∧ Two B w0 w' a a' (N + 1) (LockP.take L ⟨s, t, 1, r⟩).1 L' := by
  obtain ⟨F, G, h1, h2, h3, h4, h5, h6, h7⟩ := h
  refine (write_rep w a F N L s t r h1 ws wt wr (small hN)).mono ?_
  rintro e w' ⟨rfl, hp⟩
  exact ⟨rfl, two_post h1 h2 h3 h4 h5 h6 h7 hp⟩
theorem read_two' (h : Two B w0 w a a' N L L') (s t : Int) (ws : wf s) (wt : wf t) (hN : N ≤ 1000) :
    Calls Try.prog 8 #[.pointer (some a'), .int .i64 s, .int .i64 t] w fun e w' => e = .returned (.int .i64 (LockP.take L' ⟨s, t, 0, 0⟩).2) ∧ Two B w0 w' a a' (N + 1) L (LockP.take L' ⟨s, t, 0, 0⟩).1 :=
  (read_two h.swap s t ws wt hN).mono fun _ _ ⟨h1, h2⟩ => ⟨h1, h2.swap⟩
theorem write_two' (h : Two B w0 w a a' N L L') (s t r : Int) (ws : wf s) (wt : wf t) (wr : wf r) (hN : N ≤ 1000) :
    Calls Try.prog 9 #[.pointer (some a'), .int .i64 s, .int .i64 t, .int .i64 r] w fun e w' => e = .returned (.int .i64 (LockP.take L' ⟨s, t, 1, r⟩).2) ∧ Two B w0 w' a a' (N + 1) L (LockP.take L' ⟨s, t, 1, r⟩).1 :=
  (write_two h.swap s t r ws wt wr hN).mono fun _ _ ⟨h1, h2⟩ => ⟨h1, h2.swap⟩

/-- The whole numbers that lie in a slice. -/
def ReadsI (w : World) (A : Option Addr) (l : List Int) : Prop := ∀ k x, l[k]? = some x → ∃ ad, A = some ad ∧ w.cell? (ad.add k) = some (.int .i64 x)

/-- What readers hold; what writers of rows of their own hold. -/
def Readers (l : List Int) (t : Int) (k : Nat) (L : List H) : Prop := (∀ h ∈ L, h.m = 0 ∧ h.t = t ∧ ∃ j, j < k ∧ l[j]? = some h.s) ∧ ∀ j s, j < k → l[j]? = some s → (⟨s, t, 0, 0⟩ : H) ∈ L
def Writers (l : List Int) (t : Int) (k : Nat) (L : List H) : Prop := (∀ h ∈ L, h.m = 1 ∧ h.t = t ∧ h.r = h.s ∧ ∃ j, j < k ∧ l[j]? = some h.s) ∧ ∀ j s, j < k → l[j]? = some s → (⟨s, t, 1, s⟩ : H) ∈ L

theorem readers_step {l : List Int} {t : Int} {k : Nat} {L : List H} {s : Int} (h : Readers l t k L) (hs : l[k]? = some s) : (LockP.take L ⟨s, t, 0, 0⟩).2 = 0 ∧ Readers l t (k + 1) (LockP.take L ⟨s, t, 0, 0⟩).1 := by
  have hc : conflict L ⟨s, t, 0, 0⟩ = false := by
    rw [Bool.eq_false_iff]
    intro hc
    obtain ⟨y, hy, _, _, hb⟩ := conflict_iff.1 hc
    simp [bars, (h.1 y hy).1] at hb
  unfold LockP.take
  rw [hc]
  simp only [Bool.false_eq_true, if_false, true_and]
  refine ⟨fun y hy => ?_, fun j s' hj hs' => ?_⟩
  · rcases mem_add.1 hy with hy | rfl
    · obtain ⟨h1, h2, j, h3, h4⟩ := h.1 y hy
      exact ⟨h1, h2, j, by omega, h4⟩
    · exact ⟨rfl, rfl, k, by omega, hs⟩
  · by_cases hjk : j = k
    · subst hjk
      rw [hs] at hs'
      cases hs'
      exact mem_add.2 (Or.inr rfl)
    · exact mem_add.2 (Or.inl (h.2 j s' (by omega) hs'))
theorem writers_step {l : List Int} {t : Int} {k : Nat} {L : List H} {s : Int} (h : Writers l t k L) (hs : l[k]? = some s) : (LockP.take L ⟨s, t, 1, s⟩).2 = 0 ∧ Writers l t (k + 1) (LockP.take L ⟨s, t, 1, s⟩).1 := by
  have hc : conflict L ⟨s, t, 1, s⟩ = false := by
    rw [Bool.eq_false_iff]
    intro hc
    obtain ⟨y, hy, hn, _, hb⟩ := conflict_iff.1 hc
    obtain ⟨h1, _, h3, _⟩ := h.1 y hy
    simp [bars, h1, h3] at hb
    exact hn hb
  unfold LockP.take
  rw [hc]
  simp only [Bool.false_eq_true, if_false, true_and]
  refine ⟨fun y hy => ?_, fun j s' hj hs' => ?_⟩
  · rcases mem_add.1 hy with hy | rfl
    · obtain ⟨h1, h2, h3, j, h4, h5⟩ := h.1 y hy
      exact ⟨h1, h2, h3, j, by omega, h5⟩
    · exact ⟨rfl, rfl, rfl, k, by omega, hs⟩
  · by_cases hjk : j = k
    · subst hjk
      rw [hs] at hs'
      cases hs'
      exact mem_add.2 (Or.inr rfl)
    · exact mem_add.2 (Or.inl (h.2 j s' (by omega) hs'))
/-- Are all that are asked of the same session? -/
def same (l : List Int) (n : Nat) (s : Int) : Bool := (l.take n).all fun z => decide (z = s)
theorem same_iff {l : List Int} {n : Nat} {s : Int} : same l n s = true ↔ ∀ j z, j < n → l[j]? = some z → z = s := by
  simp only [same, List.all_eq_true, decide_eq_true_eq]
  constructor
  · intro h j z hj hz
    exact h z (by
      rw [List.mem_iff_getElem?]
      exact ⟨j, by rw [List.getElem?_take_of_lt hj]; exact hz⟩)
  · intro h z hz
    obtain ⟨j, hj⟩ := List.getElem?_of_mem hz
    have hjn : j < n := by
      have := (List.getElem?_eq_some_iff.1 hj).1
      simp at this
      omega
    rw [List.getElem?_take_of_lt hjn] at hj
    exact h j z hjn hj
theorem readers_write {l : List Int} {t r : Int} {n : Nat} {L : List H} {s : Int} (h : Readers l t n L) : LockP.take L ⟨s, t, 1, r⟩ = if same l n s = true then (add L ⟨s, t, 1, r⟩, 0) else (L, 16) := by
  unfold LockP.take
  cases hsm : same l n s
  · have hc : conflict L ⟨s, t, 1, r⟩ = true := by
      have hn : ¬ ∀ j z, j < n → l[j]? = some z → z = s := fun hh => by rw [← same_iff, hsm] at hh; cases hh
      simp only [Classical.not_forall] at hn
      obtain ⟨j, z, hj, hz, hne⟩ := hn
      exact conflict_iff.2 ⟨⟨z, t, 0, 0⟩, h.2 j z hj hz, hne, rfl, by simp [bars]⟩
    simp [hc]
  · have hc : conflict L ⟨s, t, 1, r⟩ = false := by
      rw [Bool.eq_false_iff]
      intro hc
      obtain ⟨y, hy, hn, _, hb⟩ := conflict_iff.1 hc
      obtain ⟨_, _, j, h4, h5⟩ := h.1 y hy
      exact hn (same_iff.1 hsm j _ h4 h5)
    simp [hc]
theorem writers_read {l : List Int} {t : Int} {n : Nat} {L : List H} {s : Int} (h : Writers l t n L) : LockP.take L ⟨s, t, 0, 0⟩ = if same l n s = true then (add L ⟨s, t, 0, 0⟩, 0) else (L, 16) := by
  unfold LockP.take
  cases hsm : same l n s
  · have hc : conflict L ⟨s, t, 0, 0⟩ = true := by
      have hn : ¬ ∀ j z, j < n → l[j]? = some z → z = s := fun hh => by rw [← same_iff, hsm] at hh; cases hh
      simp only [Classical.not_forall] at hn
      obtain ⟨j, z, hj, hz, hne⟩ := hn
      exact conflict_iff.2 ⟨⟨z, t, 1, z⟩, h.2 j z hj hz, hne, rfl, by simp [bars]⟩
    simp [hc]
  · have hc : conflict L ⟨s, t, 0, 0⟩ = false := by
      rw [Bool.eq_false_iff]
      intro hc
      obtain ⟨y, hy, hn, _, hb⟩ := conflict_iff.1 hc
      obtain ⟨_, _, _, j, h4, h5⟩ := h.1 y hy
      exact hn (same_iff.1 hsm j _ h4 h5)
    simp [hc]
theorem readers_alone {l : List Int} {t r : Int} {n : Nat} {L : List H} {s : Int} (h : Readers l t n L) (hsm : same l n s = true) : (LockP.take (add L ⟨s, t, 1, r⟩) ⟨s, t, 2, 0⟩).2 = 0 := by
  have hc : conflict (add L ⟨s, t, 1, r⟩) ⟨s, t, 2, 0⟩ = false := by
    rw [Bool.eq_false_iff]
    intro hc
    obtain ⟨y, hy, hn, _, hb⟩ := conflict_iff.1 hc
    rcases mem_add.1 hy with hy | rfl
    · obtain ⟨_, _, j, h4, h5⟩ := h.1 y hy
      exact hn (same_iff.1 hsm j _ h4 h5)
    · exact hn rfl
  unfold LockP.take
  simp [hc]
end Go.Proofs.Yteccbihjkolpcaa
