import Derived.Test.YteccbihjkolpcaaLkPl
set_option linter.unusedVariables false
set_option linter.unusedSimpArgs false
namespace Go.Proofs.Yteccbihjkolpcaa
open Go.RowKit Go.Maps LockP Go.Proofs.YteccbihjkolpcaaW.PrintWords

/-- Locks of the call's own; the blocks X are none of theirs. -/
def Al (w1 w : World) (a : Addr) (N : Nat) (L : List H) (X : Nat → Prop) : Prop :=
  ∃ F : Nat → Prop, Rep w a F N L ∧ (∀ i, F i → w1.heap.size ≤ i) ∧ Below w1.heap.size w1 w ∧ ∀ i, X i → ¬ F i ∧ i < w.heap.size

section
variable {w1 w w' : World} {a : Addr} {N : Nat} {L : List H} {X : Nat → Prop}
theorem Al.bel (h : Al w1 w a N L X) : Below w1.heap.size w1 w := by
  obtain ⟨F, h1, h2, h3, h4⟩ := h
  exact h3
theorem Al.below (h : Al w1 w a N L X) (hb : Below w.heap.size w w') : Al w1 w' a N L X := by
  obtain ⟨F, h1, h2, h3, h4⟩ := h
  exact ⟨F, h1.below hb, h2, h3.trans (hb.mono h3.size), fun i hi => ⟨(h4 i hi).1, Nat.lt_of_lt_of_le (h4 i hi).2 hb.size⟩⟩
theorem Al.drew (h : Al w1 w a N L X) : Al w1 w.drew a N L X := h.below (Below.refl _ _).drew
theorem Al.mono {N' : Nat} (h : Al w1 w a N L X) (hN : N ≤ N') : Al w1 w a N' L X := by
  obtain ⟨F, h1, h2⟩ := h
  exact ⟨F, h1.mono hN, h2⟩
theorem Al.grown {X' : Nat → Prop} {row : Option Nat} (h : Al w1 w a N L X) (hg : w.grownBy w' row) (hr : ∀ b, row = some b → (X b ∧ w1.heap.size ≤ b) ∨ w.heap.size ≤ b) (hX : ∀ i, X' i → (X i ∨ w.heap.size ≤ i) ∧ i < w'.heap.size) : Al w1 w' a N L X' := by
  obtain ⟨F, h1, h2, h3, h4⟩ := h
  have ht : Turn (fun i => row = some i) w w' := Turn.of_grown hg (fun b hb => Or.inl hb)
  refine ⟨F, h1.turn ht (fun i hf hi => ?_), h2, h3.grown hg h3.size (fun k hk => ?_), fun i hi => ⟨fun hf => ?_, (hX i hi).2⟩⟩
  · rcases hr i hi with h | h
    · exact (h4 i h.1).1 hf
    · have := h1.fresh i hf; omega
  · rcases hr k hk with h | h
    · exact h.2
    · have := h3.size; omega
  · rcases (hX i hi).1 with h | h
    · exact (h4 i h).1 hf
    · have := h1.fresh i hf; omega
theorem al_post {F : Nat → Prop} {L' : List H} (h1 : Rep w a F N L) (h2 : ∀ i, F i → w1.heap.size ≤ i) (h3 : Below w1.heap.size w1 w) (h4 : ∀ i, X i → ¬ F i ∧ i < w.heap.size) (hp : Post w w' a F (N + 1) L') :
    Al w1 w' a (N + 1) L' X ∧ ∀ i, X i → w'.heap[i]? = w.heap[i]? := by
  obtain ⟨F', g1, g2, g3⟩ := hp
  refine ⟨⟨F', g1, fun i hi => ?_, g3.below h3 h2 h3.size, fun i hi => ⟨fun hf => ?_, Nat.lt_of_lt_of_le (h4 i hi).2 g3.size⟩⟩, fun i hi => g3.block i (h4 i hi).2 (h4 i hi).1⟩
  · rcases g2 i hi with h | h
    · exact h2 i h
    · have := h3.size; omega
  · rcases g2 i hf with h | h
    · exact (h4 i hi).1 h
    · have := (h4 i hi).2; omega
theorem al_new (w1 : World) : Al w1 (w1.alloc (.cells #[.map none] 26)) ⟨w1.heap.size, 0, none⟩ 0 [] (fun _ => False) :=
  ⟨_, rep_new w1, fun i hi => by omega, (Below.refl _ _).alloc (Nat.le_refl _) _, fun i h => h.elim⟩
theorem read_al (h : Al w1 w a N L X) (s t : Int) (ws : wf s) (wt : wf t) (hN : N ≤ 1000) :
    Calls Try.prog 8 #[.pointer (some a), .int .i64 s, .int .i64 t] w fun e w' => e = .returned (.int .i64 (LockP.take L ⟨s, t, 0, 0⟩).2) ∧ Al w1 w' a (N + 1) (LockP.take L ⟨s, t, 0, 0⟩).1 X ∧ ∀ i, X i → w'.heap[i]? = w.heap[i]? := by
  obtain ⟨F, h1, h2, h3, h4⟩ := h
  refine (read_rep w a F N L s t h1 ws wt (small hN)).mono ?_
  rintro e w' ⟨rfl, hp⟩
  exact ⟨rfl, al_post h1 h2 h3 h4 hp⟩
theorem alone_al (h : Al w1 w a N L X) (s t : Int) (ws : wf s) (wt : wf t) (hN : N ≤ 1000) :
    Calls Try.prog 10 #[.pointer (some a), .int .i64 s, .int .i64 t] w fun e w' => e = .returned (.int .i64 (LockP.take L ⟨s, t, 2, 0⟩).2) ∧ Al w1 w' a (N + 1) (LockP.take L ⟨s, t, 2, 0⟩).1 X ∧ ∀ i, X i → w'.heap[i]? = w.heap[i]? := by
  obtain ⟨F, h1, h2, h3, h4⟩ := h
  refine (alone_rep w a F N L s t h1 ws wt (small hN)).mono ?_
  rintro e w' ⟨rfl, hp⟩
  exact ⟨rfl, al_post h1 h2 h3 h4 hp⟩
theorem write_al (h : Al w1 w a N L X) (s t r : Int) (ws : wf s) (wt : wf t) (wr : wf r) (hN : N ≤ 1000) :
    Calls Try.prog 9 #[.pointer (some a), .int .i64 s, .int .i64 t, .int .i64 r] w fun e w' => e = .returned (.int .i64 (LockP.take L ⟨s, t, 1, r⟩).2) ∧ Al w1 w' a (N + 1) (LockP.take L ⟨s, t, 1, r⟩).1 X ∧ ∀ i, X i → w'.heap[i]? = w.heap[i]? := by
  obtain ⟨F, h1, h2, h3, h4⟩ := h
  refine (write_rep w a F N L s t r h1 ws wt wr (small hN)).mono ?_
  rintro e w' ⟨rfl, hp⟩
  exact ⟨rfl, al_post h1 h2 h3 h4 hp⟩
theorem release_al (h : Al w1 w a N L X) (s : Int) (ws : wf s) (hN : N ≤ 1000) :
    Calls Try.prog 11 #[.pointer (some a), .int .i64 s] w fun e w' => e = .returned (.int .i64 (held L s)) ∧ Al w1 w' a (N + 1) (without L s) X ∧ ∀ i, X i → w'.heap[i]? = w.heap[i]? := by
  obtain ⟨F, h1, h2, h3, h4⟩ := h
  refine (release_rep w a F N L s h1 ws (small hN)).mono ?_
  rintro e w' ⟨rfl, hp⟩
  exact ⟨rfl, al_post h1 h2 h3 h4 hp⟩
theorem held_al (h : Al w1 w a N L X) (s : Int) (ws : wf s) :
    Calls Try.prog 15 #[.pointer (some a), .int .i64 s] w fun e w' => e = .returned (.int .i64 (held L s)) ∧ w = w' := by
  obtain ⟨F, h1, h2, h3, h4⟩ := h
  exact held_rep w a F N L s h1 ws
end

/-- The sessions that have been gathered, in a row of the call's own. -/
def Row (w1 w : World) (v : Value) (xs : List Int) : Prop := w.ownsRow w1.heap.size 3 1 v xs.length (nums .i64 xs)
def Of (v : Value) (i : Nat) : Prop := v.ownBlock = some i

theorem Row.move {w1 w w' : World} {v : Value} {xs : List Int} (h : Row w1 w v xs) (hm : ∀ k, Of v k → w'.heap[k]? = w.heap[k]?) : Row w1 w' v xs := own_move h hm
theorem Row.reads {w1 w : World} {v : Value} {xs : List Int} (h : Row w1 w v xs) : ∃ A c, v = .slice A xs.length c := by
  obtain ⟨A, c, h1, h2⟩ := own_reads h
  exact ⟨A, c, h1⟩
theorem Row.cell {w1 w : World} {A : Option Addr} {n c : Nat} {xs : List Int} (h : Row w1 w (.slice A n c) xs) {k : Nat} {x : Int} (hk : xs[k]? = some x) : ∃ ad, A = some ad ∧ w.cell? (ad.add k) = some (.int .i64 x) := by
  obtain ⟨A', c', h1, h2⟩ := own_reads h
  injection h1 with e1 e2 e3
  subst e1
  have hl := (List.getElem?_eq_some_iff.1 hk).1
  obtain ⟨ad, h3, h4⟩ := h2.2.2 (by omega)
  refine ⟨ad, h3, ?_⟩
  rw [h4 k hl, List.getD_eq_getElem?_getD, hk]
  rfl
theorem info3 : (Try.prog.info? 3).map (fun i => (i.zero, i.size, i.bytes)) = some (some (.int .i64 0), 1, 8) := by kernel_rfl
theorem law43 : Keyed Try.prog 3 := law3

/-- The map of the sessions that have been seen. -/
def Seen (w : World) (bs : Nat) (xs : List Int) : Prop :=
  ∃ D : DataW Unit, w.ownsMap Try.prog 3 (plainElem Try.prog 4) bs (Maps.size D) D ∧ Maps.size D ≤ xs.length ∧ ∀ s, wf s → D.atKey (.int .i64 s) (.lit (.bool false)) = .lit (.bool (decide (s ∈ xs)))
theorem Seen.move {w w' : World} {bs : Nat} {xs : List Int} (h : Seen w bs xs) (hb : w'.heap[bs]? = w.heap[bs]?) : Seen w' bs xs := by
  obtain ⟨D, h1, h2⟩ := h
  exact ⟨D, own_block h1 hb, h2⟩
theorem Seen.look {w : World} {bs : Nat} {xs : List Int} (h : Seen w bs xs) {s : Int} (ws : wf s) : (Instr.lookup 43 (.map (some bs)) (.int .i64 s) false).run Try.prog w = .ok (.bool (decide (s ∈ xs))) w := by
  obtain ⟨D, h1, h2, h3⟩ := h
  obtain ⟨v, ps, hrun, hv⟩ := h1.lookup law3 Try.underlying43 (zero4 w) (plainElem_bool Try.underlying4 false) (keyOf_int_mk Try.underlying3 ws)
  rw [h3 s ws] at hv
  obtain ⟨c, rfl⟩ := invV4 v _ hv
  rw [plainElem_bool Try.underlying4] at hv
  simp only [Option.some.injEq, Prod.mk.injEq, DataW.lit.injEq, Lit.bool.injEq] at hv
  rw [hrun, hv.1]
theorem seen_new (w : World) : Seen (w.alloc (.map #[] 0)) w.heap.size [] :=
  ⟨.map [], World.ownsMap_made w Try.prog 3 (plainElem Try.prog 4), Nat.le_refl _, fun s _ => by simp [DataW.atKey]⟩
theorem seen_lt {w : World} {bs : Nat} {xs : List Int} (h : Seen w bs xs) : bs < w.heap.size := by
  obtain ⟨D, h1, _⟩ := h
  exact h1.lt
theorem seen_put {w w' : World} {bs n : Nat} {xs : List Int} {s : Int} {D : DataW Unit} (h1 : w.ownsMap Try.prog 3 (plainElem Try.prog 4) bs (Maps.size D) D) (h2 : Maps.size D ≤ xs.length) (h3 : ∀ s, wf s → D.atKey (.int .i64 s) (.lit (.bool false)) = .lit (.bool (decide (s ∈ xs))))
    (ws : wf s) (hw : w'.ownsMap Try.prog 3 (plainElem Try.prog 4) bs n (D.put (.int .i64 s) (.lit (.bool true)))) : Seen w' bs (xs ++ [s]) := by
  have hT := h1.tidy law3
  refine ⟨_, own_tight hw, ?_, fun z wz => ?_⟩
  · rw [Maps.size_put hT, List.length_append]
    split <;> simp <;> omega
  · by_cases hz : z = s
    · rw [hz, Maps.atKey_put_same hT.isMap (show WideAt.IsKeyLit (.int .i64 s) from trivial)]
      simp
    · rw [Maps.atKey_put_other (by simpa using hz), h3 z wz]
      simp [hz]

/-- At most one of them writes the row. -/
def OneW (L : List H) (t r : Int) (xs : List Int) (c : Nat) : Prop := c = 0 ∨ (c = 1 ∧ ∃ s ∈ xs, (⟨s, t, 1, r⟩ : H) ∈ L)
theorem oneW_conflict {L : List H} {t r s : Int} {xs : List Int} (h : OneW L t r xs 1) (hs : s ∉ xs) : conflict L ⟨s, t, 1, r⟩ = true := by
  rcases h with h | ⟨_, s0, h0, h1⟩
  · omega
  · exact conflict_iff.2 ⟨_, h1, fun e => hs (by simp only at e; rw [← e]; exact h0), rfl, by simp [bars]⟩
theorem oneW_more {L : List H} {t r : Int} {xs : List Int} {c : Nat} (h : OneW L t r xs c) (s : Int) : OneW L t r (xs ++ [s]) c := by
  rcases h with h | ⟨h, s0, h0, h1⟩
  · exact Or.inl h
  · exact Or.inr ⟨h, s0, by simp [h0], h1⟩
end Go.Proofs.Yteccbihjkolpcaa
