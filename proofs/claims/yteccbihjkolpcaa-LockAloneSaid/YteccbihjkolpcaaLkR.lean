import Derived.Test.YteccbihjkolpcaaLkO
set_option linter.unusedVariables false
set_option linter.unusedSimpArgs false
namespace Go.Proofs.Yteccbihjkolpcaa
open Go.RowKit Go.Maps LockP

/-- What has turned lies in the blocks F, or is new. -/
structure Turn (F : Nat → Prop) (w w' : World) : Prop where
  os : w'.os = w.os
  tape : w'.tape = w.tape
  output : w'.output = w.output
  size : w.heap.size ≤ w'.heap.size
  block : ∀ k, k < w.heap.size → ¬ F k → w'.heap[k]? = w.heap[k]?

theorem Turn.of_below {F : Nat → Prop} {w w' : World} (h : Below w.heap.size w w') : Turn F w w' := ⟨h.os, h.tape, h.output, h.size, fun k hk _ => h.block k hk⟩
theorem Turn.trans {F F' : Nat → Prop} {a b c : World} (h : Turn F a b) (k : Turn F' b c) (hF : ∀ i, F' i → F i ∨ a.heap.size ≤ i) : Turn F a c :=
  ⟨k.os.trans h.os, k.tape.trans h.tape, k.output.trans h.output, Nat.le_trans h.size k.size, fun i hi hn => (k.block i (Nat.lt_of_lt_of_le hi h.size) (fun hf => by
    rcases hF i hf with h1 | h1
    · exact hn h1
    · omega)).trans (h.block i hi hn)⟩
theorem Turn.of_grown {F : Nat → Prop} {w w' : World} {row : Option Nat} (h : w.grownBy w' row) (hr : ∀ b, row = some b → F b ∨ w.heap.size ≤ b) : Turn F w w' :=
  ⟨h.os, h.tape, h.output, h.size, fun k hk hn => h.block k hk (fun e => by
    rcases hr k e.symm with h1 | h1
    · exact hn h1
    · omega)⟩
theorem Turn.of_map {F : Nat → Prop} {w w' : World} {b : Nat} (h : w.mapTurned w' b) (hb : F b ∨ w.heap.size ≤ b) : Turn F w w' :=
  Turn.of_grown h.grown (fun b' e => by cases e; exact hb)

theorem own_tight {k : TypeId} {R : Value → Option (DataW Unit × List MemPlace)} {w : World} {b n : Nat} {D : DataW Unit} (h : w.ownsMap Try.prog k R b n D) : w.ownsMap Try.prog k R b (Maps.size D) D := by
  obtain ⟨es, clock, hb, F, hs, rfl⟩ := h
  exact ⟨es, clock, hb, F, by simp [Maps.size, length_sorted], rfl⟩
theorem own_block {k : TypeId} {R : Value → Option (DataW Unit × List MemPlace)} {w w' : World} {b n : Nat} {D : DataW Unit} (h : w.ownsMap Try.prog k R b n D) (hb : w'.heap[b]? = w.heap[b]?) : w'.ownsMap Try.prog k R b n D := by
  obtain ⟨es, clock, h1, r⟩ := h
  exact ⟨es, clock, hb.trans h1, r⟩

theorem rep_final {w w' : World} {a : Addr} {F : Nat → Prop} {N bm b n n' : Nat} {D D' E' : DataW Unit} {L : List H} {x : H} (hrep : Rep w a F N L) (hx : WfH x)
    (hin : ∀ s, wf s → Maps.has D (.int .i64 s) = true → ∃ b : Nat, (∀ zd, D.atKey (.int .i64 s) zd = .lit (.int .i64 b)) ∧ b ≠ bm ∧ F b ∧ Inner w b s L)
    (hout : ∀ s, wf s → Maps.has D (.int .i64 s) = false → held L s = 0)
    (hinj : ∀ s s' (b : Nat), wf s → wf s' → Maps.has D (.int .i64 s) = true → Maps.has D (.int .i64 s') = true → (∀ zd, D.atKey (.int .i64 s) zd = .lit (.int .i64 b)) → (∀ zd, D.atKey (.int .i64 s') zd = .lit (.int .i64 b)) → s = s')
    (hsz : w.heap.size ≤ w'.heap.size) (hbs : b < w'.heap.size) (hbms : bm < w'.heap.size) (hc : w'.cell? a = some (.map (some bm))) (hfr : w'.frozen? a = false) (hba : bm ≠ a.block)
    (keep : ∀ i, F i → i ≠ bm → i ≠ b → i ≠ a.block → w'.heap[i]? = w.heap[i]?)
    (hD : w'.ownsMap Try.prog 3 mapElem bm n D') (hE : w'.ownsMap Try.prog 49 (plainElem Try.prog 4) b n' E') (hbbm : b ≠ bm)
    (hN : Maps.size D' ≤ N + 1)
    (d1 : ∀ s', wf s' → s' ≠ x.s → Maps.has D' (.int .i64 s') = Maps.has D (.int .i64 s') ∧ ∀ zd, D'.atKey (.int .i64 s') zd = D.atKey (.int .i64 s') zd)
    (d2 : ∀ zd, D'.atKey (.int .i64 x.s) zd = .lit (.int .i64 b)) (d3 : Maps.has D' (.int .i64 x.s) = true)
    (d4 : ∀ s', wf s' → s' ≠ x.s → ∀ b' : Nat, Maps.has D (.int .i64 s') = true → (∀ zd, D.atKey (.int .i64 s') zd = .lit (.int .i64 b')) → b' ≠ b ∧ b' ≠ a.block)
    (e1 : ∀ t m r, wf t → wf m → wf r → (Maps.has E' (tk t m r) = true ↔ (⟨x.s, t, m, r⟩ : H) ∈ L ∨ (⟨x.s, t, m, r⟩ : H) = x)) (e2 : Maps.size E' = held (add L x) x.s) :
    Rep w' a (fun i => F i ∨ i = b ∨ i = bm) (N + 1) (add L x) := by
  have atlit : ∀ {D : DataW Unit} {k : Lit} {b1 b2 : Nat}, (∀ zd, D.atKey k zd = .lit (.int .i64 b1)) → (∀ zd, D.atKey k zd = .lit (.int .i64 b2)) → b1 = b2 := by
    intro D k b1 b2 h1 h2
    have := (h1 .nil).symm.trans (h2 .nil)
    simp only [DataW.lit.injEq, Lit.int.injEq, true_and] at this
    omega
  refine ⟨fun h hh => ?_, nodup_add hrep.nodup, Nat.le_trans (length_add L x) (by have := hrep.len; omega), fun i hi => ?_, Or.inl hrep.cell, hfr, Or.inr ⟨bm, hc, hba, Or.inr (Or.inr rfl), D', own_tight hD, hN, ?_, ?_, ?_⟩⟩
  · rcases mem_add.1 hh with h1 | rfl
    · exact hrep.wfs h h1
    · exact hx
  · rcases hi with hi | rfl | rfl
    · exact Nat.lt_of_lt_of_le (hrep.fresh i hi) hsz
    · exact hbs
    · exact hbms
  · intro s ws hs
    by_cases hsx : s = x.s
    · subst hsx
      exact ⟨b, d2, hbbm, Or.inr (Or.inl rfl), E', own_tight hE, fun t m r wt wm wr => by rw [e1 t m r wt wm wr, mem_add], e2⟩
    · obtain ⟨h1, h2⟩ := d1 s ws hsx
      rw [h1] at hs
      obtain ⟨b', g1, g2, g3, E, g4, g5, g6⟩ := hin s ws hs
      obtain ⟨k1, k2⟩ := d4 s ws hsx b' hs g1
      refine ⟨b', fun zd => (h2 zd).trans (g1 zd), g2, Or.inl g3, E, own_block g4 (keep b' g3 g2 k1 k2), fun t m r wt wm wr => ?_, by rw [held_add_other hsx]; exact g6⟩
      rw [g5 t m r wt wm wr, mem_add]
      constructor
      · exact Or.inl
      · rintro (h | h)
        · exact h
        · exact absurd (congrArg H.s h) hsx
  · intro s ws hs
    have hsx : s ≠ x.s := fun e => by rw [e, d3] at hs; cases hs
    rw [held_add_other hsx]
    exact hout s ws (by rw [← (d1 s ws hsx).1]; exact hs)
  · intro s s' b' ws ws' hs hs' h1 h2
    by_cases hsx : s = x.s
    · by_cases hsx' : s' = x.s
      · rw [hsx, hsx']
      · exfalso
        subst hsx
        obtain rfl := atlit h1 d2
        obtain ⟨g1, g2⟩ := d1 s' ws' hsx'
        exact (d4 s' ws' hsx' b' (by rw [← g1]; exact hs') (fun zd => (g2 zd).symm.trans (h2 zd))).1 rfl
    · by_cases hsx' : s' = x.s
      · exfalso
        subst hsx'
        obtain rfl := atlit h2 d2
        obtain ⟨g1, g2⟩ := d1 s ws hsx
        exact (d4 s ws hsx b' (by rw [← g1]; exact hs) (fun zd => (g2 zd).symm.trans (h1 zd))).1 rfl
      · obtain ⟨g1, g2⟩ := d1 s ws hsx
        obtain ⟨g1', g2'⟩ := d1 s' ws' hsx'
        exact hinj s s' b' ws ws' (by rw [← g1]; exact hs) (by rw [← g1']; exact hs') (fun zd => (g2 zd).symm.trans (h1 zd)) (fun zd => (g2' zd).symm.trans (h2 zd))

/-- What a store of a thing does to its session's map. -/
theorem put_thing {E : DataW Unit} {L : List H} {x : H} (hx : WfH x) (hT : Maps.Tidy E) (h : ∀ t m r, wf t → wf m → wf r → (Maps.has E (tk t m r) = true ↔ (⟨x.s, t, m, r⟩ : H) ∈ L)) (hs : Maps.size E = held L x.s) :
    (∀ t m r, wf t → wf m → wf r → (Maps.has (E.put (tk x.t x.m x.r) (.lit (.bool true))) (tk t m r) = true ↔ (⟨x.s, t, m, r⟩ : H) ∈ L ∨ (⟨x.s, t, m, r⟩ : H) = x)) ∧ Maps.size (E.put (tk x.t x.m x.r) (.lit (.bool true))) = held (add L x) x.s := by
  have hk : WideAt.IsKeyLit (tk x.t x.m x.r) := trivial
  refine ⟨fun t m r wt wm wr => ?_, ?_⟩
  · by_cases he : tk t m r = tk x.t x.m x.r
    · obtain ⟨h1, h2, h3⟩ := tk_inj wt wm wr hx.2.1 hx.2.2.1 hx.2.2.2 he
      rw [he, Maps.has_put_same hT.isMap hk]
      simp only [true_iff]
      right
      cases x
      simp_all
    · rw [Maps.has_put_other he, h t m r wt wm wr]
      constructor
      · exact Or.inl
      · rintro (h1 | h1)
        · exact h1
        · exact absurd (by rw [← h1]) he
  · rw [Maps.size_put hT]
    have hx' := h x.t x.m x.r hx.2.1 hx.2.2.1 hx.2.2.2
    have hxe : (⟨x.s, x.t, x.m, x.r⟩ : H) = x := by cases x; rfl
    rw [hxe] at hx'
    by_cases hxL : x ∈ L
    · rw [if_pos (hx'.2 hxL), hs]
      unfold add
      rw [if_pos hxL]
    · rw [if_neg (fun hh => hxL (hx'.1 hh)), hs, held_add_same hxL]
end Go.Proofs.Yteccbihjkolpcaa
