/-
  A region that draws its order, walked once in the order of the text, though its operations make memory: each operation has a type, a fact on what it yields that no later operation of the region undoes.
-/
import Derived.StillTail
import Derived.Below
namespace Go.Ty
open Go Go.RowKit

section
variable {P : Program}

/-- What is asked once an operation has yielded this. -/
def tyUpon (P : Program) (F : Value → World → Prop) : Result Next → Prop
  | .ok (.value u) w' => F u w'
  | .ok .skip w' => F undef w'
  | .ok (.enter f args) w' => Calls P f args w' fun e w'' => ∃ v, e = .returned v ∧ F v w''
  | _ => False
def tyAt (P : Program) (o : Oper) (a : Act) (w : World) (F : Value → World → Prop) : Prop := tyUpon P F ((execOp a.eval o).run P w)

theorem wp_of_tyAt {o : Oper} {a : Act} {w : World} {F : Value → World → Prop} {K : Act → World → Prop} {Q : Exit → Act → World → Prop} (h : tyAt P o a w F) (hk : ∀ v w', F v w' → K (a.put o.dst v) w') : o.wp P a w K Q := by
  unfold tyAt at h
  unfold Oper.wp
  generalize (execOp a.eval o).run P w = r at *
  cases r with
  | ok n w' =>
    cases n <;> simp only [tyUpon] at h <;> simp only [Oper.upon]
    case value u => exact hk _ _ h
    case skip => exact hk _ _ h
    case enter f args =>
      refine h.mono ?_
      rintro e w'' ⟨v, rfl, hf⟩
      exact hk _ _ hf
  | halt x w' => simp only [tyUpon] at h

/-- A type of what is yielded; whether it is an address that was not there before. -/
structure T where
  p : Value → World → Prop
  fresh : Bool
def blk : Value → Nat
  | .pointer (some a) => a.block
  | _ => 0
def Stable (t : T) : Prop := ∀ v w w', Below w.heap.size w w' → t.p v w → t.p v w'
def Post (t : T) (w : World) (v : Value) (w' : World) : Prop := Below w.heap.size w w' ∧ t.p v w' ∧ (t.fresh = true → w.heap.size ≤ blk v ∧ blk v < w'.heap.size)
def kn (x : Value) : T := ⟨fun v _ => v = x, false⟩
def Apart (G : List T) (vs : Nat → Value) : Prop := ∀ (i j : Nat) t u, i ≠ j → G[i]? = some t → G[j]? = some u → t.fresh = true → u.fresh = true → blk (vs i) ≠ blk (vs j)

def Deps (o : Oper) (G : List T) (vs : Nat → Value) (w : World) : Prop := ∀ e ∈ o.after, Region.binds .any e = true → ∀ t, G[e.on]? = some t → t.p (vs e.on) w
def Step (P : Program) (ops : Array Oper) (w0 : World) (o : Oper) (A : (Nat → Value) → Act) (G : List T) (t : T) : Prop :=
  ∀ vs w, Below w0.heap.size w0 w → Deps o G vs w → if Region.wanted o (yielded ops (A vs).tmps) = true then tyAt P o (A vs) w (Post t w) else t.p undef w ∧ t.fresh = false

/-- The walk of the head, in the order of the text. -/
def walk (P : Program) (ops : Array Oper) (w0 : World) (fin : Act → World → Prop) : List Oper → ((Nat → Value) → Act) → List T → Prop
  | [], A, G => ∀ vs w, Below w0.heap.size w0 w → (∀ (j : Nat) t, G[j]? = some t → t.p (vs j) w) → Apart G vs → fin (A vs) w
  | o :: rest, A, G => ∃ (t : T) (C : Value → Prop) (A' : (Nat → Value) → Act), (∀ vs, C (vs G.length) → A' vs = (A vs).put o.dst (vs G.length)) ∧ (∃ v, C v) ∧ (∀ v w, t.p v w → C v) ∧ Stable t ∧ Step P ops w0 o A G t ∧
      walk P ops w0 fin rest A' (G ++ [t])

section
variable {ops : Array Oper} {w0 : World} {fin : Act → World → Prop} {o : Oper} {rest : List Oper} {A : (Nat → Value) → Act} {G : List T}
/-- Its value is known. -/
theorem exact_ (x : Value) (h : Step P ops w0 o A G (kn x)) (k : walk P ops w0 fin rest (fun vs => (A vs).put o.dst x) (G ++ [kn x])) : walk P ops w0 fin (o :: rest) A G :=
  ⟨_, fun v => v = x, _, fun vs hv => by rw [hv], ⟨x, rfl⟩, fun _ _ h => h, fun _ _ _ _ h => h, h, k⟩
/-- Of its value a fact is known. -/
theorem typed (t : T) (hs : Stable t) (h : Step P ops w0 o A G t) (k : walk P ops w0 fin rest (fun vs => (A vs).put o.dst (vs G.length)) (G ++ [t])) : walk P ops w0 fin (o :: rest) A G :=
  ⟨t, fun _ => True, _, fun _ _ => rfl, ⟨undef, trivial⟩, fun _ _ _ => trivial, hs, h, k⟩
end

theorem Deps.get {o : Oper} {G : List T} {vs : Nat → Value} {w : World} (h : Deps o G vs w) (i : Nat) {e : Edge} {t : T} (he : o.after[i]? = some e) (hb : Region.binds .any e = true) (ht : G[e.on]? = some t) : t.p (vs e.on) w :=
  h e (Array.mem_of_getElem? he) hb t ht
section
variable {ops : Array Oper} {w0 : World} {fin : Act → World → Prop} {o : Oper} {rest : List Oper} {A : (Nat → Value) → Act} {G : List T}
/-- An operation that leaves the world alone and whose value is known. -/
theorem pure_ (x : Value) (hg : ∀ vs, Region.wanted o (yielded ops (A vs).tmps) = true) (h : ∀ vs w, Below w0.heap.size w0 w → (execOp (A vs).eval o).run P w = .ok (.value x) w) (k : walk P ops w0 fin rest (fun vs => (A vs).put o.dst x) (G ++ [kn x])) : walk P ops w0 fin (o :: rest) A G :=
  exact_ x (fun vs w hb _ => by
    rw [if_pos (hg vs)]
    unfold tyAt
    rw [h vs w hb]
    exact ⟨Below.refl _ _, rfl, fun h => by cases h⟩) k
/-- A call. -/
theorem call_ (p : Value → World → Prop) (hs : ∀ v w w', Below w.heap.size w w' → p v w → p v w') (hg : ∀ vs, Region.wanted o (yielded ops (A vs).tmps) = true)
    (h : ∀ vs w, Below w0.heap.size w0 w → Deps o G vs w → tyAt P o (A vs) w fun v w' => Below w.heap.size w w' ∧ p v w')
    (k : walk P ops w0 fin rest (fun vs => (A vs).put o.dst (vs G.length)) (G ++ [⟨p, false⟩])) : walk P ops w0 fin (o :: rest) A G :=
  typed ⟨p, false⟩ hs (fun vs w hb hd => by
    rw [if_pos (hg vs)]
    have := h vs w hb hd
    unfold tyAt at this ⊢
    generalize (execOp (A vs).eval o).run P w = r at *
    cases r with
    | ok n w' =>
      cases n <;> simp only [tyUpon] at this ⊢
      case value u => exact ⟨this.1, this.2, fun h => by cases h⟩
      case skip => exact ⟨this.1, this.2, fun h => by cases h⟩
      case enter f args =>
        refine this.mono ?_
        rintro e w'' ⟨v, he, h1, h2⟩
        exact ⟨v, he, h1, h2, fun h => by cases h⟩
    | halt x w' => simp only [tyUpon] at this) k
/-- A new variable. -/
theorem alloc_ (cs : Array Value) (tt : TypeId) (hg : ∀ vs, Region.wanted o (yielded ops (A vs).tmps) = true)
    (h : ∀ vs w, (execOp (A vs).eval o).run P w = .ok (.value (.pointer (some ⟨w.heap.size, 0, none⟩))) (w.alloc (.cells cs tt (0, 0))))
    (k : walk P ops w0 fin rest (fun vs => (A vs).put o.dst (vs G.length)) (G ++ [⟨fun v w => ∃ b, v = .pointer (some ⟨b, 0, none⟩) ∧ w0.heap.size ≤ b ∧ w.heap[b]? = some (.cells cs tt (0, 0)), true⟩])) : walk P ops w0 fin (o :: rest) A G :=
  typed ⟨fun v w => ∃ b, v = .pointer (some ⟨b, 0, none⟩) ∧ w0.heap.size ≤ b ∧ w.heap[b]? = some (.cells cs tt (0, 0)), true⟩
    (fun v w w' hb ⟨b, h1, h2, h3⟩ => ⟨b, h1, h2, (hb.block b (by
      rcases Nat.lt_or_ge b w.heap.size with h | h
      · exact h
      · rw [Array.getElem?_eq_none h] at h3; cases h3)).trans h3⟩)
    (fun vs w hb hd => by
      rw [if_pos (hg vs)]
      unfold tyAt
      rw [h vs w]
      exact ⟨(Below.refl _ _).alloc (Nat.le_refl _) _, ⟨w.heap.size, rfl, hb.size, heap_alloc_new w _⟩, fun _ => ⟨Nat.le_refl _, by simp [blk]⟩⟩) k
end

def puts (a : Act) : List Oper → Nat → (Nat → Value) → Act
  | [], _, _ => a
  | o :: l, k, vs => puts (a.put o.dst (vs k)) l (k + 1) vs

theorem spec {ops : Array Oper} {w0 : World} {fin : Act → World → Prop} : ∀ (l : List Oper) (A : (Nat → Value) → Act) (G : List T), walk P ops w0 fin l A G →
    ∃ (Ts : List T) (Cs : List (Value → Prop)), Ts.length = l.length ∧ Cs.length = l.length ∧ (∀ (i : Nat) (C : Value → Prop), Cs[i]? = some C → ∃ v, C v) ∧
      (∀ (i : Nat) (t : T) (C : Value → Prop), Ts[i]? = some t → Cs[i]? = some C → (∀ v w, t.p v w → C v) ∧ Stable t) ∧
      (∀ (i : Nat) (o : Oper) (t : T), l[i]? = some o → Ts[i]? = some t → ∀ (vs : Nat → Value) (w : World), (∀ (j : Nat) (C : Value → Prop), Cs[j]? = some C → C (vs (G.length + j))) → Below w0.heap.size w0 w → Deps o (G ++ Ts.take i) vs w →
        if Region.wanted o (yielded ops (puts (A vs) (l.take i) G.length vs).tmps) = true then tyAt P o (puts (A vs) (l.take i) G.length vs) w (Post t w) else t.p undef w ∧ t.fresh = false) ∧
      (∀ (vs : Nat → Value) (w : World), (∀ (j : Nat) (C : Value → Prop), Cs[j]? = some C → C (vs (G.length + j))) → Below w0.heap.size w0 w → (∀ (j : Nat) t, (G ++ Ts)[j]? = some t → t.p (vs j) w) → Apart (G ++ Ts) vs → fin (puts (A vs) l G.length vs) w)
  | [], A, G, h => ⟨[], [], rfl, rfl, by simp, by simp, by simp, fun vs w _ hb hg ha => h vs w hb (by simpa using hg) (by simpa using ha)⟩
  | o :: rest, A, G, h => by
    obtain ⟨t, C, A', hA, hC, htC, hst, hstep, hw⟩ := h
    obtain ⟨Ts, Cs, h1, h2, h3, h4, h5, h6⟩ := spec rest A' (G ++ [t]) hw
    have hlen : (G ++ [t]).length = G.length + 1 := by simp
    have hvs : ∀ vs : Nat → Value, (∀ (j : Nat) C', (C :: Cs)[j]? = some C' → C' (vs (G.length + j))) → (∀ (j : Nat) C', Cs[j]? = some C' → C' (vs ((G ++ [t]).length + j))) ∧ A' vs = (A vs).put o.dst (vs G.length) := fun vs hv => by
      refine ⟨fun j C' hj => ?_, hA vs (by simpa using hv 0 C rfl)⟩
      have := hv (j + 1) C' (by simpa using hj)
      rw [hlen]
      rwa [show G.length + (j + 1) = G.length + 1 + j by omega] at this
    refine ⟨t :: Ts, C :: Cs, by simp [h1], by simp [h2], ?_, ?_, ?_, ?_⟩
    · intro i C' hi
      cases i with
      | zero => simp at hi; subst hi; exact hC
      | succ i => exact h3 i C' (by simpa using hi)
    · intro i t' C' hi hi'
      cases i with
      | zero => simp at hi hi'; subst hi; subst hi'; exact ⟨htC, hst⟩
      | succ i => exact h4 i t' C' (by simpa using hi) (by simpa using hi')
    · intro i o' t' hi hi' vs w hv hb hd
      cases i with
      | zero =>
        simp at hi hi'
        subst hi; subst hi'
        simpa [puts] using hstep vs w hb (by simpa using hd)
      | succ i =>
        obtain ⟨hv', hAA⟩ := hvs vs hv
        have := h5 i o' t' (by simpa using hi) (by simpa using hi') vs w hv' hb (by simpa using hd)
        rw [hAA, hlen] at this
        simpa [puts] using this
    · intro vs w hv hb hg ha
      obtain ⟨hv', hAA⟩ := hvs vs hv
      have := h6 vs w hv' hb (by simpa using hg) (by simpa using ha)
      rw [hAA, hlen] at this
      simpa [puts] using this

/-! ### The state of a walk in whatever order -/
structure Agr (a0 : Act) (ops : Array Oper) (L : Nat → Bool) (vs : Nat → Value) (a : Act) : Prop where
  defers : a.defers = a0.defers
  size : a.tmps.size = a0.tmps.size
  on : ∀ (j : Nat) o d, ops[j]? = some o → o.dst = some d → L j = true → d < a0.tmps.size → a.tmps[d]? = some (vs j)
  off : ∀ t, (∀ (j : Nat) o, ops[j]? = some o → L j = true → o.dst ≠ some t) → a.tmps[t]? = a0.tmps[t]?

def Dist (ops : Array Oper) (n : Nat) : Prop := ∀ i j oi oj d, i < n → j < n → ops[i]? = some oi → ops[j]? = some oj → oi.dst = some d → oj.dst = some d → i = j

theorem Agr.start (a0 : Act) (ops : Array Oper) (L : Nat → Bool) (hL : ∀ j, L j = false) (vs : Nat → Value) : Agr a0 ops L vs a0 :=
  ⟨rfl, rfl, fun j _ _ _ _ h => (by rw [hL] at h; cases h), fun _ _ => rfl⟩

theorem Agr.put {a0 a : Act} {ops : Array Oper} {n : Nat} {L L' : Nat → Bool} {vs vs' : Nat → Value} {k : Nat} {o : Oper} {v : Value} (hD : Dist ops n) (h : Agr a0 ops L vs a) (ho : ops[k]? = some o) (hk : k < n)
    (hLn : ∀ j, L j = true → j < n) (hkL : L k = false) (hL' : ∀ j, L' j = (L j || decide (j = k))) (hv : vs' k = v) (hvs : ∀ j, j ≠ k → vs' j = vs j) : Agr a0 ops L' vs' (a.put o.dst v) := by
  cases hd : o.dst with
  | none =>
    refine ⟨h.defers, h.size, fun j oj d hoj hdj hj hsz => ?_, fun t ht => ?_⟩
    · rw [hL'] at hj
      by_cases hjk : j = k
      · subst hjk
        rw [ho] at hoj
        injection hoj with e
        subst e
        rw [hd] at hdj; cases hdj
      · rw [hvs j hjk]
        exact h.on j oj d hoj hdj (by simpa [hjk] using hj) hsz
    · exact h.off t fun j oj hoj hj => ht j oj hoj (by rw [hL', hj]; rfl)
  | some dk =>
    refine ⟨h.defers, by simp [Act.put, h.size], fun j oj d hoj hdj hj hsz => ?_, fun t ht => ?_⟩
    · rw [hL'] at hj
      by_cases hjk : j = k
      · subst hjk
        rw [ho] at hoj
        injection hoj with e
        subst e
        rw [hd] at hdj
        injection hdj with e2
        subst e2
        simp [Act.put, h.size, hsz, hv]
      · have hjL : L j = true := by simpa [hjk] using hj
        rw [hvs j hjk]
        have hne : dk ≠ d := fun e => hjk (hD j k oj o d (hLn j hjL) hk hoj ho hdj (by rw [hd, e]))
        simp only [Act.put]
        rw [Array.getElem?_setIfInBounds_ne hne]
        exact h.on j oj d hoj hdj hjL hsz
    · have hne : dk ≠ t := fun e => ht k o ho (by rw [hL']; simp) (by rw [hd, e])
      simp only [Act.put]
      rw [Array.getElem?_setIfInBounds_ne hne]
      exact h.off t fun j oj hoj hj => ht j oj hoj (by rw [hL', hj]; rfl)

theorem agr_puts {a0 : Act} {ops : Array Oper} {n : Nat} (hD : Dist ops n) (vs : Nat → Value) : ∀ (l : List Oper) (a : Act) (k : Nat) (L : Nat → Bool), (∀ j, L j = decide (j < k)) → (∀ j, j < l.length → l[j]? = ops[k + j]?) → k + l.length ≤ n → n ≤ ops.size → Agr a0 ops L vs a →
    Agr a0 ops (fun j => decide (j < k + l.length)) vs (puts a l k vs)
  | [], a, k, L, hL, _, _, _, h => by
    have : L = fun j => decide (j < k) := funext hL
    subst this
    simpa [puts] using h
  | o :: l, a, k, L, hL, hl, hn, hs, h => by
    have h0 : ops[k]? = some o := by simpa using (hl 0 (by simp)).symm
    simp only [List.length_cons] at hn
    have := agr_puts hD vs l (a.put o.dst (vs k)) (k + 1) (fun j => decide (j < k + 1)) (fun _ => rfl) (fun j hj => by have := hl (j + 1) (by simp; omega); simpa [Nat.add_assoc, Nat.add_comm 1 j] using this) (by omega) hs
      (Agr.put hD h h0 (by omega) (fun j hj => by rw [hL] at hj; have := of_decide_eq_true hj; omega) (by rw [hL]; simp) (fun j => by rw [hL, Bool.eq_iff_iff]; simp; omega) rfl (fun _ _ => rfl))
    simpa [puts, Nat.add_assoc, Nat.add_comm 1 l.length] using this

theorem Agr.eval {a0 a b : Act} {ops : Array Oper} {L M : Nat → Bool} {vs : Nat → Value} (h : Agr a0 ops L vs a) (k : Agr a0 ops M vs b) (t : Tmp) (ht : ∀ (j : Nat) o, ops[j]? = some o → o.dst = some t → L j = true ∧ M j = true) : a.tmps[t]? = b.tmps[t]? := by
  by_cases hx : ∃ (j : Nat) (o : Oper), ops[j]? = some o ∧ o.dst = some t
  · obtain ⟨j, o, ho, hd⟩ := hx
    obtain ⟨h1, h2⟩ := ht j o ho hd
    by_cases hs : t < a0.tmps.size
    · rw [h.on j o t ho hd h1 hs, k.on j o t ho hd h2 hs]
    · rw [Array.getElem?_eq_none (by rw [h.size]; exact Nat.le_of_not_lt hs), Array.getElem?_eq_none (by rw [k.size]; exact Nat.le_of_not_lt hs)]
  · rw [h.off t fun j o ho _ hd => hx ⟨j, o, ho, hd⟩, k.off t fun j o ho _ hd => hx ⟨j, o, ho, hd⟩]
theorem Agr.ext {a0 a b : Act} {ops : Array Oper} {L : Nat → Bool} {vs : Nat → Value} (h : Agr a0 ops L vs a) (k : Agr a0 ops L vs b) : a = b := by
  have : a.tmps = b.tmps := by
    apply Array.ext_getElem?
    intro t
    by_cases hx : ∃ (j : Nat) (o : Oper), ops[j]? = some o ∧ L j = true ∧ o.dst = some t
    · obtain ⟨j, o, ho, hl, hd⟩ := hx
      by_cases hs : t < a0.tmps.size
      · rw [h.on j o t ho hd hl hs, k.on j o t ho hd hl hs]
      · rw [Array.getElem?_eq_none (by rw [h.size]; exact Nat.le_of_not_lt hs), Array.getElem?_eq_none (by rw [k.size]; exact Nat.le_of_not_lt hs)]
    · rw [h.off t fun j o ho hl hd => hx ⟨j, o, ho, hl, hd⟩, k.off t fun j o ho hl hd => hx ⟨j, o, ho, hl, hd⟩]
  cases a; cases b
  simp only at this
  subst this
  have h1 := h.defers
  have h2 := k.defers
  simp only at h1 h2
  rw [h1, h2]

/-! ### What is asked of the region's edges -/
def topoB (ops : Array Oper) (n : Nat) : Bool := (List.range n).all fun i => match ops[i]? with
  | some o => o.after.toList.all fun e => !Region.binds .any e || decide (e.on < i)
  | none => false
def looksB (ops : Array Oper) (n : Nat) : Bool := (List.range n).all fun i => match ops[i]? with
  | some o => (List.range ops.size).all fun j => match (ops[j]?).bind (·.dst) with
    | some d => !(o.looksAt ops).contains d || Region.waitsFor .any ops i j
    | none => true
  | none => false
def distB (ops : Array Oper) (n : Nat) : Bool := (List.range n).all fun i => match (ops[i]?).bind (·.dst) with
  | some d => (List.range n).all fun j => decide (i = j) || (ops[j]?).bind (·.dst) != some d
  | none => true
def tyB (ops : Array Oper) (n : Nat) : Bool :=
  Region.noSelect ops && decide (n ≤ ops.size) && topoB ops n && looksB ops n && distB ops n && (decide (n = ops.size) || (Region.sinkB .any ops n && Region.chainB .any ops n)) &&
    Region.seqB .any ops (ops.size - n) n (Array.replicate n true ++ Array.replicate (ops.size - n) false)

theorem topo_spec {ops : Array Oper} {n : Nat} (h : topoB ops n = true) {i : Nat} {o : Oper} (hi : i < n) (ho : ops[i]? = some o) {e : Edge} (he : e ∈ o.after) (hb : Region.binds .any e = true) : e.on < i := by
  have h1 := List.all_eq_true.1 h i (List.mem_range.2 hi)
  rw [ho] at h1
  have h2 := List.all_eq_true.1 h1 e (by simpa using he)
  simpa [hb] using h2
theorem looks_spec {ops : Array Oper} {n : Nat} (h : looksB ops n = true) {i j : Nat} {o oj : Oper} {d : Tmp} (hi : i < n) (ho : ops[i]? = some o) (hj : ops[j]? = some oj) (hd : oj.dst = some d) (hl : d ∈ o.looksAt ops) : ∃ e ∈ o.after, Region.binds .any e = true ∧ e.on = j := by
  have h1 := List.all_eq_true.1 h i (List.mem_range.2 hi)
  rw [ho] at h1
  have h2 := List.all_eq_true.1 h1 j (List.mem_range.2 (Array.getElem?_eq_some_iff.1 hj).1)
  rw [hj] at h2
  simp only [Option.bind_some, hd] at h2
  have hc : (o.looksAt ops).contains d = true := by simpa using hl
  rw [hc] at h2
  obtain ⟨o', ho', e, he, hb, hon⟩ := Region.waitsFor_spec (by simpa using h2)
  have : o' = o := Option.some.inj (ho'.symm.trans ho)
  subst this
  exact ⟨e, he, hb, hon⟩
theorem dist_spec {ops : Array Oper} {n : Nat} (h : distB ops n = true) : Dist ops n := by
  intro i j oi oj d hi hj hoi hoj hdi hdj
  have h1 := List.all_eq_true.1 h i (List.mem_range.2 hi)
  rw [hoi] at h1
  simp only [Option.bind_some, hdi] at h1
  have h2 := List.all_eq_true.1 h1 j (List.mem_range.2 hj)
  rw [hoj] at h2
  simp only [Option.bind_some, hdj] at h2
  simpa using h2

theorem wanted_congr {ops : Array Oper} {o : Oper} {a b : Act} (h : ∀ d, d ∈ o.looksAt ops → a.tmps[d]? = b.tmps[d]?) : Region.wanted o (yielded ops a.tmps) = Region.wanted o (yielded ops b.tmps) := by
  unfold Region.wanted
  cases hg : o.guard with
  | none => rfl
  | some gw =>
    obtain ⟨g, want⟩ := gw
    have hy : yielded ops a.tmps g = yielded ops b.tmps g := by
      unfold yielded
      cases ht : (ops[g]?).bind (·.dst) with
      | none => rfl
      | some t =>
        have := h t (by simp [Oper.looksAt, hg, ht])
        simp [this]
    simp only [hy]
theorem exec_congr {ops : Array Oper} {o : Oper} {a b : Act} (hs : ∀ cs d, o.op ≠ .select cs d) (h : ∀ d, d ∈ o.looksAt ops → a.tmps[d]? = b.tmps[d]?) : execOp a.eval o = execOp b.eval o :=
  execOp_congr o hs fun x hx => by
    cases x with
    | tmp t =>
      have := h t (List.mem_append_left _ (List.mem_filterMap.2 ⟨.tmp t, by simpa using hx, rfl⟩))
      simp [Act.eval, this]
    | _ => rfl

structure Inv (a0 : Act) (w0 : World) (ops : Array Oper) (n : Nat) (Ts : List T) (Cs : List (Value → Prop)) (listed : Array Bool) (a : Act) (w : World) : Prop where
  head : HeadInv .any ops n listed
  below : Below w0.heap.size w0 w
  vs : ∃ vs, (∀ (j : Nat) C, Cs[j]? = some C → C (vs j)) ∧ Agr a0 ops (fun j => listed.getD j false) vs a ∧ (∀ (j : Nat) t, listed.getD j false = true → Ts[j]? = some t → t.p (vs j) w ∧ (t.fresh = true → blk (vs j) < w.heap.size)) ∧
    ∀ (i j : Nat) t u, listed.getD i false = true → listed.getD j false = true → i ≠ j → Ts[i]? = some t → Ts[j]? = some u → t.fresh = true → u.fresh = true → blk (vs i) ≠ blk (vs j)

def cnt (n : Nat) (listed : Array Bool) : Nat := ((List.range n).filter fun i => !listed.getD i false).length
theorem cnt_zero {n : Nat} {listed : Array Bool} (h : cnt n listed = 0) {i : Nat} (hi : i < n) : listed.getD i false = true := by
  unfold cnt at h
  rw [List.length_eq_zero_iff, List.filter_eq_nil_iff] at h
  have := h i (List.mem_range.2 hi)
  simpa using this
theorem filter_one {l : List Nat} {p q : Nat → Bool} {k : Nat} (hn : l.Nodup) (hk : k ∈ l) (hp : p k = true) (hq : ∀ j, q j = (p j && !decide (j = k))) : (l.filter p).length = (l.filter q).length + 1 := by
  induction l with
  | nil => cases hk
  | cons x l ih =>
    obtain ⟨hx, hn'⟩ := List.nodup_cons.1 hn
    by_cases hxk : x = k
    · subst hxk
      have he : l.filter q = l.filter p := List.filter_congr fun y hy => by
        have : y ≠ x := fun e => hx (e ▸ hy)
        rw [hq]; simp [this]
      have hqx : q x = false := by rw [hq]; simp
      rw [List.filter_cons_of_pos hp, List.filter_cons_of_neg (by rw [hqx]; simp), he]
      rfl
    · have hk' : k ∈ l := by
        rcases List.mem_cons.1 hk with h | h
        · exact absurd h.symm hxk
        · exact h
      have := ih hn' hk'
      have hqx : q x = p x := by rw [hq]; simp [hxk]
      by_cases hpx : p x = true
      · rw [List.filter_cons_of_pos hpx, List.filter_cons_of_pos (by rw [hqx, hpx])]
        simp only [List.length_cons]
        omega
      · rw [List.filter_cons_of_neg hpx, List.filter_cons_of_neg (by rw [hqx]; exact hpx)]
        exact this
theorem cnt_set {n k : Nat} {listed : Array Bool} (hk : k < n) (hs : k < listed.size) (hl : listed.getD k false = false) : cnt n listed = cnt n (listed.setIfInBounds k true) + 1 := by
  unfold cnt
  refine filter_one List.nodup_range (List.mem_range.2 hk) (by rw [hl]; rfl) fun j => ?_
  by_cases hj : j = k
  · subst hj
    have : (listed.setIfInBounds j true).getD j false = true := by simp [hs]
    rw [this]
    simp
  · rw [getD_set_ne false (Ne.symm hj)]
    simp [hj]
theorem cnt_pos {n : Nat} {listed : Array Bool} {f : Nat} (h : cnt n listed = f + 1) : ∃ i, i < n ∧ listed.getD i false = false ∧ ∀ j, j < i → listed.getD j false = true := by
  have hx : ∃ i, i < n ∧ listed.getD i false = false := by
    unfold cnt at h
    cases hf : (List.range n).filter (fun i => !listed.getD i false) with
    | nil => rw [hf] at h; simp at h
    | cons x l =>
      have : x ∈ (List.range n).filter (fun i => !listed.getD i false) := by rw [hf]; simp
      rw [List.mem_filter, List.mem_range] at this
      exact ⟨x, this.1, by simpa using this.2⟩
  obtain ⟨i, hi⟩ := hx
  induction i using Nat.strongRecOn with
  | ind i ih =>
    by_cases hall : ∀ j, j < i → listed.getD j false = true
    · exact ⟨i, hi.1, hi.2, hall⟩
    · obtain ⟨j, hj⟩ := Classical.not_forall.1 hall
      obtain ⟨hj1, hj2⟩ := Classical.not_imp.1 hj
      exact ih j hj1 ⟨by omega, by simpa using hj2⟩

theorem any_of_walk {ops : Array Oper} {Q : Exit → Act → World → Prop} {a0 : Act} {w0 : World} {n : Nat} {l : List Oper} (hl : ops = l.toArray) (hB : tyB ops n = true) {Ts : List T} {Cs : List (Value → Prop)} (hTs : Ts.length = n) (hCs : Cs.length = n)
    (h4 : ∀ (i : Nat) t C, Ts[i]? = some t → Cs[i]? = some C → (∀ v w, t.p v w → C v) ∧ Stable t)
    (h5 : ∀ (i : Nat) o t, i < n → ops[i]? = some o → Ts[i]? = some t → ∀ vs w, (∀ (j : Nat) C, Cs[j]? = some C → C (vs j)) → Below w0.heap.size w0 w → Deps o (Ts.take i) vs w →
        if Region.wanted o (yielded ops (puts a0 (l.take i) 0 vs).tmps) = true then tyAt P o (puts a0 (l.take i) 0 vs) w (Post t w) else t.p undef w ∧ t.fresh = false)
    (h6 : ∀ vs w, (∀ (j : Nat) C, Cs[j]? = some C → C (vs j)) → Below w0.heap.size w0 w → (∀ (j : Nat) t, Ts[j]? = some t → t.p (vs j) w) → Apart Ts vs → wpList P ops Q (l.drop n) (puts a0 (l.take n) 0 vs) w) :
    ∀ (f : Nat) (listed : Array Bool) (a : Act) (w : World), cnt n listed = f → Inv a0 w0 ops n Ts Cs listed a w → wpAny P .any ops Q (f + (ops.size - n)) listed a w := by
  unfold tyB at hB
  simp only [Bool.and_eq_true, decide_eq_true_eq, Bool.or_eq_true] at hB
  obtain ⟨⟨⟨⟨⟨⟨hsel, hn⟩, htopo⟩, hlook⟩, hdist⟩, htail⟩, hseq⟩ := hB
  have hD := dist_spec hdist
  have hsz : ops.size = l.length := by rw [hl]; simp
  have hop : ∀ j : Nat, ops[j]? = l[j]? := fun j => by rw [hl]; simp
  intro f
  induction f with
  | zero =>
    intro listed a w hc inv
    have hlist : listed = Array.replicate n true ++ Array.replicate (ops.size - n) false := by
      apply Array.ext_getElem?
      intro i
      have hs := inv.head.size
      by_cases h1 : i < n
      · have := cnt_zero hc h1
        rw [Array.getElem?_append_left (by simpa using h1)]
        have hi : i < listed.size := by omega
        simp [hi] at this
        simp [h1, hi, this]
      · rw [Array.getElem?_append_right (by simp; omega)]
        by_cases h2 : i < ops.size
        · have := inv.head.tail i (by omega) h2
          have hi : i < listed.size := by omega
          simp [hi] at this
          rw [Array.getElem?_eq_getElem hi, this]
          rw [Array.getElem?_replicate, if_pos (by simp; omega)]
        · rw [Array.getElem?_eq_none (by omega), Array.getElem?_eq_none (by simp; omega)]
    obtain ⟨vs, hv, hagr, hts, hap⟩ := inv.vs
    have hall : ∀ j, j < n → listed.getD j false = true := fun j hj => cnt_zero hc hj
    have hpuzz := agr_puts (a0 := a0) hD vs (l.take n) a0 0 (fun j => decide (j < 0)) (fun _ => rfl) (fun j hj => by
      have hj' : j < n := by simp at hj; omega
      rw [Nat.zero_add, hop, List.getElem?_take_of_lt hj']) (by simp; omega) hn (Agr.start a0 ops _ (fun j => by simp) vs)
    have hLeq : (fun j => listed.getD j false) = fun j => decide (j < 0 + (l.take n).length) := by
      funext j
      have hlen : (l.take n).length = n := by simp; omega
      rw [hlen, Nat.zero_add]
      by_cases h1 : j < n
      · rw [hall j h1]; simp [h1]
      · have : listed.getD j false = false := by
          rw [hlist]
          by_cases h2 : j < ops.size
          · simp only [Array.getD_eq_getD_getElem?]
            rw [Array.getElem?_append_right (by simp; omega), Array.getElem?_replicate]
            split <;> rfl
          · simp only [Array.getD_eq_getD_getElem?]
            rw [Array.getElem?_eq_none (by simp; omega)]
            rfl
        rw [this]; simp [h1]
    rw [← hLeq] at hpuzz
    have hae : a = puts a0 (l.take n) 0 vs := Agr.ext hagr hpuzz
    rw [Nat.zero_add]
    have hdl : (l.drop n).length = ops.size - n := by simp [hsz]
    have := wpAny_of_seq (P := P) (md := .any) (Q' := Q) (l.drop n) n listed a w (fun j => by rw [hop]; simp [List.getElem?_drop]) (by rw [hdl, hlist]; exact hseq) (by
      rw [hae]
      have hin : ∀ (j : Nat) t, Ts[j]? = some t → j < n := fun j t ht => by
        rcases Nat.lt_or_ge j n with h | h
        · exact h
        · rw [List.getElem?_eq_none (by omega)] at ht; cases ht
      exact h6 vs w hv inv.below (fun j t ht => (hts j t (hall j (hin j t ht)) ht).1) fun i j t u hij ht hu => hap i j t u (hall i (hin i t ht)) (hall j (hin j u hu)) hij ht hu)
    rwa [hdl] at this
  | succ f ih =>
    intro listed a w hc inv
    obtain ⟨i0, hi0, hun0, hmin⟩ := cnt_pos hc
    have hs := inv.head.size
    rw [show f + 1 + (ops.size - n) = (f + (ops.size - n)) + 1 by omega]
    refine ⟨fun h0 => ?_, fun i hi => ?_⟩
    · exfalso
      obtain ⟨o, ho⟩ : ∃ o, ops[i0]? = some o := ⟨ops[i0]'(by omega), by simp⟩
      have : i0 ∈ Region.ready .any ops listed := mem_ready.2 ⟨getD_in (by omega) hun0, o, ho, fun e he hb => hmin e.on (topo_spec htopo hi0 ho he hb)⟩
      rw [h0] at this
      cases this
    · have hin : i < n := by
        rcases Nat.lt_or_ge i n with h | h
        · exact h
        · rcases htail with h' | ⟨h1, h2⟩
          · obtain ⟨_, o, ho, _⟩ := mem_ready.1 hi
            have := (Array.getElem?_eq_some_iff.1 ho).1
            omega
          · exact absurd hi (tail_waits h1 h2 (by have := (mem_ready.1 hi).2; obtain ⟨o, ho, _⟩ := this; have := (Array.getElem?_eq_some_iff.1 ho).1; omega) inv.head _ i0 rfl hi0 (getD_in (by omega) hun0) i h)
      obtain ⟨hiun, o, ho, hwait⟩ := mem_ready.1 hi
      obtain ⟨vs, hv, hagr, hts, hap⟩ := inv.vs
      obtain ⟨t, ht⟩ : ∃ t, Ts[i]? = some t := ⟨Ts[i]'(by omega), List.getElem?_eq_getElem (by omega)⟩
      obtain ⟨C, hC⟩ : ∃ C, Cs[i]? = some C := ⟨Cs[i]'(by omega), List.getElem?_eq_getElem (by omega)⟩
      obtain ⟨htC, hst⟩ := h4 i t C ht hC
      have hLi : listed.getD i false = false := getD_both hiun
      have hpuzz := agr_puts (a0 := a0) hD vs (l.take i) a0 0 (fun j => decide (j < 0)) (fun _ => rfl) (fun j hj => by
        have hj' : j < i := by simp at hj; omega
        rw [Nat.zero_add, hop, List.getElem?_take_of_lt hj']) (by simp; omega) hn (Agr.start a0 ops _ (fun j => by simp) vs)
      have hlen : (l.take i).length = i := by simp; omega
      rw [hlen, Nat.zero_add] at hpuzz
      have hsame : ∀ d, d ∈ o.looksAt ops → a.tmps[d]? = (puts a0 (l.take i) 0 vs).tmps[d]? := fun d hd => Agr.eval hagr hpuzz d fun j oj hoj hdj => by
        obtain ⟨e, he, hb, hon⟩ := looks_spec hlook hin ho hoj hdj hd
        refine ⟨by rw [← hon]; exact hwait e he hb, ?_⟩
        have := topo_spec htopo hin ho he hb
        simp; omega
      have hw := wanted_congr (ops := ops) (o := o) hsame
      have he := exec_congr (o := o) (fun cs b => Region.noSelect_spec hsel i o cs b ho) hsame
      have hstep := h5 i o t hin ho ht vs w hv inv.below (fun e he hb t' ht' => by
        have hlt := topo_spec htopo hin ho he hb
        rw [List.getElem?_take_of_lt hlt] at ht'
        exact (hts e.on t' (hwait e he hb) ht').1)
      have next : ∀ v w', Post t w v w' → wpAny P .any ops Q (f + (ops.size - n)) (listed.setIfInBounds i true) (a.put o.dst v) w' := fun v w' ⟨hb, htv, hfr⟩ => by
        refine ih _ _ _ (by have := cnt_set (n := n) hin (by omega) hLi; omega) ⟨inv.head.set hi hin, inv.below.trans (hb.mono inv.below.size), fun j => if j = i then v else vs j, ?_, ?_, ?_, ?_⟩
        · intro j C' hj
          show C' (if j = i then v else vs j)
          by_cases hji : j = i
          · subst hji
            rw [if_pos rfl]
            rw [hC] at hj
            injection hj with e
            subst e
            exact htC v w' htv
          · rw [if_neg hji]
            exact hv j C' hj
        · refine Agr.put (n := n) (L := fun j => listed.getD j false) (k := i) hD hagr ho hin (fun j hj => ?_) hLi (fun j => ?_) (by simp) (fun j hj => by simp [hj])
          · rcases Nat.lt_or_ge j n with h | h
            · exact h
            · rcases Nat.lt_or_ge j ops.size with h2 | h2
              · have := getD_both (inv.head.tail j h h2)
                rw [this] at hj; cases hj
              · have hnone : listed[j]? = none := Array.getElem?_eq_none (by omega)
                simp [Array.getD_eq_getD_getElem?, hnone] at hj
          · by_cases hji : j = i
            · subst hji
              have : j < listed.size := by omega
              simp [this]
            · rw [getD_set_ne false (Ne.symm hji)]
              simp [hji]
        · intro j t' hj ht'
          show t'.p (if j = i then v else vs j) w' ∧ (t'.fresh = true → blk (if j = i then v else vs j) < w'.heap.size)
          by_cases hji : j = i
          · subst hji
            rw [if_pos rfl]
            rw [ht] at ht'
            injection ht' with e
            subst e
            exact ⟨htv, fun hf => (hfr hf).2⟩
          · rw [if_neg hji]
            rw [getD_set_ne false (Ne.symm hji)] at hj
            obtain ⟨C', hC'⟩ : ∃ C, Cs[j]? = some C := by
              have : j < Cs.length := by
                rcases Nat.lt_or_ge j Cs.length with h | h
                · exact h
                · rw [List.getElem?_eq_none (by omega)] at ht'; cases ht'
              exact ⟨Cs[j], List.getElem?_eq_getElem this⟩
            have hjt := hts j t' hj ht'
            exact ⟨(h4 j t' C' ht' hC').2 _ _ _ hb hjt.1, fun hf => Nat.lt_of_lt_of_le (hjt.2 hf) hb.size⟩
        · intro x y t1 t2 hx hy hxy ht1 ht2 hf1 hf2
          show blk (if x = i then v else vs x) ≠ blk (if y = i then v else vs y)
          by_cases hxi : x = i
          · subst hxi
            rw [if_pos rfl, if_neg (Ne.symm hxy)]
            rw [ht] at ht1
            injection ht1 with e
            subst e
            rw [getD_set_ne false hxy] at hy
            have h1 := (hfr hf1).1
            have h2 := (hts y t2 hy ht2).2 hf2
            omega
          · rw [if_neg hxi]
            rw [getD_set_ne false (Ne.symm hxi)] at hx
            by_cases hyi : y = i
            · subst hyi
              rw [if_pos rfl]
              rw [ht] at ht2
              injection ht2 with e
              subst e
              have h1 := (hfr hf2).1
              have h2 := (hts x t1 hx ht1).2 hf1
              omega
            · rw [if_neg hyi]
              rw [getD_set_ne false (Ne.symm hyi)] at hy
              exact hap x y t1 t2 hx hy hxy ht1 ht2 hf1 hf2
      unfold wpOp
      simp only [ho]
      rw [hw]
      by_cases hwant : Region.wanted o (yielded ops (puts a0 (l.take i) 0 vs).tmps) = true
      · rw [if_pos hwant] at hstep ⊢
        refine Or.inl ?_
        have hty : tyAt P o a w (Post t w) := by
          unfold tyAt at hstep ⊢
          rw [he]
          exact hstep
        exact wp_of_tyAt hty fun v w' h => next v w' h
      · rw [if_neg hwant] at hstep ⊢
        exact next undef w ⟨Below.refl _ _, hstep.1, fun hf => by rw [hstep.2] at hf; cases hf⟩

/-- A region that draws its order: n operations that add to memory alone, walked in the order of the text; what stands behind them is walked as it stands. -/
theorem wp_region_ty {id : Nat} {Q : Exit → Act → World → Prop} {a : Act} {w : World} {l : List Oper} (n : Nat) (hm : P.follows .mixedOrders = true) (hB : tyB l.toArray n = true)
    (h : walk P l.toArray w.drew (fun a' w' => wpList P l.toArray Q (l.drop n) a' w') (l.take n) (fun _ => a) []) : (Code.region id l.toArray true).wp P Q a w := by
  have hB' := hB
  unfold tyB at hB'
  simp only [Bool.and_eq_true, decide_eq_true_eq, Bool.or_eq_true] at hB'
  have hn : n ≤ l.length := by have := hB'.1.1.1.1.1.2; simpa using this
  obtain ⟨Ts, Cs, h1, h2, h3, h4, h5, h6⟩ := spec _ _ _ h
  have htl : (l.take n).length = n := by simp; omega
  rw [htl] at h1 h2
  refine wp_region_any hm ?_
  have hc0 : cnt n (Array.replicate l.toArray.size false) = n := by
    unfold cnt
    rw [List.filter_eq_self.2 fun i hi => by rw [getD_replicate_false]; rfl]
    simp
  have := any_of_walk (P := P) (Q := Q) (a0 := a) (w0 := w.drew) (l := l) rfl hB h1 h2 h4 (fun i o t hi ho ht vs w' hv hb hd => by
      have ho' : (l.take n)[i]? = some o := by rw [List.getElem?_take_of_lt hi]; simpa using ho
      have := h5 i o t ho' ht vs w' (fun j C hj => by simpa using hv j C hj) hb (by simpa using hd)
      have he : (l.take n).take i = l.take i := by rw [List.take_take, Nat.min_eq_left (Nat.le_of_lt hi)]
      rw [he] at this
      exact this) (fun vs w' hv hb hg ha => h6 vs w' (fun j C hj => by simpa using hv j C hj) hb (by simpa using hg) (by simpa using ha)) n (Array.replicate l.toArray.size false) a w.drew hc0 ⟨⟨by simp, fun j oj _ hl => (by rw [getD_replicate_false] at hl; cases hl), fun t _ ht => getD_in (by simpa using ht) (getD_replicate_false _ _)⟩, Below.refl _ _, fun j => Classical.epsilon fun v => ∀ C, Cs[j]? = some C → C v, fun j C hj => ?_, Agr.start a _ _ (fun j => getD_replicate_false _ _) _, fun j t hj => (by rw [getD_replicate_false] at hj; cases hj), fun i j t u hi => (by rw [getD_replicate_false] at hi; cases hi)⟩
  · rw [show n + (l.toArray.size - n) = l.toArray.size by simp; omega] at this
    exact this
  · have hx : ∃ v, ∀ C', Cs[j]? = some C' → C' v := by
      obtain ⟨v, hv⟩ := h3 j C hj
      exact ⟨v, fun C' hC' => by rw [hj] at hC'; injection hC' with e; subst e; exact hv⟩
    exact Classical.epsilon_spec hx C hj
end
end Go.Ty
