/-
  Entries put in in one order or the other, plainly.
-/
import Derived.Test.YtldmhfpgcflplaaNdSpk
set_option linter.unusedVariables false
set_option linter.unusedSimpArgs false
namespace Go.Proofs.Ytldmhfpgcflplaa
open Go Go.RowKit Go.Proofs.Ytldmhfpgcflplaa.PA Go.Proofs.YtldmhfpgcflplaaW.PrintWords NdP

/-- An entry whose value is its key. -/
def kv (k : ByteArray) : Ent := ⟨k, k, false⟩
def kl (es : List Ent) (k : ByteArray) : List Ent := if there es k = true then es else es.take (place es k) ++ kv k :: es.drop (place es k)
def kput (p : Pg) (k : ByteArray) : Pg := { p with es := kl p.es k }
theorem kput_there {p : Pg} {k : ByteArray} (h : there p.es k = true) : kput p k = p := by unfold kput kl; rw [if_pos h]
theorem kput_not {p : Pg} {k : ByteArray} (h : there p.es k = false) : kput p k = { p with es := p.es.take (place p.es k) ++ kv k :: p.es.drop (place p.es k) } := by unfold kput kl; rw [if_neg (by rw [h]; simp)]
/-- A node made of keys that are short. -/
structure KvN (p : Pg) (ks : List ByteArray) : Prop where
  form : p.lsn = 0 ∧ p.kind = 3 ∧ p.level = 0 ∧ p.right = 0 ∧ p.high = ⟨#[]⟩
  sorted : Sorted p.es
  short : ∀ k ∈ ks, k.size ≤ 10
  mem : ∀ e, e ∈ p.es ↔ ∃ k ∈ ks, e = kv k
  len : p.es.length ≤ ks.length
theorem kv_size (k : ByteArray) : size (kv k) = 3 + k.size + k.size := rfl
theorem KvN.small {p : Pg} {ks : List ByteArray} (h : KvN p ks) (hk : ks.length ≤ 100) : Small p.es := by
  refine ⟨by have := h.len; omega, fun e he => ?_⟩
  obtain ⟨k, hk', rfl⟩ := (h.mem e).1 he
  have := h.short k hk'
  show k.size ≤ 1000 ∧ k.size ≤ 1000
  omega
theorem KvN.start : KvN ⟨0, 3, 0, 0, ⟨#[]⟩, []⟩ [] := ⟨⟨rfl, rfl, rfl, rfl, rfl⟩, List.Pairwise.nil, by simp, by simp, by simp⟩
theorem sum_le {l : List Ent} {m : Nat} (h : ∀ e ∈ l, size e ≤ m) : sizes l ≤ m * l.length := by
  induction l with
  | nil => simp [sizes]
  | cons e l ih =>
    have h1 := h e (by simp)
    have h2 := ih fun x hx => h x (by simp [hx])
    rw [sizes_cons, List.length_cons, Nat.mul_succ]
    omega
theorem covers_nil {p : Pg} (h : p.high = ⟨#[]⟩) (k : ByteArray) : covers p k = true := by
  unfold covers
  rw [h, Bool.or_eq_true]
  refine Or.inl ?_
  rw [decide_eq_true_eq, toList_data]
theorem KvN.ins {p : Pg} {ks : List ByteArray} (h : KvN p ks) (hl : ks.length < 20) {k : ByteArray} (hk : k.size ≤ 10) :
    (there p.es k = true → NdP.ins p (kv k) = (zero, 12)) ∧ (there p.es k = false → NdP.ins p (kv k) = (kput p k, 0)) := by
  have hc : ¬ (64 < (kv k).k.size ∨ 100 < (kv k).v.size ∨ covers p (kv k).k = false) := by
    rw [covers_nil h.form.2.2.2.2]
    show ¬ (64 < k.size ∨ 100 < k.size ∨ true = false)
    simp
    omega
  have hf : ¬ free p < (size (kv k) : Int) := by
    have h1 : sizes p.es ≤ 23 * p.es.length := sum_le fun e he => by
      obtain ⟨k', hk', rfl⟩ := (h.mem e).1 he
      have := h.short k' hk'
      rw [kv_size]
      omega
    have h2 := h.len
    unfold free
    rw [kv_size, h.form.2.2.2.2]
    show ¬ (489 - ((0 : Nat) : Int) - _ < _)
    omega
  constructor
  · intro ht
    unfold NdP.ins
    rw [if_neg hc, if_pos (show there p.es (kv k).k = true from ht)]
  · intro ht
    rw [kput_not ht]
    unfold NdP.ins
    rw [if_neg hc, if_neg (by show ¬ there p.es k = true; rw [ht]; simp), if_neg hf]
    rfl
theorem KvN.put {p : Pg} {ks : List ByteArray} (h : KvN p ks) {k : ByteArray} (hk : k.size ≤ 10) : KvN (kput p k) (ks ++ [k]) := by
  by_cases ht : there p.es k = true
  · rw [kput_there ht]
    refine ⟨h.form, h.sorted, ?_, ?_, ?_⟩
    · intro x hx
      rcases List.mem_append.1 hx with hx | hx
      · exact h.short x hx
      · simp only [List.mem_singleton] at hx
        subst hx
        exact hk
    · intro e
      rw [h.mem]
      constructor
      · rintro ⟨x, hx, rfl⟩
        exact ⟨x, List.mem_append_left _ hx, rfl⟩
      · rintro ⟨x, hx, rfl⟩
        rcases List.mem_append.1 hx with hx | hx
        · exact ⟨x, hx, rfl⟩
        · simp only [List.mem_singleton] at hx
          subst hx
          obtain ⟨y, hy, hye⟩ := (there_iff h.sorted).1 ht
          obtain ⟨z, hz, rfl⟩ := (h.mem y).1 hy
          have : z = x := hye
          subst this
          exact ⟨z, hz, rfl⟩
    · rw [List.length_append]
      have := h.len
      omega
  · have ht' : there p.es k = false := by simpa using ht
    rw [kput_not ht']
    refine ⟨h.form, ins_sorted (e := kv k) h.sorted ht', ?_, ?_, ?_⟩
    · intro x hx
      rcases List.mem_append.1 hx with hx | hx
      · exact h.short x hx
      · simp only [List.mem_singleton] at hx
        subst hx
        exact hk
    · intro e
      rw [mem_ins, h.mem]
      constructor
      · rintro (rfl | ⟨x, hx, rfl⟩)
        · exact ⟨k, by simp, rfl⟩
        · exact ⟨x, List.mem_append_left _ hx, rfl⟩
      · rintro ⟨x, hx, rfl⟩
        rcases List.mem_append.1 hx with hx | hx
        · exact Or.inr ⟨x, hx, rfl⟩
        · simp only [List.mem_singleton] at hx
          subst hx
          exact Or.inl rfl
    · show (p.es.take (place p.es k) ++ kv k :: p.es.drop (place p.es k)).length ≤ _
      have := h.len
      have hp := place_le p.es k
      simp only [List.length_append, List.length_cons, List.length_take, List.length_drop, List.length_nil]
      omega
/-- Sorted lists of the same entries are one. -/
theorem sorted_ext : ∀ {l m : List Ent}, Sorted l → Sorted m → (∀ e, e ∈ l ↔ e ∈ m) → l = m
  | [], [], _, _, _ => rfl
  | [], y :: m, _, _, h => by have := (h y).2 (by simp); simp at this
  | x :: l, [], _, _, h => by have := (h x).1 (by simp); simp at this
  | x :: l, y :: m, hl, hm, h => by
    obtain ⟨h1, h2⟩ := List.pairwise_cons.1 hl
    obtain ⟨h3, h4⟩ := List.pairwise_cons.1 hm
    have hxy : x = y := by
      rcases List.mem_cons.1 ((h x).1 (by simp)) with hx | hx
      · exact hx
      rcases List.mem_cons.1 ((h y).2 (by simp)) with hy | hy
      · exact hy.symm
      · have a1 := h1 y hy
        have a2 := h3 x hx
        have := lss_trans a1 a2
        rw [lss_irrefl] at this
        cases this
    subst hxy
    have : l = m := sorted_ext h2 h4 fun e => by
      have he := h e
      simp only [List.mem_cons] at he
      constructor
      · intro hel
        rcases he.1 (Or.inr hel) with rfl | h5
        · have := h1 e hel
          rw [lss_irrefl] at this
          cases this
        · exact h5
      · intro hem
        rcases he.2 (Or.inr hem) with rfl | h5
        · have := h3 e hem
          rw [lss_irrefl] at this
          cases this
        · exact h5
    rw [this]
theorem KvN.eq {p : Pg} {ks : List ByteArray} (h : KvN p ks) : ∃ es, p = ⟨0, 3, 0, 0, ⟨#[]⟩, es⟩ := by
  obtain ⟨a, b, c, d, e, es⟩ := p
  obtain ⟨h1, h2, h3, h4, h5⟩ := h.form
  simp only at h1 h2 h3 h4 h5
  subst h1 h2 h3 h4 h5
  exact ⟨es, rfl⟩
theorem KvN.same {p q : Pg} {ks ls : List ByteArray} (h : KvN p ks) (k : KvN q ls) (hm : ∀ x, x ∈ ks ↔ x ∈ ls) : p.es = q.es :=
  sorted_ext h.sorted k.sorted fun e => by
    rw [h.mem, k.mem]
    constructor
    · rintro ⟨x, hx, rfl⟩
      exact ⟨x, (hm x).1 hx, rfl⟩
    · rintro ⟨x, hx, rfl⟩
      exact ⟨x, (hm x).2 hx, rfl⟩
theorem KvN.right {p : Pg} {ks : List ByteArray} (h : KvN p ks) : RightP p :=
  ⟨h.form.2.1, fun hl => by rw [h.form.2.2.1] at hl; exact absurd hl (by decide), h.sorted, fun e _ => covers_nil h.form.2.2.2.2 _, fun hl => by rw [h.form.2.2.1] at hl; exact absurd hl (by decide)⟩

/-- A key's first ten bytes. -/
def cutN (n m : Nat) : Nat := min n m
theorem cutN_le (n m : Nat) : cutN n m ≤ n := Nat.min_le_left n m
theorem cutN_le' (n m : Nat) : cutN n m ≤ m := Nat.min_le_right n m
theorem min_nat (ats : Array TypeId) (ty : TypeId) (k k' : IntKind) (n m : Nat) : Builtin.min_ ats ty #[.int k (n : Int), .int k' (m : Int)] = pure (.int k ((cutN n m : Nat) : Int)) := by
  have : ((cutN n m : Nat) : Int) = if (m : Int) < (n : Int) then (m : Int) else (n : Int) := by
    unfold cutN
    split <;> omega
  rw [this]
  simp only [Builtin.min_, List.foldlM_cons, List.foldlM_nil, Builtin.min2]
  rfl
theorem min_10 (ats : Array TypeId) (ty : TypeId) (k k' : IntKind) (n : Nat) : Builtin.min_ ats ty #[.int k (n : Int), .int k' 10] = pure (.int k ((cutN n 10 : Nat) : Int)) := min_nat ats ty k k' n 10
theorem min_20 (ats : Array TypeId) (ty : TypeId) (k k' : IntKind) (n : Nat) : Builtin.min_ ats ty #[.int k (n : Int), .int k' 20] = pure (.int k ((cutN n 20 : Nat) : Int)) := min_nat ats ty k k' n 20
theorem min_64 (ats : Array TypeId) (ty : TypeId) (k k' : IntKind) (n : Nat) : Builtin.min_ ats ty #[.int k (n : Int), .int k' 64] = pure (.int k ((cutN n 64 : Nat) : Int)) := min_nat ats ty k k' n 64
theorem min_80 (ats : Array TypeId) (ty : TypeId) (k k' : IntKind) (n : Nat) : Builtin.min_ ats ty #[.int k (n : Int), .int k' 80] = pure (.int k ((cutN n 80 : Nat) : Int)) := min_nat ats ty k k' n 80
theorem min_100 (ats : Array TypeId) (ty : TypeId) (k k' : IntKind) (n : Nat) : Builtin.min_ ats ty #[.int k (n : Int), .int k' 100] = pure (.int k ((cutN n 100 : Nat) : Int)) := min_nat ats ty k k' n 100
theorem min_120 (ats : Array TypeId) (ty : TypeId) (k k' : IntKind) (n : Nat) : Builtin.min_ ats ty #[.int k (n : Int), .int k' 120] = pure (.int k ((cutN n 120 : Nat) : Int)) := min_nat ats ty k k' n 120
def cut10 (s : ByteArray) : ByteArray := s.extract 0 (cutN s.size 10)
theorem cut10_size (s : ByteArray) : (cut10 s).size ≤ 10 := by
  unfold cut10
  rw [ByteArray.size_extract]
  have := cutN_le' s.size 10
  omega
def keyAt (l : List Ent) (i : Nat) : ByteArray := match l[i]? with
  | some e => cut10 e.k
  | none => ⟨#[]⟩
theorem keyAt_size (l : List Ent) (i : Nat) : (keyAt l i).size ≤ 10 := by
  unfold keyAt
  split
  · exact cut10_size _
  · decide
def ksF (l : List Ent) (i : Nat) : List ByteArray := (List.range i).map (keyAt l)
def ksB (l : List Ent) (n i : Nat) : List ByteArray := (List.range i).map fun j => keyAt l (n - 1 - j)
theorem ksF_succ (l : List Ent) (i : Nat) : ksF l (i + 1) = ksF l i ++ [keyAt l i] := by unfold ksF; rw [List.range_succ, List.map_append]; rfl
theorem ksB_succ (l : List Ent) (n i : Nat) : ksB l n (i + 1) = ksB l n i ++ [keyAt l (n - 1 - i)] := by unfold ksB; rw [List.range_succ, List.map_append]; rfl
theorem ks_same (l : List Ent) (n : Nat) (x : ByteArray) : x ∈ ksF l n ↔ x ∈ ksB l n n := by
  unfold ksF ksB
  simp only [List.mem_map, List.mem_range]
  constructor
  · rintro ⟨i, hi, rfl⟩
    exact ⟨n - 1 - i, by omega, by rw [show n - 1 - (n - 1 - i) = i by omega]⟩
  · rintro ⟨i, hi, rfl⟩
    exact ⟨n - 1 - i, by omega, rfl⟩
end Go.Proofs.Ytldmhfpgcflplaa
