/-
  Locks of sessions, plainly: a list of what is held (session, table, mode, row), what bars a thing, what is held behind an ask, and what follows of it. No program stands here.
-/
set_option linter.unusedVariables false
set_option linter.unusedSimpArgs false
namespace LockP

/-- What is held: by a session, of a table, how (0 reading, 1 writing, 2 alone), which row. -/
structure H where
  s : Int
  t : Int
  m : Int
  r : Int
deriving DecidableEq

/-- Does what another holds bar it? -/
def bars (m r : Int) (y : H) : Bool := if m = 0 then decide (y.m ≠ 0) else if m = 1 then (decide (y.m ≠ 1) || decide (y.r = r)) else true

def conflict (L : List H) (x : H) : Bool := L.any fun y => decide (y.s ≠ x.s) && (decide (y.t = x.t) && bars x.m x.r y)

def add (L : List H) (x : H) : List H := if x ∈ L then L else L ++ [x]

/-- What is held behind an ask, and the error's number. -/
def take (L : List H) (x : H) : List H × Int := if conflict L x then (L, 16) else (add L x, 0)

def held (L : List H) (s : Int) : Nat := (L.filter fun y => decide (y.s = s)).length
def without (L : List H) (s : Int) : List H := L.filter fun y => decide (y.s ≠ s)

theorem nodup_add {L : List H} {x : H} (h : L.Nodup) : (add L x).Nodup := by
  unfold add
  split
  · exact h
  · rename_i hx
    rw [List.nodup_append]
    exact ⟨h, by simp, fun a ha b hb e => hx (by simp at hb; rw [← hb, ← e]; exact ha)⟩
theorem mem_add {L : List H} {x y : H} : y ∈ add L x ↔ y ∈ L ∨ y = x := by
  unfold add
  split
  · rename_i hx
    constructor
    · exact Or.inl
    · rintro (h | rfl)
      · exact h
      · exact hx
  · simp
theorem nodup_without {L : List H} {s : Int} (h : L.Nodup) : (without L s).Nodup := h.filter _
theorem mem_without {L : List H} {s : Int} {y : H} : y ∈ without L s ↔ y ∈ L ∧ y.s ≠ s := by simp [without]
theorem mem_take {L : List H} {x y : H} (h : y ∈ (take L x).1) : y ∈ L ∨ y = x := by
  unfold take at h
  split at h
  · exact Or.inl h
  · exact mem_add.1 h
theorem nodup_take {L : List H} {x : H} (h : L.Nodup) : (take L x).1.Nodup := by
  unfold take
  split
  · exact h
  · exact nodup_add h
theorem held_add_same {L : List H} {x : H} (h : x ∉ L) : held (add L x) x.s = held L x.s + 1 := by
  simp [held, add, h, List.filter_append]
theorem held_add_other {L : List H} {x : H} {s : Int} (h : s ≠ x.s) : held (add L x) s = held L s := by
  unfold add
  split
  · rfl
  · simp [held, List.filter_append, Ne.symm h]
theorem held_le (L : List H) (s : Int) : held L s ≤ L.length := List.length_filter_le _ _
theorem held_pos {L : List H} {s : Int} : 0 < held L s ↔ ∃ y ∈ L, y.s = s := by
  simp [held, List.length_pos_iff_exists_mem]
theorem held_zero {L : List H} {s : Int} : held L s = 0 ↔ ∀ y ∈ L, y.s ≠ s := by
  have := @held_pos L s
  constructor
  · intro h y hy e
    have := this.2 ⟨y, hy, e⟩
    omega
  · intro h
    rcases Nat.eq_zero_or_pos (held L s) with h0 | h0
    · exact h0
    · obtain ⟨y, hy, e⟩ := this.1 h0
      exact absurd e (h y hy)
theorem held_without_same (L : List H) (s : Int) : held (without L s) s = 0 := held_zero.2 fun y hy => (mem_without.1 hy).2
theorem length_add (L : List H) (x : H) : (add L x).length ≤ L.length + 1 := by
  unfold add
  split <;> simp
theorem length_take (L : List H) (x : H) : (take L x).1.length ≤ L.length + 1 := by
  unfold take
  split
  · simp
  · exact length_add L x
theorem length_without (L : List H) (s : Int) : (without L s).length ≤ L.length := List.length_filter_le _ _
theorem without_none {L : List H} {s : Int} (h : held L s = 0) : without L s = L := by
  rw [held_zero] at h
  exact List.filter_eq_self.2 fun y hy => by simpa using h y hy

theorem conflict_iff {L : List H} {x : H} : conflict L x = true ↔ ∃ y ∈ L, y.s ≠ x.s ∧ y.t = x.t ∧ bars x.m x.r y = true := by
  simp [conflict, List.any_eq_true]
theorem conflict_nil (x : H) : conflict [] x = false := rfl

/-- No two sessions hold what bars one another. -/
def Compat (L : List H) : Prop := ∀ y ∈ L, ∀ z ∈ L, y.s ≠ z.s → y.t = z.t → bars y.m y.r z = false
theorem bars_sym {y z : H} (hy : y.m = 0 ∨ y.m = 1 ∨ y.m = 2) (hz : z.m = 0 ∨ z.m = 1 ∨ z.m = 2) : bars y.m y.r z = bars z.m z.r y := by
  unfold bars
  rcases hy with hy | hy | hy <;> rcases hz with hz | hz | hz <;> simp [hy, hz, eq_comm]
end LockP
