/-
  Plain facts on the cyclic sum of 32 bits: the register over natural numbers, bit by bit; its turns are linear and one-to-one; four bits at once by a table.
-/
namespace CrcPlain

/-- The polynomial. -/
def poly : Nat := 3988292384

/-- One bit's turn of the register. -/
def zb (r : Nat) : Nat := if r % 2 = 1 then r / 2 ^^^ poly else r / 2

def zn : Nat → Nat → Nat
  | 0, r => r
  | n + 1, r => zn n (zb r)

/-- One byte. -/
def step (r b : Nat) : Nat := zn 8 (r ^^^ b)

def reg (r : Nat) (l : List UInt8) : Nat := l.foldl (fun r b => step r b.toNat) r

def crc (l : List UInt8) : Nat := 4294967295 - reg 4294967295 l

theorem xor_half (a b : Nat) : (a ^^^ b) / 2 = a / 2 ^^^ b / 2 := by
  simpa [Nat.shiftRight_eq_div_pow] using Nat.shiftRight_xor_distrib (a := a) (b := b) (i := 1)

theorem xor_two (a b : Nat) : (a ^^^ b) % 2 = (a % 2 + b % 2) % 2 := by
  have h := Nat.xor_mod_two_pow (a := a) (b := b) (n := 1)
  rw [Nat.pow_one] at h
  rw [h]
  rcases Nat.mod_two_eq_zero_or_one a with h1 | h1 <;> rcases Nat.mod_two_eq_zero_or_one b with h2 | h2 <;> rw [h1, h2] <;> rfl

theorem xor_lc (a b c : Nat) : a ^^^ (b ^^^ c) = b ^^^ (a ^^^ c) := by
  rw [← Nat.xor_assoc, Nat.xor_comm a b, Nat.xor_assoc]

theorem xor_four (a b c d : Nat) : (a ^^^ b) ^^^ (c ^^^ d) = (a ^^^ c) ^^^ (b ^^^ d) := by
  rw [Nat.xor_assoc, xor_lc b c d, ← Nat.xor_assoc]

theorem zb_xor (a b : Nat) : zb (a ^^^ b) = zb a ^^^ zb b := by
  unfold zb
  rw [xor_two, xor_half]
  rcases Nat.mod_two_eq_zero_or_one a with h1 | h1 <;> rcases Nat.mod_two_eq_zero_or_one b with h2 | h2 <;> rw [h1, h2]
  · simp
  · simp [Nat.xor_assoc]
  · simp only [Nat.reduceAdd, Nat.reduceMod, if_true]
    rw [if_neg (show ¬ (0 : Nat) = 1 by decide), Nat.xor_assoc, Nat.xor_comm (b / 2) poly, ← Nat.xor_assoc]
  · simp only [Nat.reduceAdd, Nat.reduceMod, if_true]
    rw [if_neg (show ¬ (0 : Nat) = 1 by decide), xor_four, Nat.xor_self, Nat.xor_zero]

theorem zn_xor (n : Nat) : ∀ a b : Nat, zn n (a ^^^ b) = zn n a ^^^ zn n b := by
  induction n with
  | zero => intro a b; rfl
  | succ n ih => intro a b; simp only [zn, zb_xor, ih]

theorem zn_add (n m : Nat) : ∀ r : Nat, zn (n + m) r = zn m (zn n r) := by
  induction n with
  | zero => intro r; rw [Nat.zero_add]; rfl
  | succ n ih => intro r; rw [Nat.succ_add]; simp only [zn, ih]

theorem zb_lt {r : Nat} (h : r < 4294967296) : zb r < 4294967296 := by
  unfold zb
  split
  · exact Nat.xor_lt_two_pow (n := 32) (by omega) (by decide)
  · omega

theorem zn_lt (n : Nat) : ∀ r : Nat, r < 4294967296 → zn n r < 4294967296 := by
  induction n with
  | zero => intro r h; exact h
  | succ n ih => intro r h; exact ih _ (zb_lt h)

theorem zb_zero : zb 0 = 0 := rfl

theorem zn_zero (n : Nat) : zn n 0 = 0 := by
  induction n with
  | zero => rfl
  | succ n ih => simp only [zn, zb_zero, ih]

theorem top_bit {x : Nat} (h : x < 2147483648) : (x ^^^ poly) ≠ 0 := by
  intro e
  have h1 : x = poly := by
    have := congrArg (· ^^^ poly) e
    simp only [Nat.xor_assoc, Nat.xor_self, Nat.xor_zero, Nat.zero_xor] at this
    exact this
  rw [h1] at h
  exact absurd h (by decide)

/-- No register but nought turns to nought. -/
theorem zb_ne {r : Nat} (h : r < 4294967296) (h0 : zb r = 0) : r = 0 := by
  unfold zb at h0
  split at h0
  · exact absurd h0 (top_bit (by omega))
  · omega

theorem zn_ne (n : Nat) : ∀ r : Nat, r < 4294967296 → zn n r = 0 → r = 0 := by
  induction n with
  | zero => intro r _ h; exact h
  | succ n ih => intro r h h0; exact zb_ne h (ih _ (zb_lt h) h0)

/-- Low bits that are nought are shifted away. -/
theorem zn_shift (n : Nat) : ∀ x : Nat, zn n (x * 2 ^ n) = x := by
  induction n with
  | zero => intro x; simp [zn]
  | succ n ih =>
    intro x
    have h1 : x * 2 ^ (n + 1) = 2 * (x * 2 ^ n) := by rw [Nat.pow_succ]; rw [← Nat.mul_assoc, Nat.mul_comm]
    have h2 : zb (x * 2 ^ (n + 1)) = x * 2 ^ n := by
      unfold zb
      rw [h1]
      rw [if_neg (by omega)]
      omega
    simp only [zn, h2, ih]

theorem split_low (n r : Nat) : r = (r / 2 ^ n * 2 ^ n) ^^^ (r % 2 ^ n) := by
  apply Nat.eq_of_testBit_eq
  intro i
  rw [Nat.testBit_xor, Nat.testBit_mul_two_pow, Nat.testBit_mod_two_pow, Nat.testBit_div_two_pow]
  by_cases h : n ≤ i
  · have h2 : ¬ i < n := by omega
    simp [h, h2, Nat.sub_add_cancel h]
  · have h2 : i < n := by omega
    simp [h, h2]

/-- So many bits at once: what stands above is shifted, what stands below turns by a table. -/
theorem zn_split (n r : Nat) : zn n r = r / 2 ^ n ^^^ zn n (r % 2 ^ n) := by
  have h := split_low n r
  have h2 := zn_xor n (r / 2 ^ n * 2 ^ n) (r % 2 ^ n)
  rw [← h, zn_shift] at h2
  exact h2

/-- The table of four bits. -/
def tab : List Nat := [0, 498536548, 997073096, 651767980, 1994146192, 1802195444, 1303535960, 1342533948, 3988292384, 4027552580, 3604390888, 3412177804, 2607071920, 2262029012, 2685067896, 3183342108]

theorem tab_eq : ∀ i : Nat, i < 16 → tab.getD i 0 = zn 4 i := by decide

theorem zn4 (r : Nat) : zn 4 r = r / 16 ^^^ tab.getD (r % 16) 0 := by
  rw [tab_eq _ (Nat.mod_lt _ (by decide))]
  exact zn_split 4 r

theorem tab_lt : ∀ i : Nat, i < 16 → tab.getD i 0 < 4294967296 := by decide

/-- A byte, four bits and four bits. -/
theorem step_tab (r b : Nat) : step r b = zn 4 (zn 4 (r ^^^ b)) := by
  unfold step
  exact zn_add 4 4 _

theorem step_lt {r b : Nat} (h : r < 4294967296) (hb : b < 256) : step r b < 4294967296 :=
  zn_lt 8 _ (Nat.xor_lt_two_pow (n := 32) h (by omega))

theorem reg_lt (l : List UInt8) : ∀ r : Nat, r < 4294967296 → reg r l < 4294967296 := by
  induction l with
  | nil => intro r h; exact h
  | cons b l ih => intro r h; exact ih _ (step_lt h b.toNat_lt)

theorem reg_nil (r : Nat) : reg r [] = r := rfl
theorem reg_cons (r : Nat) (b : UInt8) (l : List UInt8) : reg r (b :: l) = reg (step r b.toNat) l := rfl
theorem reg_append (r : Nat) (l m : List UInt8) : reg r (l ++ m) = reg (reg r l) m := by
  unfold reg; rw [List.foldl_append]
theorem reg_snoc (r : Nat) (l : List UInt8) (b : UInt8) : reg r (l ++ [b]) = step (reg r l) b.toNat := by
  rw [reg_append]; rfl

theorem crc_lt (l : List UInt8) : crc l < 4294967296 := by unfold crc; omega

theorem step_xor (r q a b : Nat) : step (r ^^^ q) (a ^^^ b) = step r a ^^^ step q b := by
  unfold step
  rw [← zn_xor, xor_four]

end CrcPlain
