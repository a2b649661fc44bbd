/-
  Values and entries in rows.
-/
import Derived.Test.YtfaabbimbjegmaaDoorTpE
import Derived.Test.YtfaabbimbjegmaaDoorTy
import Derived.ArgAppend
import Derived.StillTailTactics
set_option linter.unusedVariables false
set_option linter.unusedSimpArgs false
namespace Go.Proofs.YtfaabbimbjegmaaDoor
open Go Go.RowKit Go.Proofs.YtfaabbimbjegmaaDoor.PA Go.Proofs.YtfaabbimbjegmaaDoor.SB Go.Proofs.YtfaabbimbjegmaaDoorW.PrintWords
namespace TP
def cutN (n m : Nat) : Nat := min n m
theorem cutN_le (n m : Nat) : cutN n m ≤ n := Nat.min_le_left n m
theorem cutN_le' (n m : Nat) : cutN n m ≤ m := Nat.min_le_right n m
theorem min_nat (ats : Array TypeId) (ty : TypeId) (k k' : IntKind) (n m : Nat) : Builtin.min_ ats ty #[.int k (n : Int), .int k' (m : Int)] = pure (.int k ((cutN n m : Nat) : Int)) := by
  have : ((cutN n m : Nat) : Int) = if (m : Int) < (n : Int) then (m : Int) else (n : Int) := by
    unfold cutN
    split <;> omega
  rw [this]
  simp only [Builtin.min_, List.foldlM_cons, List.foldlM_nil, Builtin.min2]
  rfl
theorem min_20 (ats : Array TypeId) (ty : TypeId) (k k' : IntKind) (n : Nat) : Builtin.min_ ats ty #[.int k (n : Int), .int k' 20] = pure (.int k ((cutN n 20 : Nat) : Int)) := min_nat ats ty k k' n 20
theorem mask_bounds (x m : Int) (h0 : 0 ≤ m) (h1 : m < 9223372036854775808) : 0 ≤ Go.bits .and .i64 x m ∧ Go.bits .and .i64 x m ≤ m := by
  unfold Go.bits
  simp only
  have hm : (BitVec.ofInt 64 m).toNat = m.toNat := by
    rw [BitVec.toNat_ofInt]
    omega
  have hle : (BitVec.ofInt 64 x &&& BitVec.ofInt 64 m).toNat ≤ m.toNat := by
    rw [BitVec.toNat_and, hm]
    exact Nat.and_le_right
  show 0 ≤ IntKind.i64.wrap ((BitVec.ofInt 64 x &&& BitVec.ofInt 64 m).toNat : Nat) ∧ IntKind.i64.wrap ((BitVec.ofInt 64 x &&& BitVec.ofInt 64 m).toNat : Nat) ≤ m
  generalize (BitVec.ofInt 64 x &&& BitVec.ofInt 64 m).toNat = r at *
  rw [IntKind.wrap_i64]
  omega
theorem ty_callx {P : Program} {ops : Array Oper} {w0 : World} {fin : Act → World → Prop} {o : Oper} {rest : List Oper} {A : (Nat → Value) → Act} {G : List Ty.T} (x : Value) (hg : ∀ vs, Region.wanted o (yielded ops (A vs).tmps) = true)
    (h : ∀ vs w, Below w0.heap.size w0 w → Ty.tyAt P o (A vs) w fun v w' => Below w.heap.size w w' ∧ v = x)
    (k : Ty.walk P ops w0 fin rest (fun vs => (A vs).put o.dst x) (G ++ [Ty.kn x])) : Ty.walk P ops w0 fin (o :: rest) A G :=
  Ty.exact_ x (fun vs w hb hd => by
    rw [if_pos (hg vs)]
    have := h vs w hb
    unfold Ty.tyAt at this ⊢
    generalize (execOp (A vs).eval o).run P w = r at *
    cases r with
    | ok n w' =>
      cases n <;> simp only [Ty.tyUpon] at this ⊢
      case value u => exact ⟨this.1, this.2, fun h => by cases h⟩
      case skip => exact ⟨this.1, this.2, fun h => by cases h⟩
      case enter f args =>
        refine this.mono ?_
        rintro e w'' ⟨v, he, h1, h2⟩
        exact ⟨v, he, h1, h2, fun h => by cases h⟩
    | halt x w' => simp only [Ty.tyUpon] at this) k
abbrev V := S32
theorem rdV {l : List V} {i : Nat} {e : V} (h : l[i]? = some e) : rd_T32 l (i : Int) = e := by
  simp [rd_T32, List.getD_eq_getElem?_getD, h]
theorem infoE : (Tryd.prog.info? 43).map (fun i => (i.zero, i.size, i.bytes)) = some (some (.agg #[(.string ⟨#[]⟩), (.string ⟨#[]⟩), (.bool false)]), 3, 40) := by kernel_rfl
theorem KE_M {w : World} (w' : World) (base : Nat) (ok : Nat → Prop) {x : E} {cs : List Value} (h : k43.K w x cs) : k43.M w' base ok x cs := by
  rw [k43_open h]
  exact k43_mkM _ _ _ _
/-- Entries in a row of the call's own. -/
def OwE (w : World) (base : Nat) (s : Value) (l : List E) : Prop := Kd.R k43 43 w base (fun _ => True) s l
theorem OwE.rd {w : World} {base : Nat} {s : Value} {l : List E} (h : OwE w base s l) : RdE w s l := R_cap h
theorem own_set1 {w : World} {base b : Nat} {s : Value} {l : List E} {cs : Array Value} (h : OwE w base s l) (hb : Bx w b cs 29) (i : Nat) (u : Value) : OwE (w.setCell ⟨b, i, none⟩ u) base s l := Kd.R_set h hb (by decide) i u
/-- Values that are read. -/
def RdV (w : World) (s : Value) (l : List V) : Prop := ∃ A c, s = .slice A l.length c ∧ Kd.C k32 w A l.length l
theorem RdV.below {w w' : World} {s : Value} {l : List V} (h : RdV w s l) (hb : Below w.heap.size w w') : RdV w' s l := by
  obtain ⟨A, c, h1, h3⟩ := h
  exact ⟨A, c, h1, Kd.C_below h3 hb⟩
end TP
end Go.Proofs.YtfaabbimbjegmaaDoor
