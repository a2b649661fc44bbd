/- The walk of the law SumSpoilt: it answers true at every input. Conditions: the text has at most 2^47 - 4096 bytes; the table lies where the program's start lays it. -/
import Derived.Test.YtdcnfekcbijfgaaDoorSumSpoil
import Derived.Lib.ConvBytes
import Derived.Laws.BytesArg
import Derived.Lib.SmallJoins
set_option linter.unusedVariables false
set_option linter.unusedSimpArgs false
namespace Go.Proofs.YtdcnfekcbijfgaaDoor.SB
open Go.RowKit Go.Proofs.YtdcnfekcbijfgaaDoor.PA Go.Proofs.YtdcnfekcbijfgaaDoorW.PrintWords Go.Proofs.YtdcnfekcbijfgaaDoorW.PrintLast Go.Proofs.YtdcnfekcbijfgaaDoorW.PrintMore

/-- Byte k of the number. -/
def xb (x : Int) (k : Nat) : Nat := x.toNat / 2 ^ (8 * k) % 256
/-- Is one of the first k bytes not nought? -/
def chg (x : Int) : Nat → Bool
  | 0 => false
  | k + 1 => chg x k || decide (xb x k ≠ 0)
/-- What is turned at place j behind k rounds. -/
def ev (p : Nat) (x : Int) (k j : Nat) : Nat := if p ≤ j ∧ j < p + k then xb x (j - p) else 0
/-- Byte j behind k rounds. -/
def tj (T : ByteArray) (p : Nat) (x : Int) (k j : Nat) : Nat := (T.data.toList.getD j 0).toNat ^^^ ev p x k j
structure Cells (T : ByteArray) (g p : Nat) (x : Int) (k : Nat) (wr : World) : Prop where
  cell : ∀ j, j < T.size → wr.cell? ⟨g, j, none⟩ = some (.int .u8 ((tj T p x k j : Nat) : Int))
  free : ∀ j, j < T.size → wr.frozen? ⟨g, j, none⟩ = false

theorem cells_start (w : World) (T : ByteArray) (p : Nat) (x : Int) (hT : T.size ≤ grownCap w T.size 0 5) : Cells T w.heap.size p x 0 (Lib.bytesWorld w 5 T) := by
  refine ⟨fun j hj => ?_, fun j hj => ?_⟩
  · rw [Lib.bytesWorld_cell w 5 T j hj]
    have : ev p x 0 j = 0 := by unfold ev; rw [if_neg (by omega)]
    unfold tj
    rw [this, Nat.xor_zero]
  · have h := Lib.bytesWorld_at_new w 5 T
    unfold World.frozen?
    simp only [h]
    have hs : T.size ≤ (Lib.bytesCells w 5 T).size := by
      simp [Lib.bytesCells]
    simp
    omega

theorem cells_step {T : ByteArray} {g p : Nat} {x : Int} {k : Nat} {wr : World} (h : Cells T g p x k wr) (hk : p + k < T.size) (v : Int) (hv : v = ((tj T p x k (p + k) ^^^ xb x k : Nat) : Int)) :
    Cells T g p x (k + 1) (wr.setCell ⟨g, p + k, none⟩ (.int .u8 v)) := by
  refine ⟨fun j hj => ?_, fun j hj => by rw [World.frozen?_setCell]; exact h.free j hj⟩
  by_cases e : j = p + k
  · subst e
    rw [World.cell?_setCell_same _ _ _ (h.cell _ hj), hv]
    have e0 : ev p x k (p + k) = 0 := by unfold ev; rw [if_neg (by omega)]
    have e1 : ev p x (k + 1) (p + k) = xb x k := by unfold ev; rw [if_pos (by omega), Nat.add_sub_cancel_left]
    unfold tj
    rw [e0, e1, Nat.xor_zero]
  · rw [World.cell?_setCell_other _ _ _ _ (by intro e2; injection e2 with _ e3; omega), h.cell j hj]
    have : ev p x (k + 1) j = ev p x k j := by
      unfold ev
      by_cases c : p ≤ j ∧ j < p + k
      · rw [if_pos c, if_pos (by omega)]
      · rw [if_neg c, if_neg (by omega)]
    unfold tj
    rw [this]

theorem chg_iff (x : Int) (m : Nat) : chg x m = false ↔ ∀ k, k < m → xb x k = 0 := by
  induction m with
  | zero => exact ⟨fun _ k hk => absurd hk (by omega), fun _ => rfl⟩
  | succ m ih =>
    simp only [chg, Bool.or_eq_false_iff, decide_eq_false_iff_not, ih]
    constructor
    · rintro ⟨h1, h2⟩ k hk
      by_cases e : k = m
      · subst e; simpa using h2
      · exact h1 k (by omega)
    · intro h
      exact ⟨fun k hk => h k (by omega), by simpa using h m (by omega)⟩

/-- The text behind all rounds. -/
def fin (T : ByteArray) (p : Nat) (x : Int) (m : Nat) : List Int := (List.range T.size).map fun j => ((tj T p x m j : Nat) : Int)

theorem xb_lt (x : Int) (k : Nat) : xb x k < 256 := Nat.mod_lt _ (by decide)

theorem fin_zip (T : ByteArray) (p : Nat) (x : Int) (m : Nat) (hm : p + m ≤ T.size) :
    Lib.bytesOf (fin T p x m) = List.zipWith (· ^^^ ·) T.data.toList (List.replicate p 0 ++ (List.range m).map (fun k => UInt8.ofNat (xb x k)) ++ List.replicate (T.size - p - m) 0) := by
  have hlE : (List.replicate p (0 : UInt8) ++ (List.range m).map (fun k => UInt8.ofNat (xb x k)) ++ List.replicate (T.size - p - m) 0).length = T.size := by
    simp only [List.length_append, List.length_replicate, List.length_map, List.length_range]; omega
  apply List.ext_getElem
  · rw [List.length_zipWith, hlE, sizeL, Nat.min_self]
    simp [Lib.bytesOf, fin]
  · intro j h1 h2
    have hj : j < T.size := by simpa [Lib.bytesOf, fin] using h1
    have hjT : j < T.data.toList.length := by rw [sizeL]; exact hj
    rw [List.getElem_zipWith]
    have hT : T.data.toList.getD j 0 = T.data.toList[j] := by rw [List.getD_eq_getElem?_getD, List.getElem?_eq_getElem hjT]; rfl
    have hL : (Lib.bytesOf (fin T p x m))[j] = UInt8.ofNat (tj T p x m j) := by
      simp [Lib.bytesOf, fin]
    rw [hL]
    unfold tj
    rw [hT]
    have hE : (List.replicate p (0 : UInt8) ++ (List.range m).map (fun k => UInt8.ofNat (xb x k)) ++ List.replicate (T.size - p - m) 0)[j]'(by rw [hlE]; exact hj) = UInt8.ofNat (ev p x m j) := by
      unfold ev
      by_cases c1 : j < p
      · rw [List.getElem_append_left (by simp; omega), List.getElem_append_left (by simp; omega), List.getElem_replicate, if_neg (by omega)]
        rfl
      · by_cases c2 : j < p + m
        · rw [List.getElem_append_left (by simp; omega), List.getElem_append_right (by simp; omega), if_pos (by omega)]
          simp
        · rw [List.getElem_append_right (by simp; omega), List.getElem_replicate, if_neg (by omega)]
          rfl
    rw [hE]
    apply UInt8.toNat_inj.mp
    have he : ev p x m j < 256 := by
      unfold ev
      split
      · exact xb_lt _ _
      · decide
    have ht := T.data.toList[j].toNat_lt
    have hx := Nat.xor_lt_two_pow (n := 8) ht (show ev p x m j < 2 ^ 8 from he)
    rw [UInt8.toNat_xor, UInt8.toNat_ofNat', UInt8.toNat_ofNat', Nat.mod_eq_of_lt hx, Nat.mod_eq_of_lt (show ev p x m j < 2 ^ 8 from he)]

/-- What opening the turned text answers. -/
theorem open_turned (s T : ByteArray) (hT : T.data.toList = s.data.toList ++ markL s.data.toList) (hs : s.size ≤ 2000) (p : Nat) (x : Int) (m : Nat) (hm : p + m ≤ T.size) (h4 : m ≤ 4) :
    ∃ t, sum_Open.f (strOfNums (fin T p x m)) = some (t, if chg x m = true then 5 else 0) ∧ (chg x m = false → t = s) := by
  have hTs : T.size = s.size + 4 := by rw [← sizeL, hT, List.length_append, markL_length, sizeL]
  have hU : (strOfNums (fin T p x m)).data.toList = List.zipWith (· ^^^ ·) (s.data.toList ++ markL s.data.toList) (List.replicate p 0 ++ (List.range m).map (fun k => UInt8.ofNat (xb x k)) ++ List.replicate (T.size - p - m) 0) := by
    rw [strL, fin_zip T p x m hm, hT]
  have hUs : (strOfNums (fin T p x m)).size = T.size := by
    rw [← sizeL, strL]
    simp [Lib.bytesOf, fin]
  have hS := spoilt s.data.toList p (T.size - p - m) ((List.range m).map (fun k => UInt8.ofNat (xb x k))) (by simp only [List.length_map, List.length_range, sizeL]; omega) (by simpa using h4)
  rw [← hU] at hS
  have hall : (∀ y ∈ (List.range m).map (fun k => UInt8.ofNat (xb x k)), y = 0) ↔ chg x m = false := by
    rw [chg_iff]
    constructor
    · intro h k hk
      have := h (UInt8.ofNat (xb x k)) (List.mem_map.mpr ⟨k, List.mem_range.mpr hk, rfl⟩)
      have h2 := congrArg UInt8.toNat this
      rw [UInt8.toNat_ofNat', Nat.mod_eq_of_lt (show xb x k < 2 ^ 8 from xb_lt x k)] at h2
      exact h2
    · intro h y hy
      obtain ⟨k, hk, rfl⟩ := List.mem_map.mp hy
      rw [h k (List.mem_range.mp hk)]
      rfl
  rw [hall] at hS
  rw [open_f _ (by omega), if_neg (by omega)]
  cases hc : chg x m with
  | true =>
    rw [if_neg (fun h => by rw [hS.mp h] at hc; cases hc)]
    exact ⟨_, rfl, fun h => by cases h⟩
  | false =>
    rw [if_pos (hS.mpr hc)]
    refine ⟨_, rfl, fun _ => ?_⟩
    have hz : List.replicate p (0 : UInt8) ++ (List.range m).map (fun k => UInt8.ofNat (xb x k)) ++ List.replicate (T.size - p - m) 0 = List.replicate (s.data.toList ++ markL s.data.toList).length 0 := by
      refine List.eq_replicate_iff.mpr ⟨?_, fun b hb => ?_⟩
      · simp only [List.length_append, List.length_replicate, List.length_map, List.length_range, markL_length, sizeL]; omega
      · simp only [List.mem_append, List.mem_replicate] at hb
        rcases hb with (⟨_, rfl⟩ | hb) | ⟨_, rfl⟩
        · rfl
        · exact hall.mpr hc b hb
        · rfl
    rw [hz, zip_noughts] at hU
    apply ext
    rw [extract_front, hU, hUs, hTs, show s.size + 4 - 4 = s.data.toList.length by rw [sizeL]; omega, List.take_left]

set_option maxHeartbeats 4000000 in
set_option maxRecDepth 100000 in
theorem spoilt_walk (s : ByteArray) (pos x : Int) (w : World) (hs : s.size ≤ 140737488351232) (hx0 : 0 ≤ x) (hx1 : x < 4294967296) (hpos : -9223372036854775808 ≤ pos ∧ pos ≤ 9223372036854775807) (hLaid : LaidT w) :
    Calls Tryd.prog 5 #[.string s, .int .i64 pos, .int .u32 x] w fun e w' => e = .returned (.bool true) ∧ Below w.heap.size w w' := by
  have HL := Lib.hid hLaid
  clear hLaid
  have hsp := Lib.hid speaks20
  by_cases h2 : (s.size : Int) > 2000
  · have h2' : decide (2000 < (s.size : Int)) = true := decide_eq_true h2
    clear h2
    go_enter Tryd.func5, Tryd.ntmps5
    go_wp2_with (go_at_call 8; refine (concordancelaw02_speaks.calls 20 true _ hsp.out (laid_below HL.out (Below.refl _ _))).mono ?_; rintro e w1 ⟨rfl, hb⟩)
    go_ret
    exact ⟨rfl, hb⟩
  · have h2' : decide (2000 < (s.size : Int)) = false := decide_eq_false h2
    obtain ⟨T, hT, hTl, hTs⟩ := seal_f s (by omega)
    have HT := Lib.hid hT
    have HTl := Lib.hid hTl
    clear hT hTl
    have hcv := fun W : World => Lib.run_convert_string_bytes (P := Tryd.prog) W 9 35 5 T Tryd.underlying9 Tryd.underlying35 Tryd.underlying5
    have hTb : 4 ≤ T.size ∧ T.size ≤ 2004 := by omega
    have HTS := Lib.hid hTs
    clear h2 hTs
    obtain ⟨r1, hr1⟩ : ∃ r1, Int.tmod pos (T.size : Int) = r1 := ⟨_, rfl⟩
    have b1 : -(T.size : Int) < r1 ∧ r1 < (T.size : Int) := by
      rw [← hr1]
      exact ⟨by have := Int.lt_tmod_of_pos pos (show (0 : Int) < (T.size : Int) by omega); omega, Int.tmod_lt_of_pos pos (by omega)⟩
    obtain ⟨p, hp, hpl⟩ : ∃ p : Nat, (r1 + (T.size : Int)) % (T.size : Int) = (p : Int) ∧ p < T.size := by
      have h0 := Int.emod_nonneg (r1 + (T.size : Int)) (show (T.size : Int) ≠ 0 by omega)
      have h1 := Int.emod_lt_of_pos (r1 + (T.size : Int)) (show (0 : Int) < (T.size : Int) by omega)
      exact ⟨((r1 + (T.size : Int)) % (T.size : Int)).toNat, by omega, by omega⟩
    have hz : ((T.size : Int) == 0) = false := by rw [beq_eq_false_iff_ne]; omega
    go_enter Tryd.func5, Tryd.ntmps5
    go_wp2_with (first | (go_at_call 8; refine (concordancelaw02_speaks.calls 20 true _ hsp.out (laid_below HL.out (Below.refl _ _))).mono ?_; rintro e w1 ⟨rfl, hb⟩) | (go_at_call 10; refine (sum_Seal.calls _ _ _ HT.out (laid_below HL.out hb)).mono ?_; rintro e w2 ⟨rfl, hb2⟩))
    rw [hp]
    have HB0 : Below w.heap.size w w2 := hb.trans ⟨hb2.os, hb2.tape, hb2.output, hb2.size, fun k hk => hb2.block k (Nat.lt_of_lt_of_le hk hb.size)⟩
    have hg : w.heap.size ≤ w2.heap.size := HB0.size
    have HB : Below w.heap.size w (Lib.bytesWorld w2 5 T) := HB0.trans (Go.Joins.below_bytesWorld _ w2 5 T hg)
    have hcap : T.size ≤ grownCap w2 T.size 0 5 := grownCap_ge _ _ _ _
    have HC := cells_start w2 T p x hcap
    clear HB0
    generalize grownCap w2 T.size 0 5 = cap at *
    generalize w2.heap.size = g at *
    generalize Lib.bytesWorld w2 5 T = w3 at *
    clear hb hb2 hcv hr1 hp
    go_loopw [8, 9] (fun c i wr => ∃ k : Nat, k ≤ 4 ∧ p + k ≤ T.size ∧ i = .int .i64 k ∧ c = .bool (chg x k) ∧ Cells T g p x k wr ∧ Below w.heap.size w wr) (fun _ i _ => 4 - (intOf i).toNat)
    case atStart => exact ⟨0, by omega, by omega, rfl, rfl, HC, HB⟩
    case round =>
      obtain ⟨k, hk, hpk, rfl, rfl, hC, hB⟩ := hrel
      have hsh : (x / 2 ^ (8 * k) % 256 : Int) = ((xb x k : Nat) : Int) := by
        obtain ⟨n, rfl⟩ := Int.eq_ofNat_of_zero_le hx0
        unfold xb
        rw [Int.toNat_natCast, Int.natCast_emod, Int.natCast_ediv, Int.natCast_pow]
        rfl
      by_cases hin : k < 4 ∧ p + k < T.size
      · obtain ⟨h4, hend⟩ := hin
        have hcell := hC.cell (p + k) hend
        have hfree := hC.free (p + k) hend
        have hv : bits .xor .u8 ((tj T p x k (p + k) : Nat) : Int) ((xb x k : Nat) : Int) = ((tj T p x k (p + k) ^^^ xb x k : Nat) : Int) := by
          refine u8_xor_nat _ _ ?_ (xb_lt _ _)
          have e0 : ev p x k (p + k) = 0 := by unfold ev; rw [if_neg (by omega)]
          unfold tj
          rw [e0, Nat.xor_zero]
          exact UInt8.toNat_lt _
        have hne : (((xb x k : Nat) : Int) != 0) = decide (xb x k ≠ 0) := by
          rw [Bool.eq_iff_iff, bne_iff_ne, decide_eq_true_eq]; omega
        have HS := Lib.hid hsh
        have HV := Lib.hid hv
        have HN := Lib.hid hne
        clear hsh hv hne
        cases hcg : chg x k with
        | true =>
          go_wp2
          go_roundw
          case rel => exact ⟨k + 1, by omega, by omega, by go_num, by simp only [chg, hcg, Bool.true_or], cells_step hC hend _ (by rw [HS.out, HV.out]), hB.setCell hg _⟩
          case measure => simp [intOf]; omega
        | false =>
          go_wp2
          go_roundw
          case rel => exact ⟨k + 1, by omega, by omega, by go_num, by rw [HS.out, HN.out]; simp only [chg, hcg, Bool.false_or], cells_step hC hend _ (by rw [HS.out, HV.out]), hB.setCell hg _⟩
          case measure => simp [intOf]; omega
      · clear hsh
        obtain ⟨t, ht, hts⟩ := open_turned s T HTl.out (by have := HTS.out; omega) p x k hpk hk
        have HO := Lib.hid ht
        clear ht
        have hfl : (fin T p x k).length = T.size := by simp [fin]
        have hconv := run_convert_bytes_arg (P := Tryd.prog) wr 35 5 Tryd.underlying35 Tryd.underlying5 g 0 T.size cap (fin T p x k) hfl (fun i hi => by
          rw [Nat.zero_add, hC.cell i hi]
          simp [fin, hi]) 9 Tryd.underlying9
        have hLr : LaidT wr := laid_below HL.out hB
        cases hcg : chg x k with
        | true =>
          by_cases h4 : k < 4
          · have hend : ¬ p + k < T.size := fun h => hin ⟨h4, h⟩
            go_wp2_with (go_at_call 9; refine (sum_Open.calls _ _ _ _ HO.out hLr).mono ?_; rintro e w4 ⟨rfl, hb4⟩)
            go_ret
            exact ⟨rfl, hB.trans ⟨hb4.os, hb4.tape, hb4.output, hb4.size, fun k hk => hb4.block k (Nat.lt_of_lt_of_le hk hB.size)⟩⟩
          · go_wp2_with (go_at_call 9; refine (sum_Open.calls _ _ _ _ HO.out hLr).mono ?_; rintro e w4 ⟨rfl, hb4⟩)
            go_ret
            exact ⟨rfl, hB.trans ⟨hb4.os, hb4.tape, hb4.output, hb4.size, fun k hk => hb4.block k (Nat.lt_of_lt_of_le hk hB.size)⟩⟩
        | false =>
          obtain rfl := hts hcg
          by_cases h4 : k < 4
          · have hend : ¬ p + k < T.size := fun h => hin ⟨h4, h⟩
            go_wp2_with (go_at_call 9; refine (sum_Open.calls _ _ _ _ HO.out hLr).mono ?_; rintro e w4 ⟨rfl, hb4⟩)
            go_ret
            exact ⟨rfl, hB.trans ⟨hb4.os, hb4.tape, hb4.output, hb4.size, fun k hk => hb4.block k (Nat.lt_of_lt_of_le hk hB.size)⟩⟩
          · go_wp2_with (go_at_call 9; refine (sum_Open.calls _ _ _ _ HO.out hLr).mono ?_; rintro e w4 ⟨rfl, hb4⟩)
            go_ret
            exact ⟨rfl, hB.trans ⟨hb4.os, hb4.tape, hb4.output, hb4.size, fun k hk => hb4.block k (Nat.lt_of_lt_of_le hk hB.size)⟩⟩

end Go.Proofs.YtdcnfekcbijfgaaDoor.SB
