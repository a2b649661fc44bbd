/-
  The law's orders.
-/
import Derived.Test.YtfaabbimbjegmaaDoorTpV
import Derived.Test.YtfaabbimbjegmaaDoorTpW
set_option linter.unusedVariables false
set_option linter.unusedSimpArgs false
namespace Go.Proofs.YtfaabbimbjegmaaDoor
open Go Go.RowKit Go.Proofs.YtfaabbimbjegmaaDoor.PA Go.Proofs.YtfaabbimbjegmaaDoor.SB Go.Proofs.YtfaabbimbjegmaaDoorW.PrintWords
namespace TP
def kA : ByteArray := ⟨#[16, 0, 255, 255, 255, 255, 255]⟩
def kB : ByteArray := ⟨#[32, 120, 0, 1]⟩
theorem number_f : keys_Number.f (-1) = some (⟨#[]⟩, -1, false) := rfl
theorem text_f : keys_Text.f ⟨#[120]⟩ = some (⟨#[120]⟩, 0, true) := rfl
theorem putA_f : keys_Put.f 30 [⟨⟨#[]⟩, -1, false⟩] = some (kA, 0) := by decide +kernel
theorem putB_f : keys_Put.f 30 [⟨⟨#[120]⟩, 0, true⟩] = some (kB, 0) := by decide +kernel
theorem oneV {w : World} {b : Nat} {x : V} (h : Bx w b #[.string x.f0, .int .i64 x.f1, .bool x.f2] 32) : Kd.C k32 w (some ⟨b, 0, none⟩) 1 [x] := ⟨rfl, by decide, fun _ => ⟨_, rfl, fun j p hj => by
  obtain rfl : j = 0 := by
    rcases Nat.eq_zero_or_pos j with h | h
    · exact h
    · rw [List.getElem?_eq_none (by simp; omega)] at hj; cases hj
  obtain rfl : x = p := by injection hj
  exact ⟨[.string x.f0, .int .i64 x.f1, .bool x.f2], rfl, k32_mk w x, fun i u hu => by
    have h1 := h.cell i
    have h2 : Addr.add ⟨b, 0, none⟩ (0 * k32.sz + i) = ⟨b, i, none⟩ := by rw [Addr.add_lit]; simp
    rw [h2, h1]
    simpa using hu⟩⟩⟩
def l2 : List E := [⟨kA, ⟨#[]⟩, false⟩, ⟨kB, ⟨#[]⟩, false⟩]
theorem twoE {w : World} {b : Nat} (h : Bx w b #[.string kA, .string ⟨#[]⟩, .bool false, .string kB, .string ⟨#[]⟩, .bool false] 43) : RdE w (.slice (some ⟨b, 0, none⟩) 2 2) l2 := by
  refine ⟨some ⟨b, 0, none⟩, 2, rfl, by decide, by decide, rfl, by decide, fun _ => ⟨_, rfl, fun j p hj => ?_⟩⟩
  have h2 : ∀ j i, Addr.add ⟨b, 0, none⟩ (j * k43.sz + i) = ⟨b, j * 3 + i, none⟩ := fun j i => by rw [Addr.add_lit, Nat.zero_add]; rfl
  match j, hj with
  | 0, hj =>
    obtain rfl : (⟨kA, ⟨#[]⟩, false⟩ : E) = p := by injection hj
    refine ⟨[.string kA, .string ⟨#[]⟩, .bool false], rfl, k43_mk w _, fun i u hu => ?_⟩
    rw [h2, h.cell]
    match i, hu with
    | 0, hu => exact hu
    | 1, hu => exact hu
    | 2, hu => exact hu
    | i + 3, hu => simp at hu
  | 1, hj =>
    obtain rfl : (⟨kB, ⟨#[]⟩, false⟩ : E) = p := by injection hj
    refine ⟨[.string kB, .string ⟨#[]⟩, .bool false], rfl, k43_mk w _, fun i u hu => ?_⟩
    rw [h2, h.cell]
    match i, hu with
    | 0, hu => exact hu
    | 1, hu => exact hu
    | 2, hu => exact hu
    | i + 3, hu => simp at hu
  | j + 2, hj => simp [l2] at hj
theorem l2_small : Small l2 := ⟨by decide, fun e he => by
  simp only [l2, List.mem_cons, List.not_mem_nil, or_false] at he
  rcases he with rfl | rfl
  · exact ⟨by decide, by decide⟩
  · exact ⟨by decide, by decide⟩⟩
theorem l2_sizes : sizes l2 ≤ 489 := by decide
set_option maxHeartbeats 8000000 in
set_option maxRecDepth 100000 in
theorem orders_c {w : World} (hL : LaidT w) : Calls Tryd.prog 4 #[] w fun e w' => e = .returned (.bool true) ∧ Below w.heap.size w w' := by
  have HLd := Lib.hid hL
  clear hL
  go_enter Tryd.func4, Tryd.ntmps4
  go_wp2_with fail
  refine (keys_Number.calls (-1) _ _ _ w number_f).mono ?_
  rintro _ w1 ⟨rfl, hb1⟩
  go_wp2_with fail
  have X1 := bx_new w1 #[.string ⟨#[]⟩, .int .i64 (-1), .bool false] 32
  have B1 : Below w.heap.size w (w1.alloc (.cells #[.string ⟨#[]⟩, .int .i64 (-1), .bool false] 32)) := hb1.alloc hb1.size _
  generalize World.alloc w1 _ = w2 at X1 B1 ⊢
  refine (keys_Put.calls 30 _ 1 [⟨⟨#[]⟩, -1, false⟩] _ _ w2 (oneV X1) (by decide) putA_f).mono ?_
  rintro _ w3 ⟨rfl, hb3⟩
  have B3 := B1.trans (hb3.mono B1.size)
  clear X1 B1 hb1 hb3
  go_wp2_with fail
  refine (keys_Text.calls ⟨#[120]⟩ _ _ _ w3 text_f).mono ?_
  rintro _ w4 ⟨rfl, hb4⟩
  have B4 := B3.trans (hb4.mono B3.size)
  go_wp2_with fail
  have X5 := bx_new w4 #[.string ⟨#[120]⟩, .int .i64 0, .bool true] 32
  have B5 : Below w.heap.size w (w4.alloc (.cells #[.string ⟨#[120]⟩, .int .i64 0, .bool true] 32)) := B4.alloc B4.size _
  generalize World.alloc w4 _ = w5 at X5 B5 ⊢
  refine (keys_Put.calls 30 _ 1 [⟨⟨#[120]⟩, 0, true⟩] _ _ w5 (oneV X5) (by decide) putB_f).mono ?_
  rintro _ w6 ⟨rfl, hb6⟩
  have B6 := B5.trans (hb6.mono B5.size)
  clear B3 hb4 B4 X5 B5 hb6
  go_wp2_with fail
  have X7 := bx_new w6 #[.string kA, .string ⟨#[]⟩, .bool false, .string kB, .string ⟨#[]⟩, .bool false] 43
  have B7 : Below w.heap.size w (w6.alloc (.cells #[.string kA, .string ⟨#[]⟩, .bool false, .string kB, .string ⟨#[]⟩, .bool false] 43)) := B6.alloc B6.size _
  have HX := Lib.hid (twoE X7)
  clear X7
  generalize World.alloc w6 _ = w7 at HX B7 ⊢
  refine (encode_c (l := l2) 0 3 (by decide) (by decide) l2_small l2_sizes HX.out (laid_below HLd.out B7)).mono ?_
  rintro _ w8 ⟨rfl, hb8⟩
  have B8 := B7.trans (hb8.mono B7.size)
  have hbl := bodyB_length 3 l2 l2_sizes
  generalize bodyB 3 l2 = bd at hbl ⊢
  obtain ⟨pg, hpg⟩ : ∃ pg, pg = sealB 0 bd := ⟨_, rfl⟩
  rw [← hpg]
  have HPG := Lib.hid hpg
  clear hpg B6 B7 hb8
  have hlss : Op.bytesLess kA.toList kB.toList = true := by decide +kernel
  go_wp2_with fail
  have hwh := whole_c 0 bd hbl w8 (laid_below HLd.out B8)
  rw [← HPG.out] at hwh
  refine hwh.mono ?_
  rintro _ w9 ⟨rfl, hb9⟩
  have B9 := B8.trans (hb9.mono B8.size)
  clear hwh
  go_wp2_with fail
  refine (put2_c 7 w9 (by decide)).mono ?_
  rintro _ wa ⟨rfl, hba⟩
  have Ba := B9.trans (hba.mono B9.size)
  go_wp2_with fail
  refine (get_c (nb 7 2) wa).mono ?_
  rintro _ wb ⟨rfl, hbb⟩
  have Bb := Ba.trans (hbb.mono Ba.size)
  have h7 : getL (nb 7 2).data.toList = 7 := get_nb (by decide) (by decide)
  rw [h7]
  go_wp2_with fail
  go_ret
  exact ⟨rfl, Bb⟩
end TP
end Go.Proofs.YtfaabbimbjegmaaDoor
