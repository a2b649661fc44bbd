import Derived.Test.YteccbihjkolpcaaLkPl
import Derived.Deep.RegionHeld3
set_option linter.unusedVariables false
set_option linter.unusedSimpArgs false
namespace Go.Proofs.Yteccbihjkolpcaa
open Go.RowKit Go.Maps LockP Go.Proofs.Yteccbihjkolpcaa.PA Go.Proofs.YteccbihjkolpcaaW.PrintWords

def PlL (w1 : World) (l : List Act) (v4 v5 : Value) (wr : World) : Prop :=
  ∃ (k : Nat) (L : List H), k ≤ l.length ∧ k ≤ 60 ∧ v5 = .int .i64 k ∧ Pl w1 wr ⟨w1.heap.size, 0, none⟩ (2 * k) v4 L L

set_option maxHeartbeats 1600000 in
set_option maxRecDepth 100000 in
theorem plays_walk (w : World) (A : Option Addr) (cap : Nat) (l : List Act) (hl : l.length ≤ 9223372036854775807) (hA : ReadsA w A l) (hw : ∀ y ∈ l, WfA y) :
    Calls Try.prog 4 #[.slice A l.length cap] w fun e w' => e = .returned (.bool true) ∧ Below w.heap.size w w' := by
  have HA := Lib.hid hA
  have HW := Lib.hid hw
  clear hA hw
  go_enter Try.func4, Try.ntmps4
  go_wp2_with (go_at_call 7; refine (speaks_any _).mono ?_; rintro e w1 ⟨rfl, hbw1⟩)
  go_loopw [4, 5] (fun v i wr => PlL w1 l v i wr) (fun _ i _ => l.length - (intOf i).toNat)
  case atStart => exact ⟨0, [], Nat.zero_le _, Nat.zero_le _, rfl, pl_new w1⟩
  case round =>
    rename_i v4 v5
    obtain ⟨k, L, hk, hk60, rfl, hpl⟩ := hrel
    by_cases hlt : k < l.length ∧ k < 60
    · obtain ⟨h1, h2⟩ := hlt
      obtain ⟨y, hy⟩ : ∃ y, l[k]? = some y := ⟨l[k], by simp [h1]⟩
      obtain ⟨ad, rfl, c0, c1, c2, c3⟩ := HA.out k y hy
      have wy := HW.out y (List.mem_of_getElem? hy)
      clear hy
      have h2' : (k : Int) < 60 := by omega
      have hbo := hbw1.trans (hpl.bel.mono hbw1.size)
      have d0 := old hbo c0
      have d1 := old hbo c1
      have d2 := old hbo c2
      have d3 := old hbo c3
      have hpb := hpl.pb y
      go_wp2_with fail
      · have hpda := hpb.drew
        have hpca := hpda.cells
        go_region_held3 (fun w' => w'.cell? ⟨wr.heap.size, 1, none⟩ = some (.int .i64 y.s)) (first | exact hpca.1 | exact (by assumption : Pb _ _ _ _ _ _ _ _ _).cells.1) (first
          | (go_at_call 11; refine (release_pl (by assumption) y.s wy.2.1 (by omega)).mono ?_; rintro e wAa ⟨rfl, hpAa⟩)
          | (go_at_call 12; refine (count_pl (by assumption) y.s (by omega)).mono ?_; rintro e wBa ⟨rfl, hpBa⟩))
        go_wp2_with fail
        refine (without_pl hpBa y.s (by omega)).mono ?_
        rintro e wC ⟨vC, rfl, hpC⟩
        go_wp2_with fail
        have hpdz := hpC.drew
        have hpcz := hpdz.cells
        go_region_held3 (fun w' => w'.cell? ⟨wr.heap.size, 1, none⟩ = some (.int .i64 y.s)) (first | exact hpcz.1 | exact (by assumption : Pb _ _ _ _ _ _ _ _ _).cells.1) (first
          | (go_at_call 15; refine (held_pl (by assumption) y.s wy.2.1).mono ?_; rintro e wAz ⟨rfl, hpAz⟩)
          | (go_at_call 12; refine (count_pl (by assumption) y.s (by omega)).mono ?_; rintro e wBz ⟨rfl, hpBz⟩))
        go_wp2_with fail
        go_roundw
        case rel => exact ⟨k + 1, _, by omega, by omega, by go_num, hpBz.pl.mono (by omega)⟩
        case measure => simp [intOf]; omega
      · refine (read_pl hpb y.s y.t wy.2.1 wy.2.2.1 (by omega)).mono ?_
        rintro e wA ⟨rfl, hpA⟩
        have hcA := hpA.cells
        obtain ⟨c1A, c2A, c3A⟩ := hcA
        go_wp2_with fail
        refine (ask_pl hpA y.s y.t 0 0 (by omega) (by omega)).mono ?_
        rintro e wB ⟨vB, rfl, hpB⟩
        go_wp2_with fail
        have hpdz := hpB.drew
        have hpcz := hpdz.cells
        go_region_held3 (fun w' => w'.cell? ⟨wr.heap.size, 1, none⟩ = some (.int .i64 y.s)) (first | exact hpcz.1 | exact (by assumption : Pb _ _ _ _ _ _ _ _ _).cells.1) (first
          | (go_at_call 15; refine (held_pl (by assumption) y.s wy.2.1).mono ?_; rintro e wAz ⟨rfl, hpAz⟩)
          | (go_at_call 12; refine (count_pl (by assumption) y.s (by omega)).mono ?_; rintro e wBz ⟨rfl, hpBz⟩))
        go_wp2_with fail
        go_roundw
        case rel => exact ⟨k + 1, _, by omega, by omega, by go_num, hpBz.pl.mono (by omega)⟩
        case measure => simp [intOf]; omega
      · refine (alone_pl hpb y.s y.t wy.2.1 wy.2.2.1 (by omega)).mono ?_
        rintro e wA ⟨rfl, hpA⟩
        have hcA := hpA.cells
        obtain ⟨c1A, c2A, c3A⟩ := hcA
        go_wp2_with fail
        refine (ask_pl hpA y.s y.t 2 0 (by omega) (by omega)).mono ?_
        rintro e wB ⟨vB, rfl, hpB⟩
        go_wp2_with fail
        have hpdz := hpB.drew
        have hpcz := hpdz.cells
        go_region_held3 (fun w' => w'.cell? ⟨wr.heap.size, 1, none⟩ = some (.int .i64 y.s)) (first | exact hpcz.1 | exact (by assumption : Pb _ _ _ _ _ _ _ _ _).cells.1) (first
          | (go_at_call 15; refine (held_pl (by assumption) y.s wy.2.1).mono ?_; rintro e wAz ⟨rfl, hpAz⟩)
          | (go_at_call 12; refine (count_pl (by assumption) y.s (by omega)).mono ?_; rintro e wBz ⟨rfl, hpBz⟩))
        go_wp2_with fail
        go_roundw
        case rel => exact ⟨k + 1, _, by omega, by omega, by go_num, hpBz.pl.mono (by omega)⟩
        case measure => simp [intOf]; omega
      · refine (write_pl hpb y.s y.t y.r wy.2.1 wy.2.2.1 wy.2.2.2 (by omega)).mono ?_
        rintro e wA ⟨rfl, hpA⟩
        have hcA := hpA.cells
        obtain ⟨c1A, c2A, c3A⟩ := hcA
        go_wp2_with fail
        refine (ask_pl hpA y.s y.t 1 y.r (by omega) (by omega)).mono ?_
        rintro e wB ⟨vB, rfl, hpB⟩
        go_wp2_with fail
        have hpdz := hpB.drew
        have hpcz := hpdz.cells
        go_region_held3 (fun w' => w'.cell? ⟨wr.heap.size, 1, none⟩ = some (.int .i64 y.s)) (first | exact hpcz.1 | exact (by assumption : Pb _ _ _ _ _ _ _ _ _).cells.1) (first
          | (go_at_call 15; refine (held_pl (by assumption) y.s wy.2.1).mono ?_; rintro e wAz ⟨rfl, hpAz⟩)
          | (go_at_call 12; refine (count_pl (by assumption) y.s (by omega)).mono ?_; rintro e wBz ⟨rfl, hpBz⟩))
        go_wp2_with fail
        go_roundw
        case rel => exact ⟨k + 1, _, by omega, by omega, by go_num, hpBz.pl.mono (by omega)⟩
        case measure => simp [intOf]; omega
    · have hex : l.length ≤ k ∨ (k < l.length ∧ (60 : Int) ≤ (k : Int)) := by omega
      clear hlt
      rcases hex with h1 | ⟨h1, h2⟩
      all_goals
        go_wp2_with fail
        go_ret
        exact ⟨rfl, hbw1.trans (hpl.bel.mono hbw1.size)⟩
end Go.Proofs.Yteccbihjkolpcaa
