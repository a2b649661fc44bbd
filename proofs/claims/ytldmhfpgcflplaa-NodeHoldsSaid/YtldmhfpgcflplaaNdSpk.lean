/-
  The law's own example: four entries into a node, and the node in two.
-/
import Derived.Test.YtldmhfpgcflplaaNdSp
set_option linter.unusedVariables false
set_option linter.unusedSimpArgs false
namespace Go.Proofs.Ytldmhfpgcflplaa
open Go Go.RowKit Go.Proofs.Ytldmhfpgcflplaa.PA Go.Proofs.YtldmhfpgcflplaaW.PrintWords NdP

def spk : Nat → Ent
  | 0 => ⟨⟨#[99]⟩, ⟨#[]⟩, false⟩
  | 1 => ⟨⟨#[97]⟩, ⟨#[]⟩, false⟩
  | 2 => ⟨⟨#[100]⟩, ⟨#[]⟩, false⟩
  | _ => ⟨⟨#[98]⟩, ⟨#[]⟩, false⟩
def spl : Nat → List Ent
  | 0 => []
  | 1 => [spk 0]
  | 2 => [spk 1, spk 0]
  | 3 => [spk 1, spk 0, spk 2]
  | _ => [spk 1, spk 3, spk 0, spk 2]
def spp (k : Nat) : Pg := ⟨0, 3, 0, 0, ⟨#[]⟩, spl k⟩
theorem sp_ins0 : ins (spp 0) (spk 0) = (spp 1, 0) := by kernel_rfl
theorem sp_ins1 : ins (spp 1) (spk 1) = (spp 2, 0) := by kernel_rfl
theorem sp_ins2 : ins (spp 2) (spk 2) = (spp 3, 0) := by kernel_rfl
theorem sp_ins3 : ins (spp 3) (spk 3) = (spp 4, 0) := by kernel_rfl
theorem sp_ins (k : Nat) (h : k < 4) : ins (spp k) (spk k) = (spp (k + 1), 0) := by
  match k, h with
  | 0, _ => exact sp_ins0
  | 1, _ => exact sp_ins1
  | 2, _ => exact sp_ins2
  | 3, _ => exact sp_ins3
theorem ins_ok {p q : Pg} {e : Ent} (h : ins p e = (q, 0)) : e.k.size ≤ 64 ∧ e.v.size ≤ 100 ∧ covers p e.k = true ∧ there p.es e.k = false ∧ (size e : Int) ≤ free p ∧ q = { p with es := p.es.take (place p.es e.k) ++ e :: p.es.drop (place p.es e.k) } := by
  unfold ins at h
  by_cases h1 : 64 < e.k.size ∨ 100 < e.v.size ∨ covers p e.k = false
  · rw [if_pos h1] at h
    injection h with _ h2
    omega
  rw [if_neg h1] at h
  cases h2 : there p.es e.k
  · rw [if_neg (by rw [h2]; simp)] at h
    by_cases h3 : free p < (size e : Int)
    · rw [if_pos h3] at h
      injection h with _ h2
      omega
    · rw [if_neg h3] at h
      injection h with h4 _
      refine ⟨by omega, by omega, ?_, rfl, by omega, h4.symm⟩
      cases hc : covers p e.k
      · exact absurd (Or.inr (Or.inr hc)) h1
      · rfl
  · rw [if_pos h2] at h
    injection h with _ h2
    omega
theorem sp_sorted : ∀ k : Nat, k < 5 → Sorted (spl k)
  | 0, _ => by simp [spl, Sorted]
  | k + 1, h => by
    obtain ⟨_, _, _, h4, _, h6⟩ := ins_ok (sp_ins k (by omega))
    have h7 : (spl k).take (place (spl k) (spk k).k) ++ spk k :: (spl k).drop (place (spl k) (spk k).k) = spl (k + 1) := (congrArg Pg.es h6).symm
    rw [← h7]
    exact ins_sorted (sp_sorted k (by omega)) h4
theorem spk_size (k : Nat) : (spk k).k.size = 1 ∧ (spk k).v.size = 0 := by
  match k with
  | 0 => exact ⟨rfl, rfl⟩
  | 1 => exact ⟨rfl, rfl⟩
  | 2 => exact ⟨rfl, rfl⟩
  | _ + 3 => exact ⟨rfl, rfl⟩
theorem spk_small (k : Nat) : (spk k).k.size ≤ 1000 ∧ (spk k).v.size ≤ 1000 := by
  have := spk_size k
  omega
theorem sp_small : ∀ k : Nat, Small (spl k)
  | 0 => ⟨by decide, by simp [spl]⟩
  | 1 => ⟨by decide, by simp only [spl]; intro e he; simp only [List.mem_cons, List.not_mem_nil, or_false] at he; subst he; exact spk_small _⟩
  | 2 => ⟨by decide, by simp only [spl]; intro e he; simp only [List.mem_cons, List.not_mem_nil, or_false] at he; rcases he with rfl | rfl <;> exact spk_small _⟩
  | 3 => ⟨by decide, by simp only [spl]; intro e he; simp only [List.mem_cons, List.not_mem_nil, or_false] at he; rcases he with rfl | rfl | rfl <;> exact spk_small _⟩
  | _ + 4 => ⟨by simp [spl], by simp only [spl]; intro e he; simp only [List.mem_cons, List.not_mem_nil, or_false] at he; rcases he with rfl | rfl | rfl | rfl <;> exact spk_small _⟩
theorem sp_cut : IsCut (spl 4) 2 := by
  refine ⟨by decide, fun j hj => ?_, fun h => ?_⟩
  · obtain rfl | rfl : j = 0 ∨ j = 1 := by omega
    · exact Or.inl rfl
    · refine Or.inr ?_
      decide +kernel
  · rcases h.2 with h | h
    · omega
    · revert h; decide +kernel
theorem sp_right : RightP (spp 4) := by
  refine ⟨rfl, fun h => absurd h (by decide), sp_sorted 4 (by omega), fun e _ => ?_, fun h => absurd h (by decide)⟩
  unfold covers spp
  rw [Bool.or_eq_true]
  refine Or.inl ?_
  decide +kernel
theorem sm_take {l : List Ent} (h : Small l) (i : Nat) : Small (l.take i) :=
  ⟨by rw [List.length_take]; have := h.1; omega, fun e he => h.2 e (List.mem_of_mem_take he)⟩
def strs : Array Value := #[.string ⟨#[99]⟩, .string ⟨#[97]⟩, .string ⟨#[100]⟩, .string ⟨#[98]⟩]
def SpkR (w : World) (v12 : Value) (wr : World) : Prop := ∃ (k : Nat) (z : Int) (s : Value), k ≤ 4 ∧ z = k ∧ v12 = .int .i64 z ∧ Bx wr w.heap.size #[.int .i64 0, .int .i64 3, .int .i64 0, .int .i64 0, .string ⟨#[]⟩, s] 28 ∧ OwN wr w.heap.size s (spl k) ∧ Bx wr (w.heap.size + 1) strs 9 ∧ Below w.heap.size w wr
set_option maxRecDepth 100000 in
set_option maxHeartbeats 1600000 in
theorem speaks_c (w : World) : Calls Try.prog 8 #[] w fun x w' => x = .returned (.bool true) ∧ Below w.heap.size w w' := by
  go_enter Try.func8, Try.ntmps8
  go_wp2_with fail
  go_loopw [12] (fun v12 wr => SpkR w v12 wr) (fun i _ => 4 - (intOf i).toNat)
  case atStart => exact ⟨0, 0, .slice none 0 0, by omega, rfl, rfl, bx_old (bx_new _ _ _) _, Kd.R_nil _ _ _ _ _, bx_at (bx_new _ _ _) (by simp), ((Below.refl w.heap.size w).alloc (Nat.le_refl _) _).alloc (by simp) _⟩
  case round =>
    obtain ⟨k, z, s, hk, hz, rfl, X0, hO, X1, hbw⟩ := hrel
    unfold strs at X1
    obtain ⟨rfl, rfl⟩ | ⟨rfl, rfl⟩ | ⟨rfl, rfl⟩ | ⟨rfl, rfl⟩ | ⟨rfl, rfl⟩ : (k = 0 ∧ z = 0) ∨ (k = 1 ∧ z = 1) ∨ (k = 2 ∧ z = 2) ∨ (k = 3 ∧ z = 3) ∨ (k = 4 ∧ z = 4) := by omega
    · clear hk hz
      obtain ⟨A, c, rfl, _⟩ := hO.rd
      obtain ⟨c0, c1, c2, c3, c4, c5⟩ := X0.six
      obtain ⟨f0, f1, f2, f3, f4, f5⟩ := X0.six_free
      have a0 := X1.cell 0
      have a1 := X1.cell 1
      have a2 := X1.cell 2
      have a3 := X1.cell 3
      have HI := Lib.hid (sp_ins 0 (by decide))
      have HO := Lib.hid hO
      clear hO
      go_wp2_with fail
      refine (insert_c (spp 0) (spk 0) wr (sp_sorted 0 (by decide)) (sp_small 0) (by decide) HO.out.rd).mono ?_
      rw [HI.out]
      rintro _ w1 ⟨v1, rfl, hO1, hb1⟩
      have hO1 : OwN w1 wr.heap.size v1 (spl (0 + 1)) := hO1
      obtain ⟨A1, c1', rfl, _⟩ := hO1.rd
      have X0' := X0.below hb1 X0.lt
      have X1' := X1.below hb1 X1.lt
      clear c0 c1 c2 c3 c4 c5 f0 f1 f2 f3 f4 f5 a0 a1 a2 a3
      have hb0 := Lib.hid X0.lt
      obtain ⟨c0, c1, c2, c3, c4, c5⟩ := X0'.six
      obtain ⟨f0, f1, f2, f3, f4, f5⟩ := X0'.six_free
      have hpv : pgV (spp (0 + 1)) (.slice A1 (spl (0 + 1)).length c1') = .agg #[.int .i64 0, .int .i64 3, .int .i64 0, .int .i64 0, .string ⟨#[]⟩, .slice A1 (spl (0 + 1)).length c1'] := rfl
      rw [hpv]
      clear hpv
      have hz : w.heap.size < w1.heap.size := X0'.lt
      go_wp2_with fail
      go_roundw
      case rel =>
        have hb1' := hbw.trans (hb1.mono hbw.size)
        generalize hW : World.setCell _ _ _ = W
        have hbW := bel_set6 hb1' (Nat.le_refl _) hW
        have hOW := Kd.R_lower (hO1.set6 (Below.refl _ _) hb0.out hW) (Nat.le_of_lt hb0.out)
        have X0W := X0'.set6 hW
        have X1W : Bx W (w.heap.size + 1) strs 9 := by unfold strs; rw [← hW]; exact X1'.far6 (b := w.heap.size) (by omega) _ _ _ _ _ _
        have hal := (Below.refl W.heap.size W).alloc (Nat.le_refl _) (.cells #[.int .i64 0, .int .i64 3, .int .i64 0, .int .i64 0, .string ⟨#[]⟩, .slice A1 (spl (0 + 1)).length c1'] 28)
        exact ⟨0 + 1, _, _, by omega, by simp, rfl, bx_old X0W _, Kd.R_below hOW hal, bx_old X1W _, hbW.alloc hbW.size _⟩
      case measure => simp [intOf]
    · clear hk hz
      obtain ⟨A, c, rfl, _⟩ := hO.rd
      obtain ⟨c0, c1, c2, c3, c4, c5⟩ := X0.six
      obtain ⟨f0, f1, f2, f3, f4, f5⟩ := X0.six_free
      have a0 := X1.cell 0
      have a1 := X1.cell 1
      have a2 := X1.cell 2
      have a3 := X1.cell 3
      have HI := Lib.hid (sp_ins 1 (by decide))
      have HO := Lib.hid hO
      clear hO
      go_wp2_with fail
      refine (insert_c (spp 1) (spk 1) wr (sp_sorted 1 (by decide)) (sp_small 1) (by decide) HO.out.rd).mono ?_
      rw [HI.out]
      rintro _ w1 ⟨v1, rfl, hO1, hb1⟩
      have hO1 : OwN w1 wr.heap.size v1 (spl (1 + 1)) := hO1
      obtain ⟨A1, c1', rfl, _⟩ := hO1.rd
      have X0' := X0.below hb1 X0.lt
      have X1' := X1.below hb1 X1.lt
      clear c0 c1 c2 c3 c4 c5 f0 f1 f2 f3 f4 f5 a0 a1 a2 a3
      have hb0 := Lib.hid X0.lt
      obtain ⟨c0, c1, c2, c3, c4, c5⟩ := X0'.six
      obtain ⟨f0, f1, f2, f3, f4, f5⟩ := X0'.six_free
      have hpv : pgV (spp (1 + 1)) (.slice A1 (spl (1 + 1)).length c1') = .agg #[.int .i64 0, .int .i64 3, .int .i64 0, .int .i64 0, .string ⟨#[]⟩, .slice A1 (spl (1 + 1)).length c1'] := rfl
      rw [hpv]
      clear hpv
      have hz : w.heap.size < w1.heap.size := X0'.lt
      go_wp2_with fail
      go_roundw
      case rel =>
        have hb1' := hbw.trans (hb1.mono hbw.size)
        generalize hW : World.setCell _ _ _ = W
        have hbW := bel_set6 hb1' (Nat.le_refl _) hW
        have hOW := Kd.R_lower (hO1.set6 (Below.refl _ _) hb0.out hW) (Nat.le_of_lt hb0.out)
        have X0W := X0'.set6 hW
        have X1W : Bx W (w.heap.size + 1) strs 9 := by unfold strs; rw [← hW]; exact X1'.far6 (b := w.heap.size) (by omega) _ _ _ _ _ _
        have hal := (Below.refl W.heap.size W).alloc (Nat.le_refl _) (.cells #[.int .i64 0, .int .i64 3, .int .i64 0, .int .i64 0, .string ⟨#[]⟩, .slice A1 (spl (1 + 1)).length c1'] 28)
        exact ⟨1 + 1, _, _, by omega, by simp, rfl, bx_old X0W _, Kd.R_below hOW hal, bx_old X1W _, hbW.alloc hbW.size _⟩
      case measure => simp [intOf]
    · clear hk hz
      obtain ⟨A, c, rfl, _⟩ := hO.rd
      obtain ⟨c0, c1, c2, c3, c4, c5⟩ := X0.six
      obtain ⟨f0, f1, f2, f3, f4, f5⟩ := X0.six_free
      have a0 := X1.cell 0
      have a1 := X1.cell 1
      have a2 := X1.cell 2
      have a3 := X1.cell 3
      have HI := Lib.hid (sp_ins 2 (by decide))
      have HO := Lib.hid hO
      clear hO
      go_wp2_with fail
      refine (insert_c (spp 2) (spk 2) wr (sp_sorted 2 (by decide)) (sp_small 2) (by decide) HO.out.rd).mono ?_
      rw [HI.out]
      rintro _ w1 ⟨v1, rfl, hO1, hb1⟩
      have hO1 : OwN w1 wr.heap.size v1 (spl (2 + 1)) := hO1
      obtain ⟨A1, c1', rfl, _⟩ := hO1.rd
      have X0' := X0.below hb1 X0.lt
      have X1' := X1.below hb1 X1.lt
      clear c0 c1 c2 c3 c4 c5 f0 f1 f2 f3 f4 f5 a0 a1 a2 a3
      have hb0 := Lib.hid X0.lt
      obtain ⟨c0, c1, c2, c3, c4, c5⟩ := X0'.six
      obtain ⟨f0, f1, f2, f3, f4, f5⟩ := X0'.six_free
      have hpv : pgV (spp (2 + 1)) (.slice A1 (spl (2 + 1)).length c1') = .agg #[.int .i64 0, .int .i64 3, .int .i64 0, .int .i64 0, .string ⟨#[]⟩, .slice A1 (spl (2 + 1)).length c1'] := rfl
      rw [hpv]
      clear hpv
      have hz : w.heap.size < w1.heap.size := X0'.lt
      go_wp2_with fail
      go_roundw
      case rel =>
        have hb1' := hbw.trans (hb1.mono hbw.size)
        generalize hW : World.setCell _ _ _ = W
        have hbW := bel_set6 hb1' (Nat.le_refl _) hW
        have hOW := Kd.R_lower (hO1.set6 (Below.refl _ _) hb0.out hW) (Nat.le_of_lt hb0.out)
        have X0W := X0'.set6 hW
        have X1W : Bx W (w.heap.size + 1) strs 9 := by unfold strs; rw [← hW]; exact X1'.far6 (b := w.heap.size) (by omega) _ _ _ _ _ _
        have hal := (Below.refl W.heap.size W).alloc (Nat.le_refl _) (.cells #[.int .i64 0, .int .i64 3, .int .i64 0, .int .i64 0, .string ⟨#[]⟩, .slice A1 (spl (2 + 1)).length c1'] 28)
        exact ⟨2 + 1, _, _, by omega, by simp, rfl, bx_old X0W _, Kd.R_below hOW hal, bx_old X1W _, hbW.alloc hbW.size _⟩
      case measure => simp [intOf]
    · clear hk hz
      obtain ⟨A, c, rfl, _⟩ := hO.rd
      obtain ⟨c0, c1, c2, c3, c4, c5⟩ := X0.six
      obtain ⟨f0, f1, f2, f3, f4, f5⟩ := X0.six_free
      have a0 := X1.cell 0
      have a1 := X1.cell 1
      have a2 := X1.cell 2
      have a3 := X1.cell 3
      have HI := Lib.hid (sp_ins 3 (by decide))
      have HO := Lib.hid hO
      clear hO
      go_wp2_with fail
      refine (insert_c (spp 3) (spk 3) wr (sp_sorted 3 (by decide)) (sp_small 3) (by decide) HO.out.rd).mono ?_
      rw [HI.out]
      rintro _ w1 ⟨v1, rfl, hO1, hb1⟩
      have hO1 : OwN w1 wr.heap.size v1 (spl (3 + 1)) := hO1
      obtain ⟨A1, c1', rfl, _⟩ := hO1.rd
      have X0' := X0.below hb1 X0.lt
      have X1' := X1.below hb1 X1.lt
      clear c0 c1 c2 c3 c4 c5 f0 f1 f2 f3 f4 f5 a0 a1 a2 a3
      have hb0 := Lib.hid X0.lt
      obtain ⟨c0, c1, c2, c3, c4, c5⟩ := X0'.six
      obtain ⟨f0, f1, f2, f3, f4, f5⟩ := X0'.six_free
      have hpv : pgV (spp (3 + 1)) (.slice A1 (spl (3 + 1)).length c1') = .agg #[.int .i64 0, .int .i64 3, .int .i64 0, .int .i64 0, .string ⟨#[]⟩, .slice A1 (spl (3 + 1)).length c1'] := rfl
      rw [hpv]
      clear hpv
      have hz : w.heap.size < w1.heap.size := X0'.lt
      go_wp2_with fail
      go_roundw
      case rel =>
        have hb1' := hbw.trans (hb1.mono hbw.size)
        generalize hW : World.setCell _ _ _ = W
        have hbW := bel_set6 hb1' (Nat.le_refl _) hW
        have hOW := Kd.R_lower (hO1.set6 (Below.refl _ _) hb0.out hW) (Nat.le_of_lt hb0.out)
        have X0W := X0'.set6 hW
        have X1W : Bx W (w.heap.size + 1) strs 9 := by unfold strs; rw [← hW]; exact X1'.far6 (b := w.heap.size) (by omega) _ _ _ _ _ _
        have hal := (Below.refl W.heap.size W).alloc (Nat.le_refl _) (.cells #[.int .i64 0, .int .i64 3, .int .i64 0, .int .i64 0, .string ⟨#[]⟩, .slice A1 (spl (3 + 1)).length c1'] 28)
        exact ⟨3 + 1, _, _, by omega, by simp, rfl, bx_old X0W _, Kd.R_below hOW hal, bx_old X1W _, hbW.alloc hbW.size _⟩
      case measure => simp [intOf]
    · clear hk hz
      obtain ⟨A, c, rfl, _⟩ := hO.rd
      obtain ⟨c0, c1, c2, c3, c4, c5⟩ := X0.six
      have HO := Lib.hid hO
      clear hO X1
      go_wp2_with fail
      refine (split_c (spp 4) 7 wr (sp_small 4) HO.out.rd).mono ?_
      rintro _ w1 ⟨a, b, va, vb, n, rfl, ra, rb, hb1, hcase⟩
      obtain ⟨i, e, hi, he, rfl, rfl, rfl⟩ : ∃ i e, IsCut (spl 4) i ∧ (spl 4)[i]? = some e ∧ a = cutA (spp 4) i 7 e.k ∧ b = cutB (spp 4) i ∧ n = 0 := by
        rcases hcase with ⟨h, _⟩ | ⟨_, _, h, _⟩ | ⟨_, _, _, hn, i, e, h1, h2, h3, h4⟩
        · omega
        · exact absurd h (by decide)
        · exact ⟨i, e, h1, h2, h3, h4, hn⟩
      clear hcase
      obtain rfl := isCut_unique hi sp_cut
      obtain rfl : spk 0 = e := by injection he
      have RA := Lib.hid ra
      obtain ⟨A1, c1', rfl, _⟩ := ra
      obtain ⟨A2, c2', rfl, _⟩ := rb
      have hpa : pgV (cutA (spp 4) 2 7 (spk 0).k) (.slice A1 (cutA (spp 4) 2 7 (spk 0).k).es.length c1') = .agg #[.int .i64 0, .int .i64 3, .int .i64 0, .int .i64 7, .string ⟨#[99]⟩, .slice A1 2 c1'] := rfl
      have hpb : pgV (cutB (spp 4) 2) (.slice A2 (cutB (spp 4) 2).es.length c2') = .agg #[.int .i64 0, .int .i64 3, .int .i64 0, .int .i64 0, .string ⟨#[]⟩, .slice A2 2 c2'] := rfl
      rw [hpa, hpb]
      clear hpa hpb
      go_wp2_with fail
      have hal := ((Below.refl w1.heap.size w1).alloc (Nat.le_refl _) (.cells #[.int .i64 0, .int .i64 3, .int .i64 0, .int .i64 7, .string ⟨#[99]⟩, .slice A1 2 c1'] 28)).alloc (by simp) (.cells #[.int .i64 0, .int .i64 3, .int .i64 0, .int .i64 0, .string ⟨#[]⟩, .slice A2 2 c2'] 28)
      refine (right_c (cutA (spp 4) 2 7 (spk 0).k) _ (sm_take (sp_small 4) 2) (RA.out.below hal)).mono ?_
      rintro _ w2 ⟨r, rfl, hr, hb2⟩
      obtain rfl : r = true := hr.2 (cut_right (by decide) sp_cut rfl sp_right).1
      go_wp2_with fail
      refine (link_c (w := w2)).mono ?_
      rintro _ w3 ⟨rfl, hb3⟩
      go_wp2_with fail
      go_ret
      have h1 := hbw.trans (hb1.mono hbw.size)
      have h2 := h1.trans (hal.mono h1.size)
      have h3 := h2.trans (hb2.mono h2.size)
      exact ⟨rfl, h3.trans (hb3.mono h3.size)⟩
end Go.Proofs.Ytldmhfpgcflplaa
