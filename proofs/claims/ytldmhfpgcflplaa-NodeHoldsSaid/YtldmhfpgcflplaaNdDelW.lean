import Derived.Test.YtldmhfpgcflplaaNdDel
import Derived.Laws.CopyRow
set_option linter.unusedVariables false
set_option linter.unusedSimpArgs false
namespace Go.Proofs.Ytldmhfpgcflplaa
open Go Go.RowKit Go.Proofs.Ytldmhfpgcflplaa.PA Go.Proofs.YtldmhfpgcflplaaW.PrintWords NdP
theorem erase_own {W : World} {base : Nat} {v : Value} {l : List Ent} {k : Nat} (h : k44.R 44 W base (fun _ => True) v ((l.map c44).eraseIdx k)) : OwN W base v (l.eraseIdx k) := by
  have e1 : (l.map c44).eraseIdx k = (l.eraseIdx k).map c44 := by
    rw [List.eraseIdx_eq_take_drop_succ, List.eraseIdx_eq_take_drop_succ, List.map_append, List.map_take, List.map_drop]
  unfold OwN
  rw [← e1]
  exact h
theorem setCells_below {B g : Nat} (hg : B ≤ g) : ∀ (vs : List Value) (o : Nat) (w : World), Below B w (w.setCells g o vs)
  | [], o, w => Below.refl B w
  | v :: vs, o, w => ((Below.refl B w).setCell (p := ⟨g, o, none⟩) hg v).trans (setCells_below hg vs (o + 1) _)
theorem own_base' {w : World} {base g n cap : Nat} {l : List Ent} (h : OwN w base (.slice (some ⟨g, 0, none⟩) n cap) l) : base ≤ g := by
  obtain ⟨inner, ho⟩ := Kd.R_own h
  exact own_base ho g rfl
theorem run_clear1 {W : World} {base g n cap c2 : Nat} {l : List Ent} (ty : TypeId) (h : OwN W base (.slice (some ⟨g, 0, none⟩) n cap) l) (hn : n + 1 ≤ cap) :
    (Builtin.clear_ #[26] ty #[.slice (some ⟨g, n * 3, none⟩) 1 c2]).run Try.prog W = .ok (.tuple #[]) (W.setCells g (n * 3) [.string ⟨#[]⟩, .string ⟨#[]⟩, .bool false]) := by
  obtain ⟨hok, inner, ⟨ho1, ho2⟩, hr⟩ := h
  rcases ho2 with ⟨hv, _⟩ | ⟨g', cap', cur, hv, hb, hh, hnc', hcm, hcs, ht⟩
  · cases hv
  injection hv with ha hn2 hc
  injection ha with ha
  injection ha with hg
  subst hg; subst hc
  have hsz : cur.size = cap * 3 := hcs
  have hcell : ∀ j, j < 3 → (W.cell? ⟨g, n * 3 + 0 + j, none⟩).isSome = true := fun j hj => by
    rw [blk_cell hh, Array.getElem?_eq_getElem (by omega)]
    rfl
  have hst := run_storeCells_cells (P := Try.prog) g (n * 3) [.string ⟨#[]⟩, .string ⟨#[]⟩, .bool false] 0 W (fun j hj => hcell j hj) (fun j hj => blk_frozen hh _) (by decide)
  have hz : ∀ w, (zeroValue 44).run Try.prog w = .ok (.agg #[.string ⟨#[]⟩, .string ⟨#[]⟩, .bool false]) w := fun w => by kernel_rfl
  have hzc : (Builtin.zeroCells (Value.agg #[.string ⟨#[]⟩, .string ⟨#[]⟩, .bool false]).cells 1).toList = [.string ⟨#[]⟩, .string ⟨#[]⟩, .bool false] := by kernel_rfl
  simp only [Nat.add_zero] at hst
  simp [Builtin.clear_, run_underlying Try.underlying26, hz, hzc, hst]
set_option maxHeartbeats 1600000 in
set_option maxRecDepth 100000 in
theorem delete_w {w : World} {base g cap k m n : Nat} {l : List Ent} (hm : Hid (m = k + 1)) (hn : Hid (n = l.length)) (k0 : (0 : Int) ≤ (k : Int)) (k1 : (k : Int) < (n : Int)) (k2 : (m : Int) ≤ (n : Int)) (k3 : (n : Int) ≤ (cap : Int)) (k4 : ((k : Int) == (m : Int)) = false) (k5 : (0 : Int) ≤ (m : Int)) (k6 : (k : Int) ≤ (m : Int)) (k7 : (k : Int) ≤ (cap : Int)) (k8 : (m : Int) ≤ (cap : Int)) (k9 : (k : Int) ≤ (n : Int))
    (HO : Hid (OwN w base (.slice (some ⟨g, 0, none⟩) n cap) l)) (hb : Hid (base ≤ w.heap.size)) :
    Calls Try.prog 32 #[.slice (some ⟨g, 0, none⟩) n cap, .int .i64 k, .int .i64 m] w fun x w' => x = .returned (.slice (some ⟨g, 0, none⟩) (n - 1) cap) ∧ OwN w' base (.slice (some ⟨g, 0, none⟩) (n - 1) cap) (l.eraseIdx k) ∧ Below base w w' := by
  go_enter Try.func32, Try.ntmps32
  go_wp2_with fail
  by_cases hcm : cap = m
  · have hA : Hid ((some ⟨g, 0, none⟩ : Option Addr) = if cap = k + 1 then some ⟨g, 0, none⟩ else (some (⟨g, 0, none⟩ : Addr)).map (·.add ((k + 1) * k44.sz))) := by
      unfold Hid
      rw [if_pos (by rw [← hm.out]; exact hcm)]
    subst hcm
    have hM : Hid (n - cap = n - (k + 1)) := by have := hm.out; unfold Hid; omega
    have hkn : Hid (k < n) := by unfold Hid; omega
    have hBw : Hid (Below base w w.drew) := (Below.refl base w).drew
    have HOd : Hid (OwN w.drew base (.slice (some ⟨g, 0, none⟩) n cap) l) := HO.out
    go_still_tail 6, (by kernel_rfl)
    change wpList _ _ _ _ _ w.drew
    go_wp2_with (first | (at_builtin; refine Kd.R_delete k44 (w0 := w) (W := w.drew) base rfl (.tmp 22) (.tmp 25) 26 44 rfl Try.underlying26 (by kernel_rfl) (k := k) (n := n) rfl rfl hA.out hM.out HOd.out hkn.out hBw.out hb.out ?_; intro w1 hO1 hB1 hg1; have hcl : ∀ ty, (Builtin.clear_ #[26] ty #[.slice (some ⟨g, (n - 1) * 3, none⟩) (n - (n - 1)) (cap - (n - 1))]).run Try.prog w1 = .ok (.tuple #[]) (w1.setCells g ((n - 1) * 3) [.string ⟨#[]⟩, .string ⟨#[]⟩, .bool false]) := (fun ty => by rw [show n - (n - 1) = 1 by omega]; exact run_clear1 ty (erase_own hO1) (by omega))) | fail)
    go_ret
    have hO2 := own_behind (seg := [.string ⟨#[]⟩, .string ⟨#[]⟩, .bool false]) (erase_own hO1) (Nat.le_refl _) (by simp; omega)
    exact ⟨rfl, hO2, hB1.trans (setCells_below (own_base' HO.out) _ _ _)⟩
  have hA : Hid ((some ⟨g, m * 3, none⟩ : Option Addr) = if cap = k + 1 then some ⟨g, 0, none⟩ else (some (⟨g, 0, none⟩ : Addr)).map (·.add ((k + 1) * k44.sz))) := by
    unfold Hid
    rw [if_neg (by rw [← hm.out]; exact hcm), ← hm.out]
    show _ = some (Addr.add ⟨g, 0, none⟩ (m * 3))
    rw [Addr.add_lit]
    simp
  have hM : Hid (n - m = n - (k + 1)) := by have := hm.out; unfold Hid; omega
  have hkn : Hid (k < n) := by unfold Hid; omega
  have hBw : Hid (Below base w w.drew) := (Below.refl base w).drew
  have HOd : Hid (OwN w.drew base (.slice (some ⟨g, 0, none⟩) n cap) l) := HO.out
  go_still_tail 6, (by kernel_rfl)
  change wpList _ _ _ _ _ w.drew
  go_wp2_with (first | (at_builtin; refine Kd.R_delete k44 (w0 := w) (W := w.drew) base rfl (.tmp 22) (.tmp 25) 26 44 rfl Try.underlying26 (by kernel_rfl) (k := k) (n := n) rfl rfl hA.out hM.out HOd.out hkn.out hBw.out hb.out ?_; intro w1 hO1 hB1 hg1; have hcl : ∀ ty, (Builtin.clear_ #[26] ty #[.slice (some ⟨g, (n - 1) * 3, none⟩) (n - (n - 1)) (cap - (n - 1))]).run Try.prog w1 = .ok (.tuple #[]) (w1.setCells g ((n - 1) * 3) [.string ⟨#[]⟩, .string ⟨#[]⟩, .bool false]) := (fun ty => by rw [show n - (n - 1) = 1 by omega]; exact run_clear1 ty (erase_own hO1) (by omega))) | fail)
  go_ret
  have hO2 := own_behind (seg := [.string ⟨#[]⟩, .string ⟨#[]⟩, .bool false]) (erase_own hO1) (Nat.le_refl _) (by simp; omega)
  exact ⟨rfl, hO2, hB1.trans (setCells_below (own_base' HO.out) _ _ _)⟩
end Go.Proofs.Ytldmhfpgcflplaa
