/-
  The law on the order of insertions.
-/
import Derived.Test.YtldmhfpgcflplaaNdTuP
import Derived.Deep.DeepCutAuto
set_option linter.unusedVariables false
set_option linter.unusedSimpArgs false
namespace Go.Proofs.Ytldmhfpgcflplaa
open Go Go.RowKit Go.Proofs.Ytldmhfpgcflplaa.PA Go.Proofs.YtldmhfpgcflplaaW.PrintWords NdP
attribute [local go_sem] min_10 min_20

theorem six_old {w wr : World} (h : Below w.heap.size w wr) {p0 p1 p2 q0 q1 q2 : Addr} {v0 v1 v2 u0 u1 u2 : Value} (a0 : w.cell? p0 = some v0) (a1 : w.cell? p1 = some v1) (a2 : w.cell? p2 = some v2) (d0 : w.cell? q0 = some u0) (d1 : w.cell? q1 = some u1) (d2 : w.cell? q2 = some u2) :
    wr.cell? p0 = some v0 ∧ wr.cell? p1 = some v1 ∧ wr.cell? p2 = some v2 ∧ wr.cell? q0 = some u0 ∧ wr.cell? q1 = some u1 ∧ wr.cell? q2 = some u2 :=
  ⟨old h a0, old h a1, old h a2, old h d0, old h d1, old h d2⟩
theorem store_page {W W' : World} {b : Nat} {a0 a1 a2 a3 a4 a5 v0 v1 v2 v3 v4 v5 : Value} {o : Obj} (X : Bx W b #[a0, a1, a2, a3, a4, a5] 28)
    (hW : ((((((W.setCell ⟨b, 0, none⟩ v0).setCell ⟨b, 1, none⟩ v1).setCell ⟨b, 2, none⟩ v2).setCell ⟨b, 3, none⟩ v3).setCell ⟨b, 4, none⟩ v4).setCell ⟨b, 5, none⟩ v5).alloc o = W') :
    Bx W' b #[v0, v1, v2, v3, v4, v5] 28 ∧ (∀ g cs t', ¬ g = b → Bx W g cs t' → Bx W' g cs t') ∧ (∀ B, B ≤ b → Below B W W') ∧ (∀ base s l, OwN W base s l → OwN W' base s l) := by
  subst hW
  refine ⟨bx_old (X.set6 rfl) _, fun g cs t' hg h => bx_old (h.far6 hg _ _ _ _ _ _) _, fun B hB => ?_, fun base s l h => ?_⟩
  · have h1 := bel_set6 (v0 := v0) (v1 := v1) (v2 := v2) (v3 := v3) (v4 := v4) (v5 := v5) (Below.refl B W) hB rfl
    refine h1.alloc ?_ o
    have := X.lt
    have := h1.size
    omega
  · exact Kd.R_below (own_set6 h X v0 v1 v2 v3 v4 v5) ((Below.refl _ _).alloc (Nat.le_refl _) o)
def enZ : Array Value := #[.string ⟨#[]⟩, .string ⟨#[]⟩, .bool false]
def pgB (s : Value) : Array Value := #[.int .i64 0, .int .i64 3, .int .i64 0, .int .i64 0, .string ⟨#[]⟩, s]
def TuR (w w1 : World) (l : List Ent) (n : Nat) (v6 : Value) (wr : World) : Prop := ∃ (i : Nat) (p q : Pg) (s t : Value), i ≤ n ∧ v6 = .int .i64 i ∧ KvN p (ksF l i) ∧ KvN q (ksB l n i) ∧
  Bx wr w1.heap.size (pgB s) 28 ∧ Bx wr (w1.heap.size + 1) (pgB t) 28 ∧ OwN wr w1.heap.size s p.es ∧ OwN wr w1.heap.size t q.es ∧ Below w.heap.size w wr
set_option maxRecDepth 100000 in
set_option maxHeartbeats 1600000 in
theorem turned_c (w : World) (A : Option Addr) (c : Nat) (l : List Ent) (hm : l.length ≤ 9223372036854775807) (hr : RdN w (.slice A l.length c) l) : Calls Try.prog 4 #[.slice A l.length c] w fun x w' => x = .returned (.bool true) ∧ Below w.heap.size w w' := by
  have HR := Lib.hid hr
  clear hr
  go_enter Try.func4, Try.ntmps4
  go_wp2_with fail
  refine (speaks_c w).mono ?_
  rintro _ w1 ⟨rfl, hb1⟩
  have hnl := cutN_le l.length 20
  have hn20 := cutN_le' l.length 20
  have HNL := Lib.hid hnl
  have HB1 := Lib.hid hb1.size
  have HN20 := Lib.hid hn20
  clear hnl hn20
  go_wp2_with fail
  generalize hn : cutN l.length 20 = n at *
  clear hn
  go_loopw [6] (fun v6 wr => TuR w w1 l n v6 wr) (fun i _ => n - (intOf i).toNat)
  case atStart => exact ⟨0, _, _, _, _, Nat.zero_le _, rfl, KvN.start, KvN.start, bx_old (bx_new _ _ _) _, bx_at (bx_new _ _ _) (by simp), Kd.R_nil _ _ _ _ _, Kd.R_nil _ _ _ _ _, hb1.trans ((((Below.refl w1.heap.size w1).alloc (Nat.le_refl _) _).alloc (by simp) _).mono hb1.size)⟩
  case round =>
    obtain ⟨i, p, q, s, t, hi, rfl, hp, hq, Xp, Xq, hO, hQ, hbw⟩ := hrel
    unfold pgB at Xp Xq
    obtain ⟨es, rfl⟩ := hp.eq
    obtain ⟨fs, rfl⟩ := hq.eq
    obtain ⟨As, cs, rfl, _⟩ := hO.rd
    obtain ⟨At, ct, rfl, _⟩ := hQ.rd
    by_cases hlt : i < n
    · have hlt' : (i : Int) < (n : Int) := by omega
      obtain ⟨x, hx⟩ : ∃ y, l[i]? = some y := ⟨l[i]'(by have := HNL.out; omega), List.getElem?_eq_getElem (by have := HNL.out; omega)⟩
      obtain ⟨y, hy⟩ : ∃ y, l[n - 1 - i]? = some y := ⟨l[n - 1 - i]'(by have := HNL.out; omega), List.getElem?_eq_getElem (by have := HNL.out; omega)⟩
      have HX := Lib.hid hx
      have HY := Lib.hid hy
      have HP := Lib.hid hp
      have HQ := Lib.hid hq
      have HO := Lib.hid hO
      have HOQ := Lib.hid hQ
      have HI := Lib.hid hi
      clear hx hy hp hq hO hQ hi
      obtain ⟨j, hj⟩ : ∃ j, j = n - 1 - i := ⟨_, rfl⟩
      have HJ := Lib.hid hj
      have hyj : Hid (l[j]? = some y) := by unfold Hid; rw [hj]; exact HY.out
      obtain ⟨m, hm1⟩ : ∃ m : Nat, m + 1 = n := ⟨n - 1, by omega⟩
      have hs1 : IntKind.i64.wrap ((n : Int) - 1) = (m : Int) := by rw [IntKind.wrap_i64]; have := HN20.out; omega
      have hs2 : IntKind.i64.wrap ((m : Int) - (i : Int)) = (j : Int) := by rw [IntKind.wrap_i64]; have := HN20.out; omega
      have hil : (i : Int) < (l.length : Int) := by have := HNL.out; omega
      have hjl : (j : Int) < (l.length : Int) := by have := HNL.out; omega
      have hi0 : (0 : Int) ≤ (i : Int) := by omega
      have hj0 : (0 : Int) ≤ (j : Int) := by omega
      clear hj hm1
      obtain ⟨ad, hA, a0, a1, a2⟩ := at_T44 (kC_of_rd (HR.out.below hbw)) (i : Int) (by omega) (by rw [List.length_map]; exact hil)
      obtain ⟨ad', hA', d0, d1, d2⟩ := at_T44 (kC_of_rd (HR.out.below hbw)) (j : Int) (by omega) (by rw [List.length_map]; exact hjl)
      rw [rd44 HX.out, Int.toNat_natCast] at a0 a1 a2
      rw [rd44 hyj.out, Int.toNat_natCast] at d0 d1 d2
      change wr.cell? _ = some (Value.string x.k) at a0
      change wr.cell? _ = some (Value.string x.v) at a1
      change wr.cell? _ = some (Value.bool x.m) at a2
      change wr.cell? _ = some (Value.string y.k) at d0
      change wr.cell? _ = some (Value.string y.v) at d1
      change wr.cell? _ = some (Value.bool y.m) at d2
      subst hA
      injection hA' with hA'
      subst hA'
      go_wp2_with fail
      go_cut [7, 8] (fun s7 s8 wx => ∃ ba bb : Nat, s7 = .pointer (some ⟨ba, 0, none⟩) ∧ s8 = .pointer (some ⟨bb, 0, none⟩) ∧ (¬ ba = bb ∧ ¬ bb = ba) ∧ (wr.heap.size ≤ ba ∧ wr.heap.size ≤ bb) ∧ Bx wx ba #[.string x.k, .string x.v, .bool x.m] 47 ∧ Bx wx bb #[.string y.k, .string y.v, .bool y.m] 47 ∧ Below wr.heap.size wr wx)
      case first =>
        go_region_held3 (fun w' => w'.cell? (ad.add (i * 3)) = some (.string x.k) ∧ w'.cell? ⟨(ad.add (i * 3)).block, (ad.add (i * 3)).off + 1, none⟩ = some (.string x.v) ∧ w'.cell? ⟨(ad.add (i * 3)).block, (ad.add (i * 3)).off + 2, none⟩ = some (.bool x.m) ∧
            w'.cell? (ad.add (j * 3)) = some (.string y.k) ∧ w'.cell? ⟨(ad.add (j * 3)).block, (ad.add (j * 3)).off + 1, none⟩ = some (.string y.v) ∧ w'.cell? ⟨(ad.add (j * 3)).block, (ad.add (j * 3)).off + 2, none⟩ = some (.bool y.m))
          ((refine six_old ?_ a0 a1 a2 d0 d1 d2; repeat (first | exact Below.refl _ _ | refine Below.drew ?_ | refine Below.setCell ?_ (by simp) _ | refine Below.alloc ?_ (by simp <;> omega) _))) (fail)
        all_goals
          go_wp2_with fail
          go_meet
          case rel =>
            first
              | exact ⟨wr.heap.size, wr.heap.size + 1, rfl, rfl, ⟨by omega, by omega⟩, ⟨by omega, by omega⟩, bx_old (bx_new _ _ _) _, bx_at (bx_new _ _ _) (by simp), (((Below.refl wr.heap.size wr).alloc (Nat.le_refl _) _).alloc (by simp) _).drew⟩
              | exact ⟨wr.heap.size + 1, wr.heap.size, rfl, rfl, ⟨by omega, by omega⟩, ⟨by omega, by omega⟩, bx_at (bx_new _ _ _) (by simp), bx_old (bx_new _ _ _) _, (((Below.refl wr.heap.size wr).alloc (Nat.le_refl _) _).alloc (by simp) _).drew⟩
      case rest =>
        obtain ⟨ba, bb, rfl, rfl, ⟨hne2, hne3⟩, ⟨l14, l15⟩, Xa, Xb, hbz⟩ := hcut
        have hba : ba < wc.heap.size := Xa.lt
        have hbb : bb < wc.heap.size := Xb.lt
        have Xp2 := Xp.below hbz Xp.lt
        have hpn : w1.heap.size < wc.heap.size := Xp2.lt
        have Xq2 := Xq.below hbz Xq.lt
        have hqn : w1.heap.size + 1 < wc.heap.size := Xq2.lt
        have HO2 := Lib.hid (Kd.R_below HO.out hbz)
        have HOQ2 := Lib.hid (Kd.R_below HOQ.out hbz)
        have HB2 := Lib.hid (hbw.trans (hbz.mono hbw.size))
        have HLP := Lib.hid Xp.lt
        have HLQ := Lib.hid Xq.lt
        clear Xp Xq hbz hs1 hs2 a0 a1 a2 d0 d1 d2 HO HOQ
        obtain ⟨z0, z1, z2⟩ := Bx.three Xa
        obtain ⟨y0, y1, y2⟩ := Bx.three Xb
        have hcx : ((cutN x.k.size 10 : Nat) : Int) ≤ (x.k.size : Int) := by have := cutN_le x.k.size 10; omega
        have hcx0 : (0 : Int) ≤ ((cutN x.k.size 10 : Nat) : Int) := by omega
        have hcy : ((cutN y.k.size 10 : Nat) : Int) ≤ (y.k.size : Int) := by have := cutN_le y.k.size 10; omega
        have hcy0 : (0 : Int) ≤ ((cutN y.k.size 10 : Nat) : Int) := by omega
        go_wp2_with fail
        generalize hkx : x.k.extract 0 (cutN x.k.size 10) = kx
        generalize hky : y.k.extract 0 (cutN y.k.size 10) = ky
        have HKX : Hid (keyAt l i = kx) := by unfold Hid keyAt; rw [HX.out]; exact hkx
        have HKY : Hid (keyAt l (n - 1 - i) = ky) := by unfold Hid keyAt; rw [HY.out]; exact hky
        have hkx10 : Hid (kx.size ≤ 10) := by rw [← hkx]; exact cut10_size x.k
        have hky10 : Hid (ky.size ≤ 10) := by rw [← hky]; exact cut10_size y.k
        clear hkx hky hcx hcx0 hcy hcy0 z0 z1 z2 y0 y1 y2 HX HY Xa Xb
        go_region_held3 (fun w' => w'.cell? ⟨wc.heap.size, 0, none⟩ = some (.string kx) ∧ w'.cell? ⟨wc.heap.size + 1, 0, none⟩ = some (.string ky)) (exact ⟨(bx_old (bx_new _ _ _) _).cell 0, (bx_at (bx_new _ _ _) (by simp)).cell 0⟩) (fail)
        have hal := ((Below.refl wc.heap.size wc).alloc (Nat.le_refl _) (.cells #[.string kx, .string kx, .bool false] 44)).alloc (by simp) (.cells #[.string ky, .string ky, .bool false] 44)
        have E9 := bx_old (bx_new wc #[.string kx, .string kx, .bool false] 44) (.cells #[.string ky, .string ky, .bool false] 44)
        have E10 : Bx ((wc.alloc (.cells #[.string kx, .string kx, .bool false] 44)).alloc (.cells #[.string ky, .string ky, .bool false] 44)) (wc.heap.size + 1) _ _ := bx_at (bx_new _ #[.string ky, .string ky, .bool false] 44) (by simp)
        generalize World.alloc (World.alloc wc _) _ = W2 at hal E9 E10 ⊢
        have Xp3 := Xp2.below hal Xp2.lt
        have Xq3 := Xq2.below hal Xq2.lt
        have HO3 := Lib.hid (Kd.R_below HO2.out hal)
        have HOQ3 := Lib.hid (Kd.R_below HOQ2.out hal)
        have HB3 := Lib.hid (HB2.out.trans (hal.mono HB2.out.size))
        clear HO2 HOQ2 HB2 Xp2 Xq2 hal hba hbb
        obtain ⟨c0, c1, c2, c3, c4, c5⟩ := Xp3.six
        obtain ⟨e0, e1, e2⟩ := E9.three
        go_wp2_with fail
        have hins := HP.out.ins (k := kx) (by unfold ksF; rw [List.length_map, List.length_range]; have := HN20.out; omega) hkx10.out
        refine (insert_c ⟨0, 3, 0, 0, ⟨#[]⟩, es⟩ (kv kx) W2.drew HP.out.sorted (HP.out.small (by unfold ksF; rw [List.length_map, List.length_range]; have := HN20.out; omega)) (Nat.zero_le 1000) (OwN.rd HO3.out)).mono ?_
        have HLE : Hid (w1.heap.size ≤ W2.drew.heap.size) := Nat.le_of_lt Xp3.lt
        have HP' : Hid (KvN (kput ⟨0, 3, 0, 0, ⟨#[]⟩, es⟩ kx) (ksF l (i + 1))) := by unfold Hid; rw [ksF_succ, HKX.out]; exact HP.out.put hkx10.out
        cases hth : there es kx
        · rw [hins.2 hth]
          clear hins hth
          rintro _ W3 ⟨v3, rfl, hO3, hb3⟩
          change OwN W3 W2.drew.heap.size v3 (kl es kx) at hO3
          obtain ⟨A3, c3', rfl, _⟩ := hO3.rd
          have hpv : pgV (kput ⟨0, 3, 0, 0, ⟨#[]⟩, es⟩ kx) (.slice A3 (kl es kx).length c3') = .agg #[.int .i64 0, .int .i64 3, .int .i64 0, .int .i64 0, .string ⟨#[]⟩, .slice A3 (kl es kx).length c3'] := rfl
          rw [hpv]
          clear hpv
          have Xp4 := (Bx.drew Xp3).below hb3 Xp3.lt
          have Xq4 := (Bx.drew Xq3).below hb3 Xq3.lt
          have E4 := (Bx.drew E10).below hb3 E10.lt
          have HOQ4 := Lib.hid (Kd.R_below HOQ3.out ((Below.refl W2.heap.size W2).drew.trans hb3))
          have HO4 := Lib.hid hO3
          have HB4 := Lib.hid (HB3.out.drew.trans (hb3.mono HB3.out.size))
          have hp4 : w1.heap.size < W3.heap.size := Xp4.lt
          have hq4 : w1.heap.size + 1 < W3.heap.size := Xq4.lt
          have he4 : wc.heap.size + 1 < W3.heap.size := E4.lt
          clear hO3 hb3 HOQ3 HO3 HB3 c0 c1 c2 c3 c4 c5 e0 e1 e2 Xp3 Xq3 E9 E10
          obtain ⟨c0, c1, c2, c3, c4, c5⟩ := Xp4.six
          obtain ⟨f0, f1, f2, f3, f4, f5⟩ := Xp4.six_free
          obtain ⟨q0, q1, q2, q3, q4, q5⟩ := Xq4.six
          obtain ⟨e0, e1, e2⟩ := E4.three
          go_wp2_with fail
          generalize hW4 : World.alloc (World.setCell _ _ _) _ = W4
          obtain ⟨Xp5, hfar, hbel, hown⟩ := store_page Xp4 hW4
          have Xq5 := hfar _ _ _ (by omega) Xq4
          have E5 := hfar _ _ _ (by omega) E4
          have HO5 := Lib.hid (Kd.R_lower (hown _ _ _ HO4.out) (show w1.heap.size ≤ W2.drew.heap.size from HLE.out))
          have HL4 : Hid (w1.heap.size ≤ W4.heap.size) := Nat.le_of_lt Xp5.lt
          have HOQ5 := Lib.hid (hown _ _ _ HOQ4.out)
          have HB5 := Lib.hid (HB4.out.trans (hbel _ HB1.out))
          clear hbel hown hfar hW4 Xp4 Xq4 E4 HO4 HOQ4 HB4 hp4 hq4 he4 c0 c1 c2 c3 c4 c5 f0 f1 f2 f3 f4 f5 q0 q1 q2 q3 q4 q5 e0 e1 e2
          have hins := HQ.out.ins (k := ky) (by unfold ksB; rw [List.length_map, List.length_range]; have := HN20.out; omega) hky10.out
          refine (insert_c ⟨0, 3, 0, 0, ⟨#[]⟩, fs⟩ (kv ky) W4 HQ.out.sorted (HQ.out.small (by unfold ksB; rw [List.length_map, List.length_range]; have := HN20.out; omega)) (Nat.zero_le 1000) (OwN.rd HOQ5.out)).mono ?_
          have HQ' : Hid (KvN (kput ⟨0, 3, 0, 0, ⟨#[]⟩, fs⟩ ky) (ksB l n (i + 1))) := by unfold Hid; rw [ksB_succ, HKY.out]; exact HQ.out.put hky10.out
          cases hth : there fs ky
          · rw [hins.2 hth]
            clear hins hth
            rintro _ W5 ⟨v5, rfl, hO5, hb5⟩
            change OwN W5 W4.heap.size v5 (kl fs ky) at hO5
            obtain ⟨A5, c5', rfl, _⟩ := hO5.rd
            have hpv : pgV (kput ⟨0, 3, 0, 0, ⟨#[]⟩, fs⟩ ky) (.slice A5 (kl fs ky).length c5') = .agg #[.int .i64 0, .int .i64 3, .int .i64 0, .int .i64 0, .string ⟨#[]⟩, .slice A5 (kl fs ky).length c5'] := rfl
            rw [hpv]
            clear hpv
            have Xp6 := Xp5.below hb5 Xp5.lt
            have Xq6 := Xq5.below hb5 Xq5.lt
            have HO6 := Lib.hid (Kd.R_below HO5.out hb5)
            have HOQ6 := Lib.hid hO5
            have HB6 := Lib.hid (HB5.out.trans (hb5.mono HB5.out.size))
            have hq6 : w1.heap.size + 1 < W5.heap.size := Xq6.lt
            clear hO5 hb5 HO5 HOQ5 HB5 Xp5 Xq5 E5
            obtain ⟨c0, c1, c2, c3, c4, c5⟩ := Xq6.six
            obtain ⟨f0, f1, f2, f3, f4, f5⟩ := Xq6.six_free
            go_wp2_with fail
            generalize hW6 : World.alloc (World.setCell _ _ _) _ = W6
            obtain ⟨Xq7, hfar, hbel, hown⟩ := store_page Xq6 hW6
            have Xp7 := hfar _ _ _ (by omega) Xp6
            have HBS := HB1.out
            have HB7 := HB6.out.trans (hbel _ (by omega))
            have HO7 := hown _ _ _ HO6.out
            have HOQ7 := Kd.R_lower (hown _ _ _ HOQ6.out) HL4.out
            clear hW6
            go_roundw
            case rel => exact ⟨i + 1, ⟨0, 3, 0, 0, ⟨#[]⟩, (kl es kx)⟩, ⟨0, 3, 0, 0, ⟨#[]⟩, kl fs ky⟩, .slice A3 ((kl es kx)).length c3', .slice A5 (kl fs ky).length c5', hlt, by go_num, HP'.out, HQ'.out, Xp7, Xq7, HO7, HOQ7, HB7⟩
            case measure => simp [intOf]; omega
          · rw [hins.1 hth]
            have HQ' : Hid (KvN ⟨0, 3, 0, 0, ⟨#[]⟩, fs⟩ (ksB l n (i + 1))) := by have := HQ'.out; rwa [kput_there hth] at this
            clear hins hth
            rintro _ W5 ⟨v5, rfl, hO5, hb5⟩
            obtain ⟨A5, c5', rfl, _⟩ := hO5.rd
            have hpv : pgV zero (.slice A5 zero.es.length c5') = .agg #[.int .i64 0, .int .i64 0, .int .i64 0, .int .i64 0, .string ⟨#[]⟩, .slice A5 0 c5'] := rfl
            rw [hpv]
            clear hpv
            have Xp6 := Xp5.below hb5 Xp5.lt
            have Xq6 := Xq5.below hb5 Xq5.lt
            have HO6 := Lib.hid (Kd.R_below HO5.out hb5)
            have HOQ6 := Lib.hid (Kd.R_below HOQ5.out hb5)
            have HB6 := Lib.hid (HB5.out.trans (hb5.mono HB5.out.size))
            clear hO5 hb5 HO5 HOQ5 HB5 Xp5 Xq5 E5
            go_wp2_with fail
            have hal := (Below.refl W5.heap.size W5).alloc (Nat.le_refl _) (.cells #[.int .i64 0, .int .i64 0, .int .i64 0, .int .i64 0, .string ⟨#[]⟩, .slice A5 0 c5'] 28)
            have Xp7 := Xp6.below hal Xp6.lt
            have Xq7 := Xq6.below hal Xq6.lt
            have HO7 := Kd.R_below HO6.out hal
            have HOQ7 := Kd.R_below HOQ6.out hal
            have HB7 := HB6.out.trans (hal.mono HB6.out.size)
            go_roundw
            case rel => exact ⟨i + 1, ⟨0, 3, 0, 0, ⟨#[]⟩, (kl es kx)⟩, ⟨0, 3, 0, 0, ⟨#[]⟩, fs⟩, .slice A3 ((kl es kx)).length c3', .slice At fs.length ct, hlt, by go_num, HP'.out, HQ'.out, Xp7, Xq7, HO7, HOQ7, HB7⟩
            case measure => simp [intOf]; omega
        · rw [hins.1 hth]
          have HP' : Hid (KvN ⟨0, 3, 0, 0, ⟨#[]⟩, es⟩ (ksF l (i + 1))) := by have := HP'.out; rwa [kput_there hth] at this
          clear hins hth
          rintro _ W3 ⟨v3, rfl, hO3, hb3⟩
          obtain ⟨A3, c3', rfl, _⟩ := hO3.rd
          have hpv : pgV zero (.slice A3 zero.es.length c3') = .agg #[.int .i64 0, .int .i64 0, .int .i64 0, .int .i64 0, .string ⟨#[]⟩, .slice A3 0 c3'] := rfl
          rw [hpv]
          clear hpv
          have Xp4 := (Bx.drew Xp3).below hb3 Xp3.lt
          have Xq4 := (Bx.drew Xq3).below hb3 Xq3.lt
          have E4 := (Bx.drew E10).below hb3 E10.lt
          have HO4 := Lib.hid (Kd.R_below HO3.out ((Below.refl W2.heap.size W2).drew.trans hb3))
          have HOQ4 := Lib.hid (Kd.R_below HOQ3.out ((Below.refl W2.heap.size W2).drew.trans hb3))
          have HB4 := Lib.hid (HB3.out.drew.trans (hb3.mono HB3.out.size))
          have hp4 : w1.heap.size < W3.heap.size := Xp4.lt
          have hq4 : w1.heap.size + 1 < W3.heap.size := Xq4.lt
          have he4 : wc.heap.size + 1 < W3.heap.size := E4.lt
          clear hO3 hb3 HOQ3 HO3 HB3 c0 c1 c2 c3 c4 c5 e0 e1 e2 Xp3 Xq3 E9 E10
          obtain ⟨c0, c1, c2, c3, c4, c5⟩ := Xp4.six
          obtain ⟨f0, f1, f2, f3, f4, f5⟩ := Xp4.six_free
          obtain ⟨q0, q1, q2, q3, q4, q5⟩ := Xq4.six
          obtain ⟨e0, e1, e2⟩ := E4.three
          go_wp2_with fail
          have hal := (Below.refl W3.heap.size W3).alloc (Nat.le_refl _) (.cells #[.int .i64 0, .int .i64 0, .int .i64 0, .int .i64 0, .string ⟨#[]⟩, .slice A3 0 c3'] 28)
          generalize hW4 : World.alloc W3 _ = W4 at hal ⊢
          have Xp5 := Xp4.below hal Xp4.lt
          have Xq5 := Xq4.below hal Xq4.lt
          have E5 := E4.below hal E4.lt
          have HO5 := Lib.hid (Kd.R_below HO4.out hal)
          have HOQ5 := Lib.hid (Kd.R_below HOQ4.out hal)
          have HB5 := Lib.hid (HB4.out.trans (hal.mono HB4.out.size))
          have HL4 : Hid (w1.heap.size ≤ W4.heap.size) := Nat.le_of_lt Xp5.lt
          have hbel := hal
          have hown := hal
          have hfar := hal
          clear hal
          clear hbel hown hfar hW4 Xp4 Xq4 E4 HO4 HOQ4 HB4 hp4 hq4 he4 c0 c1 c2 c3 c4 c5 f0 f1 f2 f3 f4 f5 q0 q1 q2 q3 q4 q5 e0 e1 e2
          have hins := HQ.out.ins (k := ky) (by unfold ksB; rw [List.length_map, List.length_range]; have := HN20.out; omega) hky10.out
          refine (insert_c ⟨0, 3, 0, 0, ⟨#[]⟩, fs⟩ (kv ky) W4 HQ.out.sorted (HQ.out.small (by unfold ksB; rw [List.length_map, List.length_range]; have := HN20.out; omega)) (Nat.zero_le 1000) (OwN.rd HOQ5.out)).mono ?_
          have HQ' : Hid (KvN (kput ⟨0, 3, 0, 0, ⟨#[]⟩, fs⟩ ky) (ksB l n (i + 1))) := by unfold Hid; rw [ksB_succ, HKY.out]; exact HQ.out.put hky10.out
          cases hth : there fs ky
          · rw [hins.2 hth]
            clear hins hth
            rintro _ W5 ⟨v5, rfl, hO5, hb5⟩
            change OwN W5 W4.heap.size v5 (kl fs ky) at hO5
            obtain ⟨A5, c5', rfl, _⟩ := hO5.rd
            have hpv : pgV (kput ⟨0, 3, 0, 0, ⟨#[]⟩, fs⟩ ky) (.slice A5 (kl fs ky).length c5') = .agg #[.int .i64 0, .int .i64 3, .int .i64 0, .int .i64 0, .string ⟨#[]⟩, .slice A5 (kl fs ky).length c5'] := rfl
            rw [hpv]
            clear hpv
            have Xp6 := Xp5.below hb5 Xp5.lt
            have Xq6 := Xq5.below hb5 Xq5.lt
            have HO6 := Lib.hid (Kd.R_below HO5.out hb5)
            have HOQ6 := Lib.hid hO5
            have HB6 := Lib.hid (HB5.out.trans (hb5.mono HB5.out.size))
            have hq6 : w1.heap.size + 1 < W5.heap.size := Xq6.lt
            clear hO5 hb5 HO5 HOQ5 HB5 Xp5 Xq5 E5
            obtain ⟨c0, c1, c2, c3, c4, c5⟩ := Xq6.six
            obtain ⟨f0, f1, f2, f3, f4, f5⟩ := Xq6.six_free
            go_wp2_with fail
            generalize hW6 : World.alloc (World.setCell _ _ _) _ = W6
            obtain ⟨Xq7, hfar, hbel, hown⟩ := store_page Xq6 hW6
            have Xp7 := hfar _ _ _ (by omega) Xp6
            have HBS := HB1.out
            have HB7 := HB6.out.trans (hbel _ (by omega))
            have HO7 := hown _ _ _ HO6.out
            have HOQ7 := Kd.R_lower (hown _ _ _ HOQ6.out) HL4.out
            clear hW6
            go_roundw
            case rel => exact ⟨i + 1, ⟨0, 3, 0, 0, ⟨#[]⟩, es⟩, ⟨0, 3, 0, 0, ⟨#[]⟩, kl fs ky⟩, .slice As (es).length cs, .slice A5 (kl fs ky).length c5', hlt, by go_num, HP'.out, HQ'.out, Xp7, Xq7, HO7, HOQ7, HB7⟩
            case measure => simp [intOf]; omega
          · rw [hins.1 hth]
            have HQ' : Hid (KvN ⟨0, 3, 0, 0, ⟨#[]⟩, fs⟩ (ksB l n (i + 1))) := by have := HQ'.out; rwa [kput_there hth] at this
            clear hins hth
            rintro _ W5 ⟨v5, rfl, hO5, hb5⟩
            obtain ⟨A5, c5', rfl, _⟩ := hO5.rd
            have hpv : pgV zero (.slice A5 zero.es.length c5') = .agg #[.int .i64 0, .int .i64 0, .int .i64 0, .int .i64 0, .string ⟨#[]⟩, .slice A5 0 c5'] := rfl
            rw [hpv]
            clear hpv
            have Xp6 := Xp5.below hb5 Xp5.lt
            have Xq6 := Xq5.below hb5 Xq5.lt
            have HO6 := Lib.hid (Kd.R_below HO5.out hb5)
            have HOQ6 := Lib.hid (Kd.R_below HOQ5.out hb5)
            have HB6 := Lib.hid (HB5.out.trans (hb5.mono HB5.out.size))
            clear hO5 hb5 HO5 HOQ5 HB5 Xp5 Xq5 E5
            go_wp2_with fail
            have hal := (Below.refl W5.heap.size W5).alloc (Nat.le_refl _) (.cells #[.int .i64 0, .int .i64 0, .int .i64 0, .int .i64 0, .string ⟨#[]⟩, .slice A5 0 c5'] 28)
            have Xp7 := Xp6.below hal Xp6.lt
            have Xq7 := Xq6.below hal Xq6.lt
            have HO7 := Kd.R_below HO6.out hal
            have HOQ7 := Kd.R_below HOQ6.out hal
            have HB7 := HB6.out.trans (hal.mono HB6.out.size)
            go_roundw
            case rel => exact ⟨i + 1, ⟨0, 3, 0, 0, ⟨#[]⟩, es⟩, ⟨0, 3, 0, 0, ⟨#[]⟩, fs⟩, .slice As (es).length cs, .slice At fs.length ct, hlt, by go_num, HP'.out, HQ'.out, Xp7, Xq7, HO7, HOQ7, HB7⟩
            case measure => simp [intOf]; omega
    · have hin : i = n := by omega
      subst hin
      have hsame : es = fs := hp.same hq (ks_same l i)
      subst hsame
      have hlt' : ¬ (i : Int) < (i : Int) := by omega
      have HP := Lib.hid hp
      have HO := Lib.hid hO
      have HQ := Lib.hid hQ
      obtain ⟨c0, c1, c2, c3, c4, c5⟩ := Xp.six
      obtain ⟨q0, q1, q2, q3, q4, q5⟩ := Xq.six
      have hsm : Hid (Small es) := HP.out.small (by unfold ksF; rw [List.length_map, List.length_range]; have := HN20.out; omega)
      have HLE := Lib.hid hsm.out.1
      clear hp hq hO hQ
      go_wp2_with fail
      obtain ⟨wo, rfl⟩ : ∃ wo, wo = wr := ⟨_, rfl⟩
      clear c0 c1 c2 c3 c4 c5 q0 q1 q2 q3 q4 q5
      go_loopw [15] (fun v15 wr => ∃ k : Nat, k ≤ es.length ∧ v15 = .int .i64 k ∧ Below wo.heap.size wo wr) (fun j _ => es.length - (intOf j).toNat)
      case atStart => exact ⟨0, Nat.zero_le _, rfl, Below.refl _ _⟩
      case round =>
        obtain ⟨k, hk, rfl, hbo⟩ := hrel
        obtain ⟨c0, c1, c2, c3, c4, c5⟩ := (Xp.below hbo Xp.lt).six
        obtain ⟨q0, q1, q2, q3, q4, q5⟩ := (Xq.below hbo Xq.lt).six
        by_cases hk2 : k < es.length
        · have hk3 : (k : Int) < (es.length : Int) := by omega
          obtain ⟨x, hx⟩ : ∃ y, es[k]? = some y := ⟨es[k], by simp [hk2]⟩
          obtain ⟨ad, hA, a0, a1, a2⟩ := at_T44 (kC_of_rd ((OwN.rd HO.out).below hbo)) (k : Int) (by omega) (by rw [List.length_map]; exact hk3)
          obtain ⟨ad', hA', d0, d1, d2⟩ := at_T44 (kC_of_rd ((OwN.rd HQ.out).below hbo)) (k : Int) (by omega) (by rw [List.length_map]; exact hk3)
          rw [rd44 hx, Int.toNat_natCast] at a0 a1 a2 d0 d1 d2
          change wr.cell? _ = some (Value.string x.k) at a0
          change wr.cell? _ = some (Value.string x.v) at a1
          change wr.cell? _ = some (Value.bool x.m) at a2
          change wr.cell? _ = some (Value.string x.k) at d0
          change wr.cell? _ = some (Value.string x.v) at d1
          change wr.cell? _ = some (Value.bool x.m) at d2
          subst hA
          subst hA'
          clear hx
          go_wp2_with fail
          go_quiet (fail)
          go_wp2_with fail
          have hL := HLE.out
          go_roundw
          case rel => exact ⟨k + 1, hk2, rt_next hk2 (Nat.le_trans hL (by decide)), hbo.trans ⟨rfl, rfl, rfl, Nat.le_refl _, fun _ _ => rfl⟩⟩
          case measure => exact rt_measure hk2 (Nat.le_trans hL (by decide))
        · have hk3 : ¬ (k : Int) < (es.length : Int) := by omega
          go_wp2_with fail
          refine (right_c ⟨0, 3, 0, 0, ⟨#[]⟩, es⟩ _ hsm.out ((OwN.rd HO.out).below hbo)).mono ?_
          rintro _ w9 ⟨r, rfl, hr, hb9⟩
          obtain rfl : r = true := hr.2 HP.out.right
          go_wp2_with fail
          go_ret
          have h1 := hbw.trans (hbo.mono hbw.size)
          exact ⟨rfl, h1.trans (hb9.mono h1.size)⟩
end Go.Proofs.Ytldmhfpgcflplaa
