/-
  The law on what a node holds.
-/
import Derived.Test.YtldmhfpgcflplaaNdMp
import Derived.Test.YtldmhfpgcflplaaNdRem
import Derived.Test.YtldmhfpgcflplaaNdSame
import Derived.RegionTactic
import Derived.BigRegion
set_option linter.unusedVariables false
set_option linter.unusedSimpArgs false
namespace Go.Proofs.Ytldmhfpgcflplaa
open Go Go.RowKit Go.Proofs.Ytldmhfpgcflplaa.PA Go.Proofs.YtldmhfpgcflplaaW.PrintWords NdP
attribute [local go_sem] min_64 min_100
namespace hd
abbrev page6 (p : Pg) (s : Value) : Array Value := #[.int .i64 p.lsn, .int .i64 p.kind, .int .i64 p.level, .int .i64 p.right, .string p.high, s]
theorem Mp.below {w w' : World} {B n : Nat} {l : List Ent} (h : Mp w B n l) (hb : Below w.heap.size w w') : Mp w' B n l := by
  obtain ⟨D, ⟨es, clock, hh, F, hs, hD⟩, h2, h3, h4⟩ := h
  exact ⟨D, ⟨es, clock, (hb.block B (Array.getElem?_eq_some_iff.1 hh).1).trans hh, F, hs, hD⟩, h2, h3, h4⟩
theorem Mp.cell {w : World} {B n : Nat} {l : List Ent} (h : Mp w B n l) {a : Addr} (ha : B ≠ a.block) (u : Value) : Mp (w.setCell a u) B n l := by
  obtain ⟨D, h1, h2, h3, h4⟩ := h
  exact ⟨D, h1.setCell ha u, h2, h3, h4⟩
theorem Mp.set6 {w W : World} {B n b' : Nat} {l : List Ent} {v0 v1 v2 v3 v4 v5 : Value} (h : Mp w B n l) (hne : B ≠ b')
    (hW : (((((w.setCell ⟨b', 0, none⟩ v0).setCell ⟨b', 1, none⟩ v1).setCell ⟨b', 2, none⟩ v2).setCell ⟨b', 3, none⟩ v3).setCell ⟨b', 4, none⟩ v4).setCell ⟨b', 5, none⟩ v5 = W) : Mp W B n l := by
  subst hW
  exact Mp.cell (Mp.cell (Mp.cell (Mp.cell (Mp.cell (Mp.cell h hne v0) hne v1) hne v2) hne v3) hne v4) hne v5
theorem ownN281 {w : World} {base b : Nat} {s : Value} {l : List Ent} {cs : Array Value} (h : OwN w base s l) (hb : Bx w b cs 28) (i : Nat) (u : Value) : OwN (w.setCell ⟨b, i, none⟩ u) base s l := Kd.R_set h hb (by decide) i u
theorem ownN28 {w W : World} {base b : Nat} {s : Value} {l : List Ent} {a0 a1 a2 a3 a4 a5 v0 v1 v2 v3 v4 v5 : Value} (h : OwN w base s l) (hb : Bx w b #[a0, a1, a2, a3, a4, a5] 28)
    (hW : (((((w.setCell ⟨b, 0, none⟩ v0).setCell ⟨b, 1, none⟩ v1).setCell ⟨b, 2, none⟩ v2).setCell ⟨b, 3, none⟩ v3).setCell ⟨b, 4, none⟩ v4).setCell ⟨b, 5, none⟩ v5 = W) : OwN W base s l := by
  subst hW
  exact ownN281 (ownN281 (ownN281 (ownN281 (ownN281 (ownN281 h hb 0 v0) (hb.set 0 v0) 1 v1) ((hb.set 0 v0).set 1 v1) 2 v2) (((hb.set 0 v0).set 1 v1).set 2 v2) 3 v3) ((((hb.set 0 v0).set 1 v1).set 2 v2).set 3 v3) 4 v4) (((((hb.set 0 v0).set 1 v1).set 2 v2).set 3 v3).set 4 v4) 5 v5
theorem farW {w W : World} {b b' t : Nat} {cs : Array Value} {v0 v1 v2 v3 v4 v5 : Value} (h : Bx w b cs t) (hne : ¬ b = b')
    (hW : (((((w.setCell ⟨b', 0, none⟩ v0).setCell ⟨b', 1, none⟩ v1).setCell ⟨b', 2, none⟩ v2).setCell ⟨b', 3, none⟩ v3).setCell ⟨b', 4, none⟩ v4).setCell ⟨b', 5, none⟩ v5 = W) : Bx W b cs t := by
  subst hW
  exact h.keep6 hne v0 v1 v2 v3 v4 v5
/-- A row and a box while a map is turned. -/
theorem Mp.isMap {w : World} {B n : Nat} {l : List Ent} (h : Mp w B n l) : ∃ es clock, w.heap[B]? = some (.map es clock) := by
  obtain ⟨D, ⟨es, clock, hh, _⟩, _⟩ := h
  exact ⟨es, clock, hh⟩
theorem own_map {w w' : World} {base B n : Nat} {s : Value} {l m : List Ent} (h : OwN w base s l) (hM : Mp w B n m) (hg : w.grownBy w' (some B)) : OwN w' base s l := by
  obtain ⟨es, clock, hh⟩ := Mp.isMap hM
  refine Kd.R_mono (Kd.R_grown (Kd.R_bound h) hg (fun k hk he => ?_)) (fun _ _ => trivial)
  obtain ⟨_, _, _, q, _, cells, hc⟩ := hk
  injection he with he
  subst he
  rw [hh] at hc
  injection hc with hc
  cases hc
theorem bx_map {w w' : World} {b B t : Nat} {cs : Array Value} (h : Bx w b cs t) (hne : ¬ b = B) (hg : w.grownBy w' (some B)) : Bx w' b cs t := (hg.block b h.lt (fun e => hne (by injection e))).trans h
theorem hd_measure {n k : Nat} (h : k < n) (hk : k < 60) : n - (intOf (.int .i64 (wrap64 ((k : Int) + 1)))).toNat < n - (intOf (.int .i64 (k : Int))).toNat := by
  rw [w1 (by omega)]
  simp only [intOf]
  omega
def HdR (l : List Ent) (w : World) (b : Nat) (v5 : Value) (wr : World) : Prop :=
  ∃ (i : Nat) (P : Pg) (A : Option Addr) (c : Nat), i ≤ l.length ∧ i ≤ 60 ∧ v5 = .int .i64 i ∧ Bx wr b (page6 P (.slice A P.es.length c)) 28 ∧ OwN wr w.heap.size (.slice A P.es.length c) P.es ∧ HdP P ∧ P.es.length ≤ i ∧ Mp wr (b + 1) i P.es ∧ Below w.heap.size w wr
set_option maxRecDepth 100000 in
set_option maxHeartbeats 20000000 in
theorem holds_c (w : World) (A : Option Addr) (c : Nat) (l : List Ent) (hm : l.length ≤ 9223372036854775807) (hr : RdN w (.slice A l.length c) l) : Calls Try.prog 5 #[.slice A l.length c] w fun r w' => r = .returned (.bool true) ∧ Below w.heap.size w w' := by
  have HR := Lib.hid hr
  clear hr
  have hmm := @run_makeMap Try.prog
  go_enter Try.func5, Try.ntmps5
  go_wp2_with fail
  refine (speaks_c _).mono ?_
  rintro _ w1 ⟨rfl, hb1⟩
  go_wp2_with fail
  have hal := ((Below.refl w1.heap.size w1).alloc (Nat.le_refl _) (.cells #[.int .i64 0, .int .i64 3, .int .i64 0, .int .i64 0, .string ⟨#[]⟩, .slice none 0 0] 28)).alloc (by simp) (.map #[] 0)
  have X3 := bx_old (bx_new w1 #[.int .i64 0, .int .i64 3, .int .i64 0, .int .i64 0, .string ⟨#[]⟩, .slice none 0 0] 28) (.map #[] 0)
  have hM := mp_made (w1.alloc (.cells #[.int .i64 0, .int .i64 3, .int .i64 0, .int .i64 0, .string ⟨#[]⟩, .slice none 0 0] 28))
  rw [show (w1.alloc (.cells #[.int .i64 0, .int .i64 3, .int .i64 0, .int .i64 0, .string ⟨#[]⟩, .slice none 0 0] 28)).heap.size = w1.heap.size + 1 by simp] at hM
  generalize World.alloc (World.alloc w1 _) _ = w2 at hal X3 hM ⊢
  have HB2 := Lib.hid (hb1.trans (hal.mono hb1.size))
  have HLB : Hid (w.heap.size ≤ w1.heap.size) := hb1.size
  clear hal hb1 hmm
  go_loopw [5] (fun v5 wr => HdR l w w1.heap.size v5 wr) (fun v5 _ => l.length - (intOf v5).toNat)
  case atStart => exact ⟨0, ⟨0, 3, 0, 0, ⟨#[]⟩, []⟩, none, 0, Nat.zero_le _, by decide, rfl, X3, Kd.R_nil _ _ _ _ _, HdP.start, Nat.le_refl _, hM, HB2.out⟩
  case round =>
    clear X3 hM
    obtain ⟨i, P, sA, sc, hi, hi60, rfl, X, hO, hd, hlen, hMp, hbw⟩ := hrel
    have HBW := Lib.hid hbw
    by_cases hlt : i < l.length
    rotate_left
    · have hlt' : ¬ (i : Int) < (l.length : Int) := by omega
      go_wp2_with fail
      go_ret
      exact ⟨rfl, HBW.out⟩
    by_cases h60 : i < 60
    rotate_left
    · have hlt' : (i : Int) < (l.length : Int) := by omega
      have h60' : ¬ (i : Int) < 60 := by omega
      go_wp2_with fail
      go_ret
      exact ⟨rfl, HBW.out⟩
    have hlt' : (i : Int) < (l.length : Int) := by omega
    have h60' : (i : Int) < 60 := by omega
    have hi0 : (0 : Int) ≤ (i : Int) := by omega
    obtain ⟨e, he⟩ : ∃ y, l[i]? = some y := ⟨l[i], by simp [hlt]⟩
    obtain ⟨ad, hA, a0, a1, a2⟩ := at_T44 (kC_of_rd (HR.out.below HBW.out)) (i : Int) (by omega) (by rw [List.length_map]; exact hlt')
    rw [rd44 he, Int.toNat_natCast] at a0 a1 a2
    change wr.cell? _ = some (Value.string e.k) at a0
    change wr.cell? _ = some (Value.string e.v) at a1
    change wr.cell? _ = some (Value.bool e.m) at a2
    subst hA
    have HI := Lib.hid hi60
    have HLW : Hid (w1.heap.size + 1 < wr.heap.size) := hMp.lt
    have HLT := Lib.hid hlt
    have H60 := Lib.hid h60
    have HO := Lib.hid hO
    have HD := Lib.hid hd
    have HLN := Lib.hid hlen
    have HM := Lib.hid hMp
    have hck : ((cutN e.k.size 64 : Nat) : Int) ≤ (e.k.size : Int) := by have := cutN_le e.k.size 64; omega
    have hck0 : (0 : Int) ≤ ((cutN e.k.size 64 : Nat) : Int) := by omega
    have hcv : ((cutN e.v.size 100 : Nat) : Int) ≤ (e.v.size : Int) := by have := cutN_le e.v.size 100; omega
    have hcv0 : (0 : Int) ≤ ((cutN e.v.size 100 : Nat) : Int) := by omega
    clear he hO hd hlen hMp hbw hi60
    as_aux_lemma =>
    go_upto_region 9 with (fail)
    go_region
    have hal : Below wr.heap.size wr (wr.alloc (.cells #[.string (e.k.extract 0 (cutN e.k.size 64)), .string (e.v.extract 0 (cutN e.v.size 100)), .bool e.m] 44)).drew := ((Below.refl wr.heap.size wr).alloc (Nat.le_refl _) _).drew
    have E6 : Bx (wr.alloc (.cells #[.string (e.k.extract 0 (cutN e.k.size 64)), .string (e.v.extract 0 (cutN e.v.size 100)), .bool e.m] 44)).drew wr.heap.size #[.string (e.k.extract 0 (cutN e.k.size 64)), .string (e.v.extract 0 (cutN e.v.size 100)), .bool e.m] 44 := bx_new wr _ 44
    have hk64 : (e.k.extract 0 (cutN e.k.size 64)).size ≤ 64 := by rw [ByteArray.size_extract]; have := cutN_le' e.k.size 64; omega
    have hv100 : (e.v.extract 0 (cutN e.v.size 100)).size ≤ 100 := by rw [ByteArray.size_extract]; have := cutN_le' e.v.size 100; omega
    generalize World.drew (World.alloc wr _) = u0 at hal E6 ⊢
    generalize e.k.extract 0 (cutN e.k.size 64) = ky at hk64 E6 ⊢
    generalize e.v.extract 0 (cutN e.v.size 100) = vy at hv100 E6 ⊢
    have HK := Lib.hid hk64
    have HV := Lib.hid hv100
    have Xa := X.below hal X.lt
    have HOa := Lib.hid (Kd.R_below HO.out hal)
    have HMa := Lib.hid (Mp.below HM.out hal)
    have HBa := Lib.hid (HBW.out.trans (hal.mono HBW.out.size))
    have a2 := old hal a2
    clear a0 a1 hck hck0 hcv hcv0 hk64 hv100 X HO HM hal
    as_aux_lemma =>
    have hlook := HMa.out.look (k := ky) (Nat.le_trans HK.out (by decide))
    obtain ⟨e0, e1, e2⟩ := E6.three
    have hPl : P.es.length ≤ 60 := Nat.le_trans HLN.out HI.out
    have HPL := Lib.hid hPl
    clear hPl
    cases hth : there P.es ky
    · rw [hth] at hlook
      obtain ⟨c0, c1, c2, c3, c4, c5⟩ := Xa.six
      go_wp2_with fail
      obtain ⟨y, hy⟩ : ∃ y : Ent, y = ⟨ky, vy, e.m⟩ := ⟨_, rfl⟩
      refine (insert_c P ⟨ky, vy, e.m⟩ u0 HD.out.sorted (HdP.small HD.out (Nat.le_trans HPL.out (by decide))) (by rw [HD.out.form.2.2.2.2]; decide) (OwN.rd HOa.out)).mono ?_
      rw [← hy]
      obtain ⟨q, f, hins⟩ : ∃ q f, ins P y = (q, f) := ⟨_, _, rfl⟩
      rw [hins]
      rintro _ u1 ⟨v1, rfl, hO1, hu⟩
      change OwN u1 u0.heap.size v1 q.es at hO1
      obtain ⟨A1, c1', hv1, _⟩ := hO1.rd
      change v1 = .slice A1 q.es.length c1' at hv1
      subst hv1
      have HO1 := Lib.hid (Kd.R_lower hO1 HBa.out.size)
      have Xb := Xa.below hu Xa.lt
      have E6b := E6.below hu E6.lt
      have HOb := Lib.hid (Kd.R_below HOa.out hu)
      have HMb := Lib.hid (Mp.below HMa.out hu)
      have HBb := Lib.hid (HBa.out.trans (hu.mono HBa.out.size))
      have hyk : y.k = ky := by rw [hy]
      have hcase := HD.out.ins (y := y) (by rw [hy]; exact HK.out) (by rw [hy]; exact HV.out)
      rw [hins, hyk] at hcase
      have HTH := Lib.hid hth
      have HY := Lib.hid hy
      have hl3 : w1.heap.size < u1.heap.size := Xb.lt
      have hl6 : wr.heap.size < u1.heap.size := E6b.lt
      clear c0 c1 c2 c3 c4 c5 e0 e1 e2 a2 hlook hu hO1 Xa E6 HMa HBa HOa hins hy hyk hth
      unfold pgV
      as_aux_lemma =>
      rcases hcase with ⟨ht, _⟩ | ⟨ht, hf, hi⟩ | ⟨ht, q', hi, hdq, hql, hqs⟩
      · rw [HTH.out] at ht
        cases ht
      · injection hi with hq hf8
        subst hq
        subst hf8
        clear ht
        obtain ⟨e0, e1, e2⟩ := E6b.three
        obtain ⟨c0, c1, c2, c3, c4, c5⟩ := Xb.six
        go_upto_region 26 with (fail)
        have hal := (Below.refl u1.heap.size u1).alloc (Nat.le_refl _) (.cells (page6 zero (.slice A1 zero.es.length c1')) 28)
        generalize World.alloc u1 _ = W2 at hal ⊢
        have Xd := Xb.below hal hl3
        have E6d := E6b.below hal hl6
        have HOd := Lib.hid (Kd.R_below HOb.out hal)
        have HMd := Lib.hid (Mp.below HMb.out hal)
        have HBd := Lib.hid (HBb.out.trans (hal.mono HBb.out.size))
        clear hal Xb E6b HOb HMb HBb HO1 hl3 hl6
        clear e0 e1 e2 c0 c1 c2 c3 c4 c5
        as_aux_lemma =>
        have hgeq : decide ((size y : Int) ≤ free P) = false := by simp; omega
        have hgeq2 : ¬ (size y : Int) ≤ free P := by omega
        have Xg := Xd.drew
        have E6g := E6d.drew
        have K2 := fun (wv : World) (hwv : Below W2.drew.heap.size W2.drew wv) => free_c (p := P) (HdP.small HD.out (Nat.le_trans HPL.out (by decide))) (by rw [HD.out.form.2.2.2.2]; decide) ((OwN.rd (Kd.R_below HOd.out (Below.refl _ _).drew)).below hwv)
        have K4 := fun (wv : World) => size_c (w := wv) (e := y) (by rw [HY.out]; exact ⟨Nat.le_trans HK.out (by decide), Nat.le_trans HV.out (by decide)⟩)
        rw [show enV y = .agg #[.string ky, .string vy, .bool e.m] by rw [HY.out]; rfl] at K4
        unfold pgV at K2
        refine wp_region_quiet (C := fun w' => Below W2.drew.heap.size W2.drew w') (by kernel_rfl) (by kernel_rfl) (Below.refl W2.drew.heap.size W2.drew) ?_
        simp only [List.toList_toArray]
        repeat (first
          | go_big_quiet_skip
          | (go_big_quiet_want
             refine quiet_of (v := ?_) (fun wv hwv => ?_) ?_
             rotate_left
             · obtain ⟨c0, c1, c2, c3, c4, c5⟩ := (Xg.below hwv Xg.lt).six
               obtain ⟨e0, e1, e2⟩ := (E6g.below hwv E6g.lt).three
               have hlook := (Mp.below (Mp.below HMd.out (Below.refl _ _).drew) hwv).look (k := ky) (Nat.le_trans HK.out (by decide))
               rw [HTH.out] at hlook
               go_simp
               first | done | ((with_reducible refine (K2 wv hwv).mono ?_); rintro _ _ ⟨rfl, hb⟩; (refine ⟨?_, hwv.trans (hb.mono hwv.size)⟩; rfl)) | ((with_reducible refine (K4 wv).mono ?_); rintro _ _ ⟨rfl, hb⟩; (refine ⟨?_, hwv.trans (hb.mono hwv.size)⟩; rfl)) | rfl | exact ⟨rfl, rfl⟩
             (try simp only [Act.put, List.setIfInBounds_toArray, List.set_cons_zero, List.set_cons_succ])
             go_big_quiet_on))
        refine wpQuiet_nil ?_
        intro W3 hwz
        have hdz := (Below.refl W2.heap.size W2).drew.trans hwz
        have Xh := Xd.below hdz Xd.lt
        have HOh := Lib.hid (Kd.R_below HOd.out hdz)
        have HMh := Lib.hid (Mp.below HMd.out hdz)
        have HBh := Lib.hid (HBd.out.trans (hdz.mono HBd.out.size))
        clear Xd HOd HMd HBd Xg E6g E6d K2 K4 hdz hwz hgeq hgeq2
        have Xd := Xh
        have HOd := HOh
        have HMd := HMh
        have HBd := HBh
        clear Xh HOh HMh HBh
        go_upto_region 28 with (fail)
        as_aux_lemma =>
        obtain ⟨c0, c1, c2, c3, c4, c5⟩ := Xd.six
        go_wp2_with fail
        refine (right_t P _ (HdP.small HD.out (Nat.le_trans HPL.out (by decide))) (OwN.rd HOd.out) (HdP.right HD.out)).mono ?_
        rintro _ y1 ⟨rfl, hy1⟩
        have Xe := Xd.below hy1 Xd.lt
        have HOe := Lib.hid (Kd.R_below HOd.out hy1)
        have HMe := Lib.hid (Mp.below HMd.out hy1)
        have HBe := Lib.hid (HBd.out.trans (hy1.mono HBd.out.size))
        clear c0 c1 c2 c3 c4 c5 hy1 Xd HOd HMd HBd
        as_aux_lemma =>
        obtain ⟨c0, c1, c2, c3, c4, c5⟩ := Xe.six
        go_wp2_with fail
        refine (free_c (p := P) (HdP.small HD.out (Nat.le_trans HPL.out (by decide))) (by rw [HD.out.form.2.2.2.2]; decide) (OwN.rd HOe.out)).mono ?_
        rintro _ y2 ⟨rfl, hy2⟩
        have Xf := Xe.below hy2 Xe.lt
        have HOf := Lib.hid (Kd.R_below HOe.out hy2)
        have HMf := Lib.hid (Mp.below HMe.out hy2)
        have HBf := Lib.hid (HBe.out.trans (hy2.mono HBe.out.size))
        clear c0 c1 c2 c3 c4 c5 hy2 Xe HOe HMe HBe
        as_aux_lemma =>
        obtain ⟨c0, c1, c2, c3, c4, c5⟩ := Xf.six
        have hmap := HMf.out.size 3
        have hfr : ¬ free P < 0 := by have := HD.out.room; omega
        have hfr2 : decide (free P < 0) = false := by simp [hfr]
        have hi60 := H60.out
        have hlt := HLT.out
        go_wp2_with fail
        go_roundw
        case rel => exact ⟨i + 1, P, sA, sc, hlt, hi60, (by go_num), Xf, HOf.out, HD.out, (by have := HLN.out; omega), HMf.out.mono (by omega), HBf.out⟩
        case measure => simp [intOf]; omega
      · injection hi with hq hf0
        subst hq
        subst hf0
        have HDQ := Lib.hid hdq
        have HQL := Lib.hid hql
        have HQS := Lib.hid hqs
        clear ht hdq hql hqs
        obtain ⟨c0, c1, c2, c3, c4, c5⟩ := Xb.six
        obtain ⟨f0, f1, f2, f3, f4, f5⟩ := Xb.six_free
        go_upto_region 21 with (fail)
        generalize hW : World.setCell _ _ _ = W
        have Xc := Xb.set6 hW
        have E6c := farW E6b (by have := HLW.out; omega) hW
        have HOc := Lib.hid (ownN28 HO1.out Xb hW)
        have HMc := Lib.hid (Mp.set6 HMb.out (by omega) hW)
        have HBc := Lib.hid (bel_set6 HBb.out HLB.out hW)
        have hal := (Below.refl W.heap.size W).alloc (Nat.le_refl _) (.cells (page6 q (.slice A1 q.es.length c1')) 28)
        generalize World.alloc W _ = W2 at hal ⊢
        have Xd := Xc.below hal Xc.lt
        have E6d := E6c.below hal E6c.lt
        have HOd := Lib.hid (Kd.R_below HOc.out hal)
        have HMd := Lib.hid (Mp.below HMc.out hal)
        have HBd := Lib.hid (HBc.out.trans (hal.mono HBc.out.size))
        clear hal hW Xb E6b HMb HBb Xc E6c HOc HMc HBc
        clear c0 c1 c2 c3 c4 c5 f0 f1 f2 f3 f4 f5 hl3 hl6 HO1 HOb
        as_aux_lemma =>
        obtain ⟨u2, hput, hM2, hg2⟩ := HMd.out.put (k := ky) (by have := H60.out; omega) (Nat.le_trans HK.out (by decide)) HTH.out HQL.out HQS.out
        obtain ⟨e0, e1, e2⟩ := E6d.three
        have X2 := bx_map Xd (by omega) hg2
        have hO2 := own_map HOd.out HMd.out hg2
        have hB2 : Below w.heap.size w u2 := HBd.out.grown hg2 HBd.out.size (fun k hk => by injection hk with hk; have := HLB.out; omega)
        go_upto_region 28 with (fail)
        clear e0 e1 e2 hput hg2 Xd E6d HOd HMd HBd
        have Xd := X2
        have HOd := Lib.hid hO2
        have HMd := Lib.hid hM2
        have HBd := Lib.hid hB2
        have HQ61 : Hid (q.es.length ≤ 61) := by unfold Hid; have := HQL.out; have := HPL.out; omega
        clear X2 hO2 hM2 hB2
        as_aux_lemma =>
        obtain ⟨c0, c1, c2, c3, c4, c5⟩ := Xd.six
        go_wp2_with fail
        refine (right_t q _ (HdP.small HDQ.out (Nat.le_trans HQ61.out (by decide))) (OwN.rd HOd.out) (HdP.right HDQ.out)).mono ?_
        rintro _ y1 ⟨rfl, hy1⟩
        have Xe := Xd.below hy1 Xd.lt
        have HOe := Lib.hid (Kd.R_below HOd.out hy1)
        have HMe := Lib.hid (Mp.below HMd.out hy1)
        have HBe := Lib.hid (HBd.out.trans (hy1.mono HBd.out.size))
        clear c0 c1 c2 c3 c4 c5 hy1 Xd HOd HMd HBd
        as_aux_lemma =>
        obtain ⟨c0, c1, c2, c3, c4, c5⟩ := Xe.six
        go_wp2_with fail
        refine (free_c (p := q) (HdP.small HDQ.out (Nat.le_trans HQ61.out (by decide))) (by rw [HDQ.out.form.2.2.2.2]; decide) (OwN.rd HOe.out)).mono ?_
        rintro _ y2 ⟨rfl, hy2⟩
        have Xf := Xe.below hy2 Xe.lt
        have HOf := Lib.hid (Kd.R_below HOe.out hy2)
        have HMf := Lib.hid (Mp.below HMe.out hy2)
        have HBf := Lib.hid (HBe.out.trans (hy2.mono HBe.out.size))
        clear c0 c1 c2 c3 c4 c5 hy2 Xe HOe HMe HBe
        as_aux_lemma =>
        obtain ⟨c0, c1, c2, c3, c4, c5⟩ := Xf.six
        have hmap := HMf.out.size 3
        have hfr : ¬ free q < 0 := by have := HDQ.out.room; omega
        have hfr2 : decide (free q < 0) = false := by simp [hfr]
        have hi60 := H60.out
        have hlt := HLT.out
        go_wp2_with fail
        go_roundw
        case rel => exact ⟨i + 1, q, A1, c1', hlt, hi60, (by go_num), Xf, HOf.out, HDQ.out, (by have := HQL.out; have := HLN.out; omega), HMf.out.mono (by omega), HBf.out⟩
        case measure => simp [intOf]; omega
    · rw [hth] at hlook
      by_cases hem : e.m = true
      · rw [hem] at a2
        obtain ⟨q, hrem, hdq, hql, hqs⟩ := HD.out.rem hth
        have HREM := Lib.hid hrem
        have HDQ := Lib.hid hdq
        have HQL := Lib.hid hql
        have HQS := Lib.hid hqs
        have HTH := Lib.hid hth
        clear hrem hdq hql hqs hth
        obtain ⟨c0, c1, c2, c3, c4, c5⟩ := Xa.six
        go_wp2_with fail
        refine (remove_c P ky u0 HD.out.sorted (Nat.le_trans HPL.out (by decide)) (OwN.rd HOa.out)).mono ?_
        rw [HREM.out]
        rintro _ u1 ⟨v1, rfl, hO1, hu⟩
        change OwN u1 u0.heap.size v1 q.es at hO1
        obtain ⟨A1, c1', hv1, _⟩ := hO1.rd
        change v1 = .slice A1 q.es.length c1' at hv1
        subst hv1
        have HO1 := Lib.hid (Kd.R_lower hO1 HBa.out.size)
        have Xb := Xa.below hu Xa.lt
        have E6b := E6.below hu E6.lt
        have HMb := Lib.hid (Mp.below HMa.out hu)
        have HBb := Lib.hid (HBa.out.trans (hu.mono HBa.out.size))
        clear c0 c1 c2 c3 c4 c5 e0 e1 e2 a2 hlook hu hO1 Xa E6 HMa HBa HOa
        as_aux_lemma =>
        unfold pgV
        obtain ⟨c0, c1, c2, c3, c4, c5⟩ := Xb.six
        obtain ⟨f0, f1, f2, f3, f4, f5⟩ := Xb.six_free
        have hl3 : w1.heap.size < u1.heap.size := Xb.lt
        go_upto_region 15 with (fail)
        generalize hW : World.setCell _ _ _ = W
        have Xc := Xb.set6 hW
        have E6c := farW E6b (by have := HLW.out; omega) hW
        have HOc := Lib.hid (ownN28 HO1.out Xb hW)
        have HMc := Lib.hid (Mp.set6 HMb.out (by omega) hW)
        have HBc := Lib.hid (bel_set6 HBb.out HLB.out hW)
        have hal := (Below.refl W.heap.size W).alloc (Nat.le_refl _) (.cells (page6 q (.slice A1 q.es.length c1')) 28)
        generalize World.alloc W _ = W2 at hal ⊢
        have Xd := Xc.below hal Xc.lt
        have E6d := E6c.below hal E6c.lt
        have HOd := Lib.hid (Kd.R_below HOc.out hal)
        have HMd := Lib.hid (Mp.below HMc.out hal)
        have HBd := Lib.hid (HBc.out.trans (hal.mono HBc.out.size))
        clear hal hW Xb E6b HMb HBb Xc E6c HOc HMc HBc
        clear c0 c1 c2 c3 c4 c5 f0 f1 f2 f3 f4 f5 hl3 HO1
        as_aux_lemma =>
        obtain ⟨u2, hdel, hM2, hg2⟩ := HMd.out.del (k := ky) (Nat.le_trans HK.out (by decide)) HTH.out HQL.out HQS.out 0
        obtain ⟨e0, e1, e2⟩ := E6d.three
        have X2 := bx_map Xd (by omega) hg2
        have hO2 := own_map HOd.out HMd.out hg2
        have hB2 : Below w.heap.size w u2 := HBd.out.grown hg2 HBd.out.size (fun k hk => by injection hk with hk; have := HLB.out; omega)
        have hi60 := H60.out
        have hlt := HLT.out
        have hql := HQL.out
        have hln := HLN.out
        go_wp2_with fail
        go_roundw
        case rel => exact ⟨i + 1, q, A1, c1', hlt, hi60, (by go_num), X2, hO2, HDQ.out, by omega, hM2.mono (by omega), hB2⟩
        case measure => simp [intOf]; omega
      · have hem : e.m = false := by simpa using hem
        rw [hem] at a2 E6
        clear hem
        obtain ⟨c0, c1, c2, c3, c4, c5⟩ := Xa.six
        go_wp2_with fail
        obtain ⟨y, hy⟩ : ∃ y : Ent, y = ⟨ky, vy, false⟩ := ⟨_, rfl⟩
        refine (insert_c P ⟨ky, vy, false⟩ u0 HD.out.sorted (HdP.small HD.out (Nat.le_trans HPL.out (by decide))) (by rw [HD.out.form.2.2.2.2]; decide) (OwN.rd HOa.out)).mono ?_
        rw [← hy]
        obtain ⟨q, f, hins⟩ : ∃ q f, ins P y = (q, f) := ⟨_, _, rfl⟩
        rw [hins]
        rintro _ u1 ⟨v1, rfl, hO1, hu⟩
        change OwN u1 u0.heap.size v1 q.es at hO1
        obtain ⟨A1, c1', hv1, _⟩ := hO1.rd
        change v1 = .slice A1 q.es.length c1' at hv1
        subst hv1
        have HO1 := Lib.hid (Kd.R_lower hO1 HBa.out.size)
        have Xb := Xa.below hu Xa.lt
        have E6b := E6.below hu E6.lt
        have HOb := Lib.hid (Kd.R_below HOa.out hu)
        have HMb := Lib.hid (Mp.below HMa.out hu)
        have HBb := Lib.hid (HBa.out.trans (hu.mono HBa.out.size))
        have hyk : y.k = ky := by rw [hy]
        have hcase := HD.out.ins (y := y) (by rw [hy]; exact HK.out) (by rw [hy]; exact HV.out)
        rw [hins, hyk] at hcase
        have HTH := Lib.hid hth
        have HY := Lib.hid hy
        have hl3 : w1.heap.size < u1.heap.size := Xb.lt
        have hl6 : wr.heap.size < u1.heap.size := E6b.lt
        clear c0 c1 c2 c3 c4 c5 e0 e1 e2 a2 hlook hu hO1 Xa E6 HMa HBa HOa hins hy hyk hth
        unfold pgV
        as_aux_lemma =>
        rcases hcase with ⟨ht, hi⟩ | ⟨ht, _⟩ | ⟨ht, _⟩
        rotate_left
        · rw [HTH.out] at ht
          cases ht
        · rw [HTH.out] at ht
          cases ht
        injection hi with hq hf8
        subst hq
        subst hf8
        clear ht
        obtain ⟨e0, e1, e2⟩ := E6b.three
        obtain ⟨c0, c1, c2, c3, c4, c5⟩ := Xb.six
        go_upto_region 23 with (fail)
        have hal := (Below.refl u1.heap.size u1).alloc (Nat.le_refl _) (.cells (page6 zero (.slice A1 zero.es.length c1')) 28)
        generalize World.alloc u1 _ = W2 at hal ⊢
        have Xd := Xb.below hal hl3
        have E6d := E6b.below hal hl6
        have HOd := Lib.hid (Kd.R_below HOb.out hal)
        have HMd := Lib.hid (Mp.below HMb.out hal)
        have HBd := Lib.hid (HBb.out.trans (hal.mono HBb.out.size))
        clear hal Xb E6b HOb HMb HBb HO1 hl3 hl6
        clear e0 e1 e2 c0 c1 c2 c3 c4 c5
        as_aux_lemma =>
        have hlook := HMd.out.look (k := ky) (Nat.le_trans HK.out (by decide))
        rw [HTH.out] at hlook
        obtain ⟨e0, e1, e2⟩ := E6d.three
        go_upto_region 28 with (fail)
        clear e0 e1 e2 hlook E6d
        as_aux_lemma =>
        obtain ⟨c0, c1, c2, c3, c4, c5⟩ := Xd.six
        go_wp2_with fail
        refine (right_t P _ (HdP.small HD.out (Nat.le_trans HPL.out (by decide))) (OwN.rd HOd.out) (HdP.right HD.out)).mono ?_
        rintro _ y1 ⟨rfl, hy1⟩
        have Xe := Xd.below hy1 Xd.lt
        have HOe := Lib.hid (Kd.R_below HOd.out hy1)
        have HMe := Lib.hid (Mp.below HMd.out hy1)
        have HBe := Lib.hid (HBd.out.trans (hy1.mono HBd.out.size))
        clear c0 c1 c2 c3 c4 c5 hy1 Xd HOd HMd HBd
        as_aux_lemma =>
        obtain ⟨c0, c1, c2, c3, c4, c5⟩ := Xe.six
        go_wp2_with fail
        refine (free_c (p := P) (HdP.small HD.out (Nat.le_trans HPL.out (by decide))) (by rw [HD.out.form.2.2.2.2]; decide) (OwN.rd HOe.out)).mono ?_
        rintro _ y2 ⟨rfl, hy2⟩
        have Xf := Xe.below hy2 Xe.lt
        have HOf := Lib.hid (Kd.R_below HOe.out hy2)
        have HMf := Lib.hid (Mp.below HMe.out hy2)
        have HBf := Lib.hid (HBe.out.trans (hy2.mono HBe.out.size))
        clear c0 c1 c2 c3 c4 c5 hy2 Xe HOe HMe HBe
        as_aux_lemma =>
        obtain ⟨c0, c1, c2, c3, c4, c5⟩ := Xf.six
        have hmap := HMf.out.size 3
        have hfr : ¬ free P < 0 := by have := HD.out.room; omega
        have hfr2 : decide (free P < 0) = false := by simp [hfr]
        have hi60 := H60.out
        have hlt := HLT.out
        go_wp2_with fail
        go_roundw
        case rel => exact ⟨i + 1, P, sA, sc, hlt, hi60, (by go_num), Xf, HOf.out, HD.out, (by have := HLN.out; omega), HMf.out.mono (by omega), HBf.out⟩
        case measure => simp [intOf]; omega
end hd
end Go.Proofs.Ytldmhfpgcflplaa
