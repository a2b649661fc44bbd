/-
  The law on what is put in and taken out.
-/
import Derived.Test.YtldmhfpgcflplaaNdBkP
import Derived.Test.YtldmhfpgcflplaaNdRem
import Derived.RegionTactic
import Derived.BigRegion
set_option linter.unusedVariables false
set_option linter.unusedSimpArgs false
namespace Go.Proofs.Ytldmhfpgcflplaa
open Go Go.RowKit Go.Proofs.Ytldmhfpgcflplaa.PA Go.Proofs.YtldmhfpgcflplaaW.PrintWords NdP
attribute [local go_sem] min_80 min_120

theorem own_set47 {w : World} {base b : Nat} {s : Value} {l : List Ent} {cs : Array Value} (h : OwN w base s l) (hb : Bx w b cs 47) (i : Nat) (u : Value) : OwN (w.setCell ⟨b, i, none⟩ u) base s l := Kd.R_set h hb (by decide) i u
theorem own_setQ47 {w : World} {base b : Nat} {s : Value} {l : List Ent} {cs : Array Value} (h : OwQ w base s l) (hb : Bx w b cs 47) (i : Nat) (u : Value) : OwQ (w.setCell ⟨b, i, none⟩ u) base s l := Kd.R_set h hb (by decide) i u
set_option maxRecDepth 100000 in
set_option maxHeartbeats 3200000 in
theorem back_c (w : World) (x : Rw) (A : Option Addr) (c : Nat) (hm : x.es.length ≤ 9223372036854775807) (hr : RdN w (.slice A x.es.length c) x.es) (e : Ent) : Calls Try.prog 7 #[rwV x (.slice A x.es.length c), enV e] w fun r w' => r = .returned (.bool true) ∧ Below w.heap.size w w' := by
  have HR := Lib.hid hr
  clear hr
  unfold rwV enV
  go_enter Try.func7, Try.ntmps7
  go_wp2_with fail
  have hb0 := ((Below.refl w.heap.size w).alloc (Nat.le_refl _) (.cells #[.int .i64 x.level, .int .i64 x.right, .string x.high, .slice A x.es.length c, .bool x.tidy] 24)).alloc (by simp) (.cells #[.string e.k, .string e.v, .bool e.m] 47)
  have X0 := bx_old (bx_new w #[.int .i64 x.level, .int .i64 x.right, .string x.high, .slice A x.es.length c, .bool x.tidy] 24) (.cells #[.string e.k, .string e.v, .bool e.m] 47)
  have X1 : Bx ((w.alloc (.cells #[.int .i64 x.level, .int .i64 x.right, .string x.high, .slice A x.es.length c, .bool x.tidy] 24)).alloc (.cells #[.string e.k, .string e.v, .bool e.m] 47)) (w.heap.size + 1) _ _ := bx_at (bx_new _ #[.string e.k, .string e.v, .bool e.m] 47) (by simp)
  generalize World.alloc (World.alloc w _) _ = w0 at hb0 X0 X1 ⊢
  refine (speaks_c _).mono ?_
  rintro _ w1 ⟨rfl, hb1⟩
  have X0a := X0.below hb1 X0.lt
  have X1a := X1.below hb1 X1.lt
  have HB1 := Lib.hid (hb0.trans (hb1.mono hb0.size))
  clear hb0 hb1 X0 X1
  obtain ⟨z0, z1, z2, z3, z4⟩ := five X0a
  have zf := X0a.free 4
  go_upto_region 4 with (fail)
  have X0b := X0a.set 4 (.bool true)
  have X1b := X1a.far (p := ⟨w.heap.size, 4, none⟩) (by show ¬ w.heap.size + 1 = w.heap.size; omega) (.bool true)
  have hbs : Below w.heap.size w (w1.setCell ⟨w.heap.size, 4, none⟩ (.bool true)) := HB1.out.setCell (by show w.heap.size ≤ w.heap.size; omega) _
  generalize World.setCell w1 _ _ = w2 at X0b X1b hbs ⊢
  have X0b : Bx w2 w.heap.size #[.int .i64 x.level, .int .i64 x.right, .string x.high, .slice A x.es.length c, .bool true] 24 := X0b
  have HBS := Lib.hid hbs
  clear z0 z1 z2 z3 z4 zf X0a X1a HB1 hbs
  as_aux_lemma =>
  obtain ⟨z0, z1, z2, z3, z4⟩ := five X0b
  go_wp2_with fail
  refine (made_o w2 { x with tidy := true } A c hm (HR.out.below HBS.out)).mono ?_
  rintro _ w3 ⟨va, vb, rfl, rN, rQ, hb3⟩
  have hsm := mdP_small { x with tidy := true }
  have hlen := mdP_len { x with tidy := true }
  have hhi := mdP_high { x with tidy := true }
  generalize mdP { x with tidy := true } = P at *
  have HSM := Lib.hid hsm
  have HLEN := Lib.hid hlen
  have HHI := Lib.hid hhi
  have X1 := X1b.below hb3 X1b.lt
  have RN := Lib.hid rN
  have RQ := Lib.hid rQ
  obtain ⟨Aa, ca, rfl, hca, _⟩ := rN.rd
  obtain ⟨Ab, cb, rfl, hcb, _⟩ := rQ.rd
  have HB := Lib.hid (HBS.out.trans (hb3.mono HBS.out.size))
  have hl1 : w.heap.size + 1 < w3.heap.size := X1.lt
  clear hsm hlen hhi hb3 rN rQ HBS z0 z1 z2 z3 z4 X0b X1b HR
  unfold pgV
  go_wp2_with fail
  have hal := ((Below.refl w3.heap.size w3).alloc (Nat.le_refl _) (.cells (page6 P (.slice Aa P.es.length ca)) 28)).alloc (by simp) (.cells (page6 P (.slice Ab P.es.length cb)) 31)
  have X5 := bx_old (bx_new w3 (page6 P (.slice Aa P.es.length ca)) 28) (.cells (page6 P (.slice Ab P.es.length cb)) 31)
  have X6 : Bx ((w3.alloc (.cells (page6 P (.slice Aa P.es.length ca)) 28)).alloc (.cells (page6 P (.slice Ab P.es.length cb)) 31)) (w3.heap.size + 1) _ _ := bx_at (bx_new _ (page6 P (.slice Ab P.es.length cb)) 31) (by simp)
  generalize World.alloc (World.alloc w3 _) _ = w4 at hal X5 X6 ⊢
  have X1a := X1.below hal hl1
  have RNa := Lib.hid (Kd.R_below RN.out hal)
  have RQa := Lib.hid (Kd.R_below RQ.out hal)
  have HBa := Lib.hid (HB.out.trans (hal.mono HB.out.size))
  have X5a := X5
  have X6a := X6
  have HL13 := Lib.hid hl1
  clear hal RN RQ HB X1 X5 X6 hl1
  as_aux_lemma =>
  refine (right_c P w4 HSM.out (OwN.rd RNa.out)).mono ?_
  rintro _ w5 ⟨r, rfl, hrp, hb5⟩
  cases r
  · go_wp2_with fail
    go_ret
    exact ⟨rfl, HBa.out.trans (hb5.mono HBa.out.size)⟩
  have HRP : Hid (RightP P) := hrp.1 rfl
  have X1b := X1a.below hb5 X1a.lt
  have X5b := X5a.below hb5 X5a.lt
  have X6b := X6a.below hb5 X6a.lt
  have RNb := Lib.hid (Kd.R_below RNa.out hb5)
  have RQb := Lib.hid (Kd.R_below RQa.out hb5)
  have HBb := Lib.hid (HBa.out.trans (hb5.mono HBa.out.size))
  clear X1a X5a X6a RNa RQa HBa hrp hb5
  as_aux_lemma =>
  obtain ⟨a0, a1, a2⟩ := X1b.three
  obtain ⟨af0, af1⟩ : _ ∧ _ := ⟨X1b.free 0, X1b.free 1⟩
  have hck : ((cutN e.k.size 80 : Nat) : Int) ≤ (e.k.size : Int) := by have := cutN_le e.k.size 80; omega
  have hck0 : (0 : Int) ≤ ((cutN e.k.size 80 : Nat) : Int) := by omega
  have hcv : ((cutN e.v.size 120 : Nat) : Int) ≤ (e.v.size : Int) := by have := cutN_le e.v.size 120; omega
  have hcv0 : (0 : Int) ≤ ((cutN e.v.size 120 : Nat) : Int) := by omega
  go_upto_region 7 with (fail)
  go_region
  have X1c := (X1b.set 0 (.string (e.k.extract 0 (cutN e.k.size 80)))).set 1 (.string (e.v.extract 0 (cutN e.v.size 120)))
  have X1c : Bx ((w5.setCell ⟨w.heap.size + 1, 0, none⟩ (.string (e.k.extract 0 (cutN e.k.size 80)))).setCell ⟨w.heap.size + 1, 1, none⟩ (.string (e.v.extract 0 (cutN e.v.size 120)))) (w.heap.size + 1) #[.string (e.k.extract 0 (cutN e.k.size 80)), .string (e.v.extract 0 (cutN e.v.size 120)), .bool e.m] 47 := X1c
  have X5c := (X5b.far (p := ⟨w.heap.size + 1, 0, none⟩) (by show ¬ w3.heap.size = w.heap.size + 1; have := HL13.out; omega) (.string (e.k.extract 0 (cutN e.k.size 80)))).far (p := ⟨w.heap.size + 1, 1, none⟩) (by show ¬ w3.heap.size = w.heap.size + 1; have := HL13.out; omega) (.string (e.v.extract 0 (cutN e.v.size 120)))
  have X6c := (X6b.far (p := ⟨w.heap.size + 1, 0, none⟩) (by show ¬ w3.heap.size + 1 = w.heap.size + 1; have := HL13.out; omega) (.string (e.k.extract 0 (cutN e.k.size 80)))).far (p := ⟨w.heap.size + 1, 1, none⟩) (by show ¬ w3.heap.size + 1 = w.heap.size + 1; have := HL13.out; omega) (.string (e.v.extract 0 (cutN e.v.size 120)))
  have RNc := Lib.hid (OwN.rd (own_set47 (own_set47 RNb.out X1b 0 (.string (e.k.extract 0 (cutN e.k.size 80)))) (X1b.set 0 _) 1 (.string (e.v.extract 0 (cutN e.v.size 120)))))
  have RQc := Lib.hid (OwQ.rd (own_setQ47 (own_setQ47 RQb.out X1b 0 (.string (e.k.extract 0 (cutN e.k.size 80)))) (X1b.set 0 _) 1 (.string (e.v.extract 0 (cutN e.v.size 120)))))
  have HBc := Lib.hid ((HBb.out.setCell (p := ⟨w.heap.size + 1, 0, none⟩) (by show w.heap.size ≤ w.heap.size + 1; omega) (.string (e.k.extract 0 (cutN e.k.size 80)))).setCell (p := ⟨w.heap.size + 1, 1, none⟩) (by show w.heap.size ≤ w.heap.size + 1; omega) (.string (e.v.extract 0 (cutN e.v.size 120))))
  have hk80 := cutB80_size e.k
  have hv120 := cutB120_size e.v
  unfold cutB80 at hk80
  unfold cutB120 at hv120
  generalize World.setCell (World.setCell w5 _ _) _ _ = w6 at X1c X5c X6c RNc RQc HBc ⊢
  generalize e.k.extract 0 (cutN e.k.size 80) = ky at hk80 X1c ⊢
  generalize e.v.extract 0 (cutN e.v.size 120) = vy at hv120 X1c ⊢
  have HK := Lib.hid hk80
  have HV := Lib.hid hv120
  have HSO : Hid (Sorted P.es) := HRP.out.2.2.1
  clear a0 a1 a2 af0 af1 hck hck0 hcv hcv0 hk80 hv120 X1b X5b X6b RNb RQb HBb
  as_aux_lemma =>
  have hdr := (Below.refl w6.heap.size w6).drew
  generalize World.drew w6 = w6d at hdr ⊢
  have X1d := X1c.below hdr X1c.lt
  have X5d := X5c.below hdr X5c.lt
  have X6d := X6c.below hdr X6c.lt
  have RNd := Lib.hid (RNc.out.below hdr)
  have RQd := Lib.hid (RQc.out.below hdr)
  have HBd := Lib.hid (HBc.out.trans (hdr.mono HBc.out.size))
  clear X1c X5c X6c RNc RQc HBc
  clear hdr
  as_aux_lemma =>
  obtain ⟨a0, a1, a2⟩ := X1d.three
  obtain ⟨c0, c1, c2, c3, c4, c5⟩ := X5d.six
  go_wp2_with fail
  obtain ⟨y, hy⟩ : ∃ y : Ent, y = ⟨ky, vy, e.m⟩ := ⟨_, rfl⟩
  refine (insert_c P ⟨ky, vy, e.m⟩ w6d HSO.out HSM.out (by have := HHI.out; omega) RNd.out).mono ?_
  rw [← hy]
  obtain ⟨q, f, hins⟩ : ∃ q f, ins P y = (q, f) := ⟨_, _, rfl⟩
  rw [hins]
  rintro _ w7 ⟨v7, rfl, hO7, hb7⟩
  have X1f := X1d.below hb7 X1d.lt
  have X5f := X5d.below hb7 X5d.lt
  have X6f := X6d.below hb7 X6d.lt
  have RNf := Lib.hid (RNd.out.below hb7)
  have RQf := Lib.hid (RQd.out.below hb7)
  have HBf := Lib.hid (HBd.out.trans (hb7.mono HBd.out.size))
  clear X1d X5d X6d RNd RQd HBd
  clear a0 a1 a2 c0 c1 c2 c3 c4 c5 hb7
  have RO := Lib.hid hO7.rd
  obtain ⟨A7, c7, hv7, _⟩ := hO7.rd
  change v7 = .slice A7 q.es.length c7 at hv7
  subst hv7
  clear hO7
  have HINS := Lib.hid hins
  have HY := Lib.hid hy
  clear hins hy
  obtain ⟨a0, a1, a2⟩ := X1f.three
  have hl1 : w.heap.size + 1 < w7.heap.size := X1f.lt
  unfold pgV
  as_aux_lemma =>
  by_cases hf : f = 0
  · have hfd : decide (f = 0) = true := by simp [hf]
    subst hf
    obtain ⟨hSq, hrem, hfre, hlq⟩ := ins_rem HSO.out HINS.out
    have HSQ := Lib.hid hSq
    have hyk : y.k = ky := by rw [HY.out]
    rw [hyk] at hrem
    have HREM := Lib.hid hrem
    have HFRE := Lib.hid hfre
    have HLQ := Lib.hid hlq
    have HSMQ : Hid (Small q.es) := ⟨by have := HLEN.out; omega, fun z hz => by
      obtain ⟨_, _, _, _, _, hq⟩ := ins_ok HINS.out
      rw [hq] at hz
      rcases mem_ins.1 hz with h | h
      · rw [h, HY.out]; have := HK.out; have := HV.out; exact ⟨by show ky.size ≤ 1000; omega, by show vy.size ≤ 1000; omega⟩
      · exact HSM.out.2 z h⟩
    have HHQ : Hid (q.high.size ≤ 1000) := by
      obtain ⟨_, _, _, _, _, hq⟩ := ins_ok HINS.out
      unfold Hid
      rw [hq]
      have := HHI.out
      show P.high.size ≤ 1000
      omega
    clear hSq hrem hfre hlq hyk
    as_aux_lemma =>
    go_wp2_with fail
    have hal := (Below.refl w7.heap.size w7).alloc (Nat.le_refl _) (.cells (page6 q (.slice A7 q.es.length c7)) 28)
    have X7 := bx_new w7 (page6 q (.slice A7 q.es.length c7)) 28
    generalize World.alloc w7 _ = w8 at hal X7 ⊢
    have ROa := Lib.hid (RO.out.below hal)
    have X1g := X1f.below hal X1f.lt
    have X5g := X5f.below hal X5f.lt
    have X6g := X6f.below hal X6f.lt
    have RNg := Lib.hid (RNf.out.below hal)
    have RQg := Lib.hid (RQf.out.below hal)
    have HBg := Lib.hid (HBf.out.trans (hal.mono HBf.out.size))
    clear X1f X5f X6f RNf RQf HBf
    clear a0 a1 a2 hl1 hal RO
    as_aux_lemma =>
    refine (remove_c q ky w8 HSQ.out (by have := HLEN.out; have := HLQ.out; omega) ROa.out).mono ?_
    rw [HREM.out]
    rintro _ w9 ⟨v9, rfl, hO9, hb9⟩
    have X7a := X7.below hb9 X7.lt
    have ROb := Lib.hid (ROa.out.below hb9)
    have X1h := X1g.below hb9 X1g.lt
    have X5h := X5g.below hb9 X5g.lt
    have X6h := X6g.below hb9 X6g.lt
    have RNh := Lib.hid (RNg.out.below hb9)
    have RQh := Lib.hid (RQg.out.below hb9)
    have HBh := Lib.hid (HBg.out.trans (hb9.mono HBg.out.size))
    clear X1g X5g X6g RNg RQg HBg
    have RP := Lib.hid hO9.rd
    obtain ⟨A9, c9, hv9, _⟩ := hO9.rd
    change v9 = .slice A9 P.es.length c9 at hv9
    subst hv9
    clear hO9 X7 ROa hb9
    have hl7 : w7.heap.size < w9.heap.size := X7a.lt
    unfold pgV
    go_wp2_with fail
    have hal := (Below.refl w9.heap.size w9).alloc (Nat.le_refl _) (.cells (page6 P (.slice A9 P.es.length c9)) 28)
    have X9 := bx_new w9 (page6 P (.slice A9 P.es.length c9)) 28
    generalize World.alloc w9 _ = w10 at hal X9 ⊢
    have X7b := X7a.below hal hl7
    have ROc := Lib.hid (ROb.out.below hal)
    have RPc := Lib.hid (RP.out.below hal)
    have X1i := X1h.below hal X1h.lt
    have X5i := X5h.below hal X5h.lt
    have X6i := X6h.below hal X6h.lt
    have RNi := Lib.hid (RNh.out.below hal)
    have RQi := Lib.hid (RQh.out.below hal)
    have HBi := Lib.hid (HBh.out.trans (hal.mono HBh.out.size))
    clear X1h X5h X6h RNh RQh HBh
    clear hal hl7 X7a ROb RP
    as_aux_lemma =>
    have X1j := X1i.drew
    have X5j := X5i.drew
    have X6j := X6i.drew
    have X7d := X7b.drew
    have X9d := X9.drew
    have hw1 : IntKind.i64.wrap (free P - (size y : Int)) = free q := by
      have h1 := small_sizes HSM.out.2
      have h2 := HSM.out.1
      have h3 := HHI.out
      have h4 := HFRE.out
      have h5 : size y = 3 + ky.size + vy.size := by rw [HY.out]; rfl
      have h6 := HK.out
      have h7 := HV.out
      rw [IntKind.wrap_i64, h4]
      unfold free
      omega
    have K1 := fun (wv : World) (hwv : Below w10.drew.heap.size w10.drew wv) => same_c P wv (Nat.le_trans HLEN.out (by decide)) ((RPc.out.below (Below.refl _ _).drew).below hwv) ((RQi.out.below (Below.refl _ _).drew).below hwv)
    have K2 := fun (wv : World) (hwv : Below w10.drew.heap.size w10.drew wv) => free_c (p := q) HSMQ.out HHQ.out ((ROc.out.below (Below.refl _ _).drew).below hwv)
    have K3 := fun (wv : World) (hwv : Below w10.drew.heap.size w10.drew wv) => free_c (p := P) HSM.out (Nat.le_trans HHI.out (by decide)) ((RNi.out.below (Below.refl _ _).drew).below hwv)
    have K4 := fun (wv : World) => size_c (w := wv) (e := y) (by rw [HY.out]; exact ⟨Nat.le_trans HK.out (by decide), Nat.le_trans HV.out (by decide)⟩)
    rw [show enV y = .agg #[.string ky, .string vy, .bool e.m] by rw [HY.out]; rfl] at K4
    unfold pgV at K1 K2 K3
    refine wp_region_quiet (C := fun w' => Below w10.drew.heap.size w10.drew w') (by kernel_rfl) (by kernel_rfl) (Below.refl w10.drew.heap.size w10.drew) ?_
    simp only [List.toList_toArray]
    repeat (first
      | go_big_quiet_skip
      | (go_big_quiet_want
         refine quiet_of (v := ?_) (fun wv hwv => ?_) ?_
         rotate_left
         · obtain ⟨c0, c1, c2, c3, c4, c5⟩ := (X5j.below hwv X5j.lt).six
           obtain ⟨d0, d1, d2, d3, d4, d5⟩ := (X6j.below hwv X6j.lt).six
           obtain ⟨g0, g1, g2, g3, g4, g5⟩ := (X7d.below hwv X7d.lt).six
           obtain ⟨k0, k1, k2, k3, k4, k5⟩ := (X9d.below hwv X9d.lt).six
           obtain ⟨a0, a1, a2⟩ := (X1j.below hwv X1j.lt).three
           go_simp
           first | done | ((with_reducible refine (K1 wv hwv).mono ?_); rintro _ _ ⟨rfl, hb⟩; (refine ⟨?_, hwv.trans (hb.mono hwv.size)⟩; rfl)) | ((with_reducible refine (K2 wv hwv).mono ?_); rintro _ _ ⟨rfl, hb⟩; (refine ⟨?_, hwv.trans (hb.mono hwv.size)⟩; rfl)) | ((with_reducible refine (K3 wv hwv).mono ?_); rintro _ _ ⟨rfl, hb⟩; (refine ⟨?_, hwv.trans (hb.mono hwv.size)⟩; rfl)) | ((with_reducible refine (K4 wv).mono ?_); rintro _ _ ⟨rfl, hb⟩; (refine ⟨?_, hwv.trans (hb.mono hwv.size)⟩; rfl)) | rfl | exact ⟨rfl, rfl⟩
         (try simp only [Act.put, List.setIfInBounds_toArray, List.set_cons_zero, List.set_cons_succ])
         go_big_quiet_on))
    refine wpQuiet_nil ?_
    intro wz hwz
    have hdz := (Below.refl w10.heap.size w10).drew.trans hwz
    have X1z := X1i.below hdz X1i.lt
    have X5z := X5i.below hdz X5i.lt
    have X6z := X6i.below hdz X6i.lt
    have RNz := Lib.hid (RNi.out.below hdz)
    have RQz := Lib.hid (RQi.out.below hdz)
    have HBz := Lib.hid (HBi.out.trans (hdz.mono HBi.out.size))
    clear X1i X5i X6i RNi RQi HBi
    clear hdz hwz X1j X5j X6j X7d X9d
    as_aux_lemma =>
    obtain ⟨a0, a1, a2⟩ := X1z.three
    obtain ⟨c0, c1, c2, c3, c4, c5⟩ := X5z.six
    go_wp2_with fail
    refine (find_c (p := P) HSO.out (by have := HLEN.out; omega) RNz.out).mono ?_
    rintro _ w20 ⟨rfl, hb20⟩
    have X1y := X1z.below hb20 X1z.lt
    have X5y := X5z.below hb20 X5z.lt
    have X6y := X6z.below hb20 X6z.lt
    have RNy := Lib.hid (RNz.out.below hb20)
    have RQy := Lib.hid (RQz.out.below hb20)
    have HBy := Lib.hid (HBz.out.trans (hb20.mono HBz.out.size))
    clear X1z X5z X6z RNz RQz HBz
    clear a0 a1 a2 c0 c1 c2 c3 c4 c5 hb20
    cases hth : there P.es ky
    · go_wp2_with fail
      go_ret
      exact ⟨rfl, HBy.out⟩
    obtain ⟨en, hen, hek⟩ := there_lt hth
    obtain ⟨q2, hm1, hm2, hfr, hS2, hl2, hs2, hh2⟩ := mark_back HSO.out hth hen
    obtain ⟨n, hn⟩ : ∃ n, n = place P.es ky := ⟨_, rfl⟩
    rw [← hn] at hen
    rw [← hn]
    have hnl : n < P.es.length := by
      rcases Nat.lt_or_ge n P.es.length with h' | h'
      · exact h'
      · rw [List.getElem?_eq_none h'] at hen; cases hen
    have hn0 : (0 : Int) ≤ (n : Int) := by omega
    have hn1 : (n : Int) < (P.es.length : Int) := by omega
    obtain ⟨ad, hA, r0, r1, r2⟩ := at_T44 (kC_of_rd RNy.out) (n : Int) (by omega) (by rw [List.length_map]; exact hn1)
    rw [rd44 hen, Int.toNat_natCast] at r0 r1 r2
    change w20.cell? _ = some (Value.bool en.m) at r2
    subst hA
    have HM1 := Lib.hid hm1
    have HM2 := Lib.hid hm2
    have HS2 := Lib.hid hS2
    have HSM2 : Hid (Small q2.es) := hs2 HSM.out
    have HFR := Lib.hid hfr
    have HH2 := Lib.hid hh2
    have HL2 := Lib.hid hl2
    clear hm1 hm2 hfr hS2 hl2 hs2 hh2 hth hen hek hn
    as_aux_lemma =>
    obtain ⟨a0, a1, a2⟩ := X1y.three
    obtain ⟨c0, c1, c2, c3, c4, c5⟩ := X5y.six
    go_wp2_with fail
    refine (mark_c P ky (!en.m) w20 HSO.out (by have := HLEN.out; omega) RNy.out).mono ?_
    rw [HM1.out]
    rintro _ w21 ⟨v21, rfl, hO21, hb21⟩
    have X1x := X1y.below hb21 X1y.lt
    have X5x := X5y.below hb21 X5y.lt
    have X6x := X6y.below hb21 X6y.lt
    have RNx := Lib.hid (RNy.out.below hb21)
    have RQx := Lib.hid (RQy.out.below hb21)
    have HBx := Lib.hid (HBy.out.trans (hb21.mono HBy.out.size))
    clear X1y X5y X6y RNy RQy HBy
    clear a0 a1 a2 c0 c1 c2 c3 c4 c5 r0 r1 r2 hb21
    have RO := Lib.hid hO21.rd
    obtain ⟨A21, c21, hv21, _⟩ := hO21.rd
    change v21 = .slice A21 q2.es.length c21 at hv21
    subst hv21
    clear hO21
    obtain ⟨a0, a1, a2⟩ := X1x.three
    have hl1 : w.heap.size + 1 < w21.heap.size := X1x.lt
    unfold pgV
    go_wp2_with fail
    have hal := (Below.refl w21.heap.size w21).alloc (Nat.le_refl _) (.cells (page6 q2 (.slice A21 q2.es.length c21)) 28)
    have X14 := bx_new w21 (page6 q2 (.slice A21 q2.es.length c21)) 28
    generalize World.alloc w21 _ = w22 at hal X14 ⊢
    have ROa := Lib.hid (RO.out.below hal)
    have X1v := X1x.below hal X1x.lt
    have X5v := X5x.below hal X5x.lt
    have X6v := X6x.below hal X6x.lt
    have RNv := Lib.hid (RNx.out.below hal)
    have RQv := Lib.hid (RQx.out.below hal)
    have HBv := Lib.hid (HBx.out.trans (hal.mono HBx.out.size))
    clear X1x X5x X6x RNx RQx HBx
    clear a0 a1 a2 hl1 hal RO
    as_aux_lemma =>
    refine (mark_c q2 ky en.m w22 HS2.out (by have := HLEN.out; have := HL2.out; omega) ROa.out).mono ?_
    rw [HM2.out]
    rintro _ w23 ⟨v23, rfl, hO23, hb23⟩
    have X14a := X14.below hb23 X14.lt
    have ROb := Lib.hid (ROa.out.below hb23)
    have X1u := X1v.below hb23 X1v.lt
    have X5u := X5v.below hb23 X5v.lt
    have X6u := X6v.below hb23 X6v.lt
    have RNu := Lib.hid (RNv.out.below hb23)
    have RQu := Lib.hid (RQv.out.below hb23)
    have HBu := Lib.hid (HBv.out.trans (hb23.mono HBv.out.size))
    clear X1v X5v X6v RNv RQv HBv
    have RP := Lib.hid hO23.rd
    obtain ⟨A23, c23, hv23, _⟩ := hO23.rd
    change v23 = .slice A23 P.es.length c23 at hv23
    subst hv23
    clear hO23 X14 ROa
    have hl14 : w21.heap.size < w23.heap.size := X14a.lt
    unfold pgV
    go_wp2_with fail
    have hal := (Below.refl w23.heap.size w23).alloc (Nat.le_refl _) (.cells (page6 P (.slice A23 P.es.length c23)) 28)
    have X16 := bx_new w23 (page6 P (.slice A23 P.es.length c23)) 28
    generalize World.alloc w23 _ = w24 at hal X16 ⊢
    have X14b := X14a.below hal hl14
    have ROc := Lib.hid (ROb.out.below hal)
    have RPc := Lib.hid (RP.out.below hal)
    have X1t := X1u.below hal X1u.lt
    have X5t := X5u.below hal X5u.lt
    have X6t := X6u.below hal X6u.lt
    have RNt := Lib.hid (RNu.out.below hal)
    have RQt := Lib.hid (RQu.out.below hal)
    have HBt := Lib.hid (HBu.out.trans (hal.mono HBu.out.size))
    clear X1u X5u X6u RNu RQu HBu
    clear hal hl14 X14a ROb RP hb23
    as_aux_lemma =>
    have X5d := X5t.drew
    have X6d := X6t.drew
    have X14d := X14b.drew
    have X16d := X16.drew
    have K1 := fun (wv : World) (hwv : Below w24.drew.heap.size w24.drew wv) => same_c P wv (Nat.le_trans HLEN.out (by decide)) ((RPc.out.below (Below.refl _ _).drew).below hwv) ((RQt.out.below (Below.refl _ _).drew).below hwv)
    have K2 := fun (wv : World) (hwv : Below w24.drew.heap.size w24.drew wv) => free_c (p := q2) HSM2.out (by rw [HH2.out]; exact Nat.le_trans HHI.out (by decide)) ((ROc.out.below (Below.refl _ _).drew).below hwv)
    have K3 := fun (wv : World) (hwv : Below w24.drew.heap.size w24.drew wv) => free_c (p := P) HSM.out (Nat.le_trans HHI.out (by decide)) ((RNt.out.below (Below.refl _ _).drew).below hwv)
    rw [HFR.out] at K2
    unfold pgV at K1 K2 K3
    refine wp_region_quiet (C := fun w' => Below w24.drew.heap.size w24.drew w') (by kernel_rfl) (by kernel_rfl) (Below.refl w24.drew.heap.size w24.drew) ?_
    simp only [List.toList_toArray]
    repeat (first
      | go_big_quiet_skip
      | (go_big_quiet_want
         refine quiet_of (v := ?_) (fun wv hwv => ?_) ?_
         rotate_left
         · obtain ⟨c0, c1, c2, c3, c4, c5⟩ := (X5d.below hwv X5d.lt).six
           obtain ⟨d0, d1, d2, d3, d4, d5⟩ := (X6d.below hwv X6d.lt).six
           obtain ⟨g0, g1, g2, g3, g4, g5⟩ := (X14d.below hwv X14d.lt).six
           obtain ⟨k0, k1, k2, k3, k4, k5⟩ := (X16d.below hwv X16d.lt).six
           go_simp
           first | done | ((with_reducible refine (K1 wv hwv).mono ?_); rintro _ _ ⟨rfl, hb⟩; (refine ⟨?_, hwv.trans (hb.mono hwv.size)⟩; rfl)) | ((with_reducible refine (K2 wv hwv).mono ?_); rintro _ _ ⟨rfl, hb⟩; (refine ⟨?_, hwv.trans (hb.mono hwv.size)⟩; rfl)) | ((with_reducible refine (K3 wv hwv).mono ?_); rintro _ _ ⟨rfl, hb⟩; (refine ⟨?_, hwv.trans (hb.mono hwv.size)⟩; rfl)) | rfl | exact ⟨rfl, rfl⟩
         (try simp only [Act.put, List.setIfInBounds_toArray, List.set_cons_zero, List.set_cons_succ])
         go_big_quiet_on))
    refine wpQuiet_nil ?_
    intro w30 hw30
    go_wp2_with fail
    go_ret
    refine ⟨rfl, ?_⟩
    exact HBt.out.trans (((Below.refl w24.heap.size w24).drew.trans hw30).mono HBt.out.size)
  · have hfd : decide (f = 0) = false := by simp [hf]
    obtain ⟨c0, c1, c2, c3, c4, c5⟩ := X5f.six
    have hl5 : w3.heap.size < w7.heap.size := X5f.lt
    go_wp2_with fail
    have hal := (Below.refl w7.heap.size w7).alloc (Nat.le_refl _) (.cells (page6 q (.slice A7 q.es.length c7)) 28)
    have X7 := bx_new w7 (page6 q (.slice A7 q.es.length c7)) 28
    generalize World.alloc w7 _ = wz at hal X7 ⊢
    have X1z := X1f.below hal X1f.lt
    have X5z := X5f.below hal X5f.lt
    have X6z := X6f.below hal X6f.lt
    have RNz := Lib.hid (RNf.out.below hal)
    have RQz := Lib.hid (RQf.out.below hal)
    have HBz := Lib.hid (HBf.out.trans (hal.mono HBf.out.size))
    clear X1f X5f X6f RNf RQf HBf
    clear hl1 hl5 hal RO
    as_aux_lemma =>
    refine (find_c (p := P) HSO.out (by have := HLEN.out; omega) RNz.out).mono ?_
    rintro _ w20 ⟨rfl, hb20⟩
    have X1y := X1z.below hb20 X1z.lt
    have X5y := X5z.below hb20 X5z.lt
    have X6y := X6z.below hb20 X6z.lt
    have RNy := Lib.hid (RNz.out.below hb20)
    have RQy := Lib.hid (RQz.out.below hb20)
    have HBy := Lib.hid (HBz.out.trans (hb20.mono HBz.out.size))
    clear X1z X5z X6z RNz RQz HBz
    clear a0 a1 a2 c0 c1 c2 c3 c4 c5 hb20
    cases hth : there P.es ky
    · go_wp2_with fail
      go_ret
      exact ⟨rfl, HBy.out⟩
    obtain ⟨en, hen, hek⟩ := there_lt hth
    obtain ⟨q2, hm1, hm2, hfr, hS2, hl2, hs2, hh2⟩ := mark_back HSO.out hth hen
    obtain ⟨n, hn⟩ : ∃ n, n = place P.es ky := ⟨_, rfl⟩
    rw [← hn] at hen
    rw [← hn]
    have hnl : n < P.es.length := by
      rcases Nat.lt_or_ge n P.es.length with h' | h'
      · exact h'
      · rw [List.getElem?_eq_none h'] at hen; cases hen
    have hn0 : (0 : Int) ≤ (n : Int) := by omega
    have hn1 : (n : Int) < (P.es.length : Int) := by omega
    obtain ⟨ad, hA, r0, r1, r2⟩ := at_T44 (kC_of_rd RNy.out) (n : Int) (by omega) (by rw [List.length_map]; exact hn1)
    rw [rd44 hen, Int.toNat_natCast] at r0 r1 r2
    change w20.cell? _ = some (Value.bool en.m) at r2
    subst hA
    have HM1 := Lib.hid hm1
    have HM2 := Lib.hid hm2
    have HS2 := Lib.hid hS2
    have HSM2 : Hid (Small q2.es) := hs2 HSM.out
    have HFR := Lib.hid hfr
    have HH2 := Lib.hid hh2
    have HL2 := Lib.hid hl2
    clear hm1 hm2 hfr hS2 hl2 hs2 hh2 hth hen hek hn
    as_aux_lemma =>
    obtain ⟨a0, a1, a2⟩ := X1y.three
    obtain ⟨c0, c1, c2, c3, c4, c5⟩ := X5y.six
    go_wp2_with fail
    refine (mark_c P ky (!en.m) w20 HSO.out (by have := HLEN.out; omega) RNy.out).mono ?_
    rw [HM1.out]
    rintro _ w21 ⟨v21, rfl, hO21, hb21⟩
    have X1x := X1y.below hb21 X1y.lt
    have X5x := X5y.below hb21 X5y.lt
    have X6x := X6y.below hb21 X6y.lt
    have RNx := Lib.hid (RNy.out.below hb21)
    have RQx := Lib.hid (RQy.out.below hb21)
    have HBx := Lib.hid (HBy.out.trans (hb21.mono HBy.out.size))
    clear X1y X5y X6y RNy RQy HBy
    clear a0 a1 a2 c0 c1 c2 c3 c4 c5 r0 r1 r2 hb21
    have RO := Lib.hid hO21.rd
    obtain ⟨A21, c21, hv21, _⟩ := hO21.rd
    change v21 = .slice A21 q2.es.length c21 at hv21
    subst hv21
    clear hO21
    obtain ⟨a0, a1, a2⟩ := X1x.three
    have hl1 : w.heap.size + 1 < w21.heap.size := X1x.lt
    unfold pgV
    go_wp2_with fail
    have hal := (Below.refl w21.heap.size w21).alloc (Nat.le_refl _) (.cells (page6 q2 (.slice A21 q2.es.length c21)) 28)
    have X14 := bx_new w21 (page6 q2 (.slice A21 q2.es.length c21)) 28
    generalize World.alloc w21 _ = w22 at hal X14 ⊢
    have ROa := Lib.hid (RO.out.below hal)
    have X1v := X1x.below hal X1x.lt
    have X5v := X5x.below hal X5x.lt
    have X6v := X6x.below hal X6x.lt
    have RNv := Lib.hid (RNx.out.below hal)
    have RQv := Lib.hid (RQx.out.below hal)
    have HBv := Lib.hid (HBx.out.trans (hal.mono HBx.out.size))
    clear X1x X5x X6x RNx RQx HBx
    clear a0 a1 a2 hl1 hal RO
    as_aux_lemma =>
    refine (mark_c q2 ky en.m w22 HS2.out (by have := HLEN.out; have := HL2.out; omega) ROa.out).mono ?_
    rw [HM2.out]
    rintro _ w23 ⟨v23, rfl, hO23, hb23⟩
    have X14a := X14.below hb23 X14.lt
    have ROb := Lib.hid (ROa.out.below hb23)
    have X1u := X1v.below hb23 X1v.lt
    have X5u := X5v.below hb23 X5v.lt
    have X6u := X6v.below hb23 X6v.lt
    have RNu := Lib.hid (RNv.out.below hb23)
    have RQu := Lib.hid (RQv.out.below hb23)
    have HBu := Lib.hid (HBv.out.trans (hb23.mono HBv.out.size))
    clear X1v X5v X6v RNv RQv HBv
    have RP := Lib.hid hO23.rd
    obtain ⟨A23, c23, hv23, _⟩ := hO23.rd
    change v23 = .slice A23 P.es.length c23 at hv23
    subst hv23
    clear hO23 X14 ROa
    have hl14 : w21.heap.size < w23.heap.size := X14a.lt
    unfold pgV
    go_wp2_with fail
    have hal := (Below.refl w23.heap.size w23).alloc (Nat.le_refl _) (.cells (page6 P (.slice A23 P.es.length c23)) 28)
    have X16 := bx_new w23 (page6 P (.slice A23 P.es.length c23)) 28
    generalize World.alloc w23 _ = w24 at hal X16 ⊢
    have X14b := X14a.below hal hl14
    have ROc := Lib.hid (ROb.out.below hal)
    have RPc := Lib.hid (RP.out.below hal)
    have X1t := X1u.below hal X1u.lt
    have X5t := X5u.below hal X5u.lt
    have X6t := X6u.below hal X6u.lt
    have RNt := Lib.hid (RNu.out.below hal)
    have RQt := Lib.hid (RQu.out.below hal)
    have HBt := Lib.hid (HBu.out.trans (hal.mono HBu.out.size))
    clear X1u X5u X6u RNu RQu HBu
    clear hal hl14 X14a ROb RP hb23
    as_aux_lemma =>
    have X5d := X5t.drew
    have X6d := X6t.drew
    have X14d := X14b.drew
    have X16d := X16.drew
    have K1 := fun (wv : World) (hwv : Below w24.drew.heap.size w24.drew wv) => same_c P wv (Nat.le_trans HLEN.out (by decide)) ((RPc.out.below (Below.refl _ _).drew).below hwv) ((RQt.out.below (Below.refl _ _).drew).below hwv)
    have K2 := fun (wv : World) (hwv : Below w24.drew.heap.size w24.drew wv) => free_c (p := q2) HSM2.out (by rw [HH2.out]; exact Nat.le_trans HHI.out (by decide)) ((ROc.out.below (Below.refl _ _).drew).below hwv)
    have K3 := fun (wv : World) (hwv : Below w24.drew.heap.size w24.drew wv) => free_c (p := P) HSM.out (Nat.le_trans HHI.out (by decide)) ((RNt.out.below (Below.refl _ _).drew).below hwv)
    rw [HFR.out] at K2
    unfold pgV at K1 K2 K3
    refine wp_region_quiet (C := fun w' => Below w24.drew.heap.size w24.drew w') (by kernel_rfl) (by kernel_rfl) (Below.refl w24.drew.heap.size w24.drew) ?_
    simp only [List.toList_toArray]
    repeat (first
      | go_big_quiet_skip
      | (go_big_quiet_want
         refine quiet_of (v := ?_) (fun wv hwv => ?_) ?_
         rotate_left
         · obtain ⟨c0, c1, c2, c3, c4, c5⟩ := (X5d.below hwv X5d.lt).six
           obtain ⟨d0, d1, d2, d3, d4, d5⟩ := (X6d.below hwv X6d.lt).six
           obtain ⟨g0, g1, g2, g3, g4, g5⟩ := (X14d.below hwv X14d.lt).six
           obtain ⟨k0, k1, k2, k3, k4, k5⟩ := (X16d.below hwv X16d.lt).six
           go_simp
           first | done | ((with_reducible refine (K1 wv hwv).mono ?_); rintro _ _ ⟨rfl, hb⟩; (refine ⟨?_, hwv.trans (hb.mono hwv.size)⟩; rfl)) | ((with_reducible refine (K2 wv hwv).mono ?_); rintro _ _ ⟨rfl, hb⟩; (refine ⟨?_, hwv.trans (hb.mono hwv.size)⟩; rfl)) | ((with_reducible refine (K3 wv hwv).mono ?_); rintro _ _ ⟨rfl, hb⟩; (refine ⟨?_, hwv.trans (hb.mono hwv.size)⟩; rfl)) | rfl | exact ⟨rfl, rfl⟩
         (try simp only [Act.put, List.setIfInBounds_toArray, List.set_cons_zero, List.set_cons_succ])
         go_big_quiet_on))
    refine wpQuiet_nil ?_
    intro w30 hw30
    go_wp2_with fail
    go_ret
    refine ⟨rfl, ?_⟩
    exact HBt.out.trans (((Below.refl w24.heap.size w24).drew.trans hw30).mono HBt.out.size)
end Go.Proofs.Ytldmhfpgcflplaa
