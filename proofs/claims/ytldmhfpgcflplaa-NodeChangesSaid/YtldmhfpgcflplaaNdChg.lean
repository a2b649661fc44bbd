/-
  The law on changes of a node.
-/
import Derived.Test.YtldmhfpgcflplaaNdMade
import Derived.Test.YtldmhfpgcflplaaNdSame
import Derived.Test.YtldmhfpgcflplaaNdRRm
import Derived.RegionTactic
import Derived.BigRegion
set_option linter.unusedVariables false
set_option linter.unusedSimpArgs false
namespace Go.Proofs.Ytldmhfpgcflplaa
open Go Go.RowKit Go.Proofs.Ytldmhfpgcflplaa.PA Go.Proofs.YtldmhfpgcflplaaW.PrintWords NdP
attribute [local go_sem] min_80 min_120
namespace chg
theorem mdP_small (x : Rw) : Small (mdP x).es := mdL_small x (cutN_le' _ _)
theorem mdP_len (x : Rw) : (mdP x).es.length ≤ 60 := Nat.le_trans (mdL_len x _) (cutN_le' _ _)
theorem mdP_high (x : Rw) : (mdP x).high.size ≤ 80 := cutB80_size _
abbrev page6 (p : Pg) (s : Value) : Array Value := #[.int .i64 p.lsn, .int .i64 p.kind, .int .i64 p.level, .int .i64 p.right, .string p.high, s]
theorem ins_len {p q : Pg} {e : Ent} {f : Int} (h : ins p e = (q, f)) : q.es.length ≤ p.es.length + 1 := by
  have h1 : (ins p e).1 = q := by rw [h]
  subst h1
  have hz : zero.es.length = 0 := rfl
  have hn := place_le p.es e.k
  unfold ins
  split
  · show zero.es.length ≤ _; omega
  · split
    · show zero.es.length ≤ _; omega
    · split
      · show zero.es.length ≤ _; omega
      · show (p.es.take _ ++ e :: p.es.drop _).length ≤ _
        rw [List.length_append, List.length_take, List.length_cons, List.length_drop]
        omega
theorem mark_len {p q : Pg} {key : ByteArray} {b : Bool} {f : Int} (h : NdP.mark p key b = (q, f)) : q.es.length ≤ p.es.length + 1 := by
  have h1 : (NdP.mark p key b).1 = q := by rw [h]
  subst h1
  have hz : zero.es.length = 0 := rfl
  unfold NdP.mark
  split
  · show zero.es.length ≤ _; omega
  · split
    · show zero.es.length ≤ _; omega
    · show (setMark p.es _ b).length ≤ _
      unfold setMark
      split
      · rw [List.length_set]; omega
      · omega
theorem rem_len {p q : Pg} {key : ByteArray} {f : Int} (h : NdP.rem p key = (q, f)) : q.es.length ≤ p.es.length + 1 := by
  have h1 : (NdP.rem p key).1 = q := by rw [h]
  subst h1
  have hz : zero.es.length = 0 := rfl
  unfold NdP.rem
  split
  · show zero.es.length ≤ _; omega
  · show (p.es.eraseIdx _).length ≤ _
    rw [List.length_eraseIdx]
    split <;> omega
theorem own_set47 {w : World} {base b : Nat} {s : Value} {l : List Ent} {cs : Array Value} (h : OwN w base s l) (hb : Bx w b cs 47) (i : Nat) (u : Value) : OwN (w.setCell ⟨b, i, none⟩ u) base s l := Kd.R_set h hb (by decide) i u
theorem own_setQ47 {w : World} {base b : Nat} {s : Value} {l : List Ent} {cs : Array Value} (h : OwQ w base s l) (hb : Bx w b cs 47) (i : Nat) (u : Value) : OwQ (w.setCell ⟨b, i, none⟩ u) base s l := Kd.R_set h hb (by decide) i u
theorem ownN281 {w : World} {base b : Nat} {s : Value} {l : List Ent} {cs : Array Value} (h : OwN w base s l) (hb : Bx w b cs 28) (i : Nat) (u : Value) : OwN (w.setCell ⟨b, i, none⟩ u) base s l := Kd.R_set h hb (by decide) i u
theorem ownN28 {w W : World} {base b : Nat} {s : Value} {l : List Ent} {a0 a1 a2 a3 a4 a5 v0 v1 v2 v3 v4 v5 : Value} (h : OwN w base s l) (hb : Bx w b #[a0, a1, a2, a3, a4, a5] 28)
    (hW : (((((w.setCell ⟨b, 0, none⟩ v0).setCell ⟨b, 1, none⟩ v1).setCell ⟨b, 2, none⟩ v2).setCell ⟨b, 3, none⟩ v3).setCell ⟨b, 4, none⟩ v4).setCell ⟨b, 5, none⟩ v5 = W) : OwN W base s l := by
  subst hW
  exact ownN281 (ownN281 (ownN281 (ownN281 (ownN281 (ownN281 h hb 0 v0) (hb.set 0 v0) 1 v1) ((hb.set 0 v0).set 1 v1) 2 v2) (((hb.set 0 v0).set 1 v1).set 2 v2) 3 v3) ((((hb.set 0 v0).set 1 v1).set 2 v2).set 3 v3) 4 v4) (((((hb.set 0 v0).set 1 v1).set 2 v2).set 3 v3).set 4 v4) 5 v5
theorem ownN311 {w : World} {base b : Nat} {s : Value} {l : List Ent} {cs : Array Value} (h : OwN w base s l) (hb : Bx w b cs 31) (i : Nat) (u : Value) : OwN (w.setCell ⟨b, i, none⟩ u) base s l := Kd.R_set h hb (by decide) i u
theorem ownN31 {w W : World} {base b : Nat} {s : Value} {l : List Ent} {a0 a1 a2 a3 a4 a5 v0 v1 v2 v3 v4 v5 : Value} (h : OwN w base s l) (hb : Bx w b #[a0, a1, a2, a3, a4, a5] 31)
    (hW : (((((w.setCell ⟨b, 0, none⟩ v0).setCell ⟨b, 1, none⟩ v1).setCell ⟨b, 2, none⟩ v2).setCell ⟨b, 3, none⟩ v3).setCell ⟨b, 4, none⟩ v4).setCell ⟨b, 5, none⟩ v5 = W) : OwN W base s l := by
  subst hW
  exact ownN311 (ownN311 (ownN311 (ownN311 (ownN311 (ownN311 h hb 0 v0) (hb.set 0 v0) 1 v1) ((hb.set 0 v0).set 1 v1) 2 v2) (((hb.set 0 v0).set 1 v1).set 2 v2) 3 v3) ((((hb.set 0 v0).set 1 v1).set 2 v2).set 3 v3) 4 v4) (((((hb.set 0 v0).set 1 v1).set 2 v2).set 3 v3).set 4 v4) 5 v5
theorem ownQ281 {w : World} {base b : Nat} {s : Value} {l : List Ent} {cs : Array Value} (h : OwQ w base s l) (hb : Bx w b cs 28) (i : Nat) (u : Value) : OwQ (w.setCell ⟨b, i, none⟩ u) base s l := Kd.R_set h hb (by decide) i u
theorem ownQ28 {w W : World} {base b : Nat} {s : Value} {l : List Ent} {a0 a1 a2 a3 a4 a5 v0 v1 v2 v3 v4 v5 : Value} (h : OwQ w base s l) (hb : Bx w b #[a0, a1, a2, a3, a4, a5] 28)
    (hW : (((((w.setCell ⟨b, 0, none⟩ v0).setCell ⟨b, 1, none⟩ v1).setCell ⟨b, 2, none⟩ v2).setCell ⟨b, 3, none⟩ v3).setCell ⟨b, 4, none⟩ v4).setCell ⟨b, 5, none⟩ v5 = W) : OwQ W base s l := by
  subst hW
  exact ownQ281 (ownQ281 (ownQ281 (ownQ281 (ownQ281 (ownQ281 h hb 0 v0) (hb.set 0 v0) 1 v1) ((hb.set 0 v0).set 1 v1) 2 v2) (((hb.set 0 v0).set 1 v1).set 2 v2) 3 v3) ((((hb.set 0 v0).set 1 v1).set 2 v2).set 3 v3) 4 v4) (((((hb.set 0 v0).set 1 v1).set 2 v2).set 3 v3).set 4 v4) 5 v5
theorem ownQ311 {w : World} {base b : Nat} {s : Value} {l : List Ent} {cs : Array Value} (h : OwQ w base s l) (hb : Bx w b cs 31) (i : Nat) (u : Value) : OwQ (w.setCell ⟨b, i, none⟩ u) base s l := Kd.R_set h hb (by decide) i u
theorem ownQ31 {w W : World} {base b : Nat} {s : Value} {l : List Ent} {a0 a1 a2 a3 a4 a5 v0 v1 v2 v3 v4 v5 : Value} (h : OwQ w base s l) (hb : Bx w b #[a0, a1, a2, a3, a4, a5] 31)
    (hW : (((((w.setCell ⟨b, 0, none⟩ v0).setCell ⟨b, 1, none⟩ v1).setCell ⟨b, 2, none⟩ v2).setCell ⟨b, 3, none⟩ v3).setCell ⟨b, 4, none⟩ v4).setCell ⟨b, 5, none⟩ v5 = W) : OwQ W base s l := by
  subst hW
  exact ownQ311 (ownQ311 (ownQ311 (ownQ311 (ownQ311 (ownQ311 h hb 0 v0) (hb.set 0 v0) 1 v1) ((hb.set 0 v0).set 1 v1) 2 v2) (((hb.set 0 v0).set 1 v1).set 2 v2) 3 v3) ((((hb.set 0 v0).set 1 v1).set 2 v2).set 3 v3) 4 v4) (((((hb.set 0 v0).set 1 v1).set 2 v2).set 3 v3).set 4 v4) 5 v5
theorem farW {w W : World} {b b' t : Nat} {cs : Array Value} {v0 v1 v2 v3 v4 v5 : Value} (h : Bx w b cs t) (hne : ¬ b = b')
    (hW : (((((w.setCell ⟨b', 0, none⟩ v0).setCell ⟨b', 1, none⟩ v1).setCell ⟨b', 2, none⟩ v2).setCell ⟨b', 3, none⟩ v3).setCell ⟨b', 4, none⟩ v4).setCell ⟨b', 5, none⟩ v5 = W) : Bx W b cs t := by
  subst hW
  exact h.keep6 hne v0 v1 v2 v3 v4 v5
set_option maxRecDepth 100000 in
set_option maxHeartbeats 3200000 in
theorem changes_c (w : World) (x : Rw) (A : Option Addr) (c : Nat) (hm : x.es.length ≤ 9223372036854775807) (hr : RdN w (.slice A x.es.length c) x.es) (e : Ent) (b : Bool) : Calls Try.prog 6 #[rwV x (.slice A x.es.length c), enV e, .bool b] w fun r w' => r = .returned (.bool true) ∧ Below w.heap.size w w' := by
  have HR := Lib.hid hr
  clear hr
  unfold rwV enV
  go_enter Try.func6, Try.ntmps6
  go_wp2_with fail
  have hb0 := ((Below.refl w.heap.size w).alloc (Nat.le_refl _) (.cells #[.int .i64 x.level, .int .i64 x.right, .string x.high, .slice A x.es.length c, .bool x.tidy] 24)).alloc (by simp) (.cells #[.string e.k, .string e.v, .bool e.m] 47)
  have X0 := bx_old (bx_new w #[.int .i64 x.level, .int .i64 x.right, .string x.high, .slice A x.es.length c, .bool x.tidy] 24) (.cells #[.string e.k, .string e.v, .bool e.m] 47)
  have X1 : Bx ((w.alloc (.cells #[.int .i64 x.level, .int .i64 x.right, .string x.high, .slice A x.es.length c, .bool x.tidy] 24)).alloc (.cells #[.string e.k, .string e.v, .bool e.m] 47)) (w.heap.size + 1) _ _ := bx_at (bx_new _ #[.string e.k, .string e.v, .bool e.m] 47) (by simp)
  generalize World.alloc (World.alloc w _) _ = w0 at hb0 X0 X1 ⊢
  refine (speaks_c _).mono ?_
  rintro _ w2 ⟨rfl, hb1⟩
  have X0b := X0.below hb1 X0.lt
  have X1b := X1.below hb1 X1.lt
  have HBS := Lib.hid (hb0.trans (hb1.mono hb0.size))
  clear hb0 hb1 X0 X1
  as_aux_lemma =>
  obtain ⟨z0, z1, z2, z3, z4⟩ := five X0b
  go_wp2_with fail
  refine (made_o w2 x A c hm (HR.out.below HBS.out)).mono ?_
  rintro _ w3 ⟨va, vb, rfl, rN, rQ, hb3⟩
  have hsm := mdP_small x
  have hlen := mdP_len x
  have hhi := mdP_high x
  generalize mdP x = P at *
  have HSM := Lib.hid hsm
  have HLEN := Lib.hid hlen
  have HHI := Lib.hid hhi
  have X1 := X1b.below hb3 X1b.lt
  have RN := Lib.hid rN
  have RQ := Lib.hid rQ
  obtain ⟨Aa, ca, rfl, hca, _⟩ := rN.rd
  obtain ⟨Ab, cb, rfl, hcb, _⟩ := rQ.rd
  have HB := Lib.hid (HBS.out.trans (hb3.mono HBS.out.size))
  have hl1 : w.heap.size + 1 < w3.heap.size := X1.lt
  clear hsm hlen hhi hb3 rN rQ HBS z0 z1 z2 z3 z4 X0b X1b HR
  unfold pgV
  go_wp2_with fail
  have hal := ((Below.refl w3.heap.size w3).alloc (Nat.le_refl _) (.cells (page6 P (.slice Aa P.es.length ca)) 28)).alloc (by simp) (.cells (page6 P (.slice Ab P.es.length cb)) 31)
  have X5 := bx_old (bx_new w3 (page6 P (.slice Aa P.es.length ca)) 28) (.cells (page6 P (.slice Ab P.es.length cb)) 31)
  have X6 : Bx ((w3.alloc (.cells (page6 P (.slice Aa P.es.length ca)) 28)).alloc (.cells (page6 P (.slice Ab P.es.length cb)) 31)) (w3.heap.size + 1) _ _ := bx_at (bx_new _ (page6 P (.slice Ab P.es.length cb)) 31) (by simp)
  generalize World.alloc (World.alloc w3 _) _ = w4 at hal X5 X6 ⊢
  have X1a := X1.below hal hl1
  have RNa := Lib.hid (Kd.R_below RN.out hal)
  have RQa := Lib.hid (Kd.R_below RQ.out hal)
  have HBa := Lib.hid (HB.out.trans (hal.mono HB.out.size))
  have X5a := X5
  have X6a := X6
  have HL13 := Lib.hid hl1
  clear hal RN RQ HB X1 X5 X6 hl1
  as_aux_lemma =>
  refine (rright_c P w4 HSM.out (OwQ.rd RQa.out)).mono ?_
  rintro _ w5 ⟨r, rfl, hrp, hb5⟩
  cases r
  · go_wp2_with fail
    go_ret
    exact ⟨rfl, HBa.out.trans (hb5.mono HBa.out.size)⟩
  have HRP : Hid (RightP P) := hrp.1 rfl
  have X1b := X1a.below hb5 X1a.lt
  have X5b := X5a.below hb5 X5a.lt
  have X6b := X6a.below hb5 X6a.lt
  have RNb := Lib.hid (Kd.R_below RNa.out hb5)
  have RQb := Lib.hid (Kd.R_below RQa.out hb5)
  have HBb := Lib.hid (HBa.out.trans (hb5.mono HBa.out.size))
  clear X1a X5a X6a RNa RQa HBa hrp hb5
  as_aux_lemma =>
  obtain ⟨a0, a1, a2⟩ := X1b.three
  obtain ⟨af0, af1⟩ : _ ∧ _ := ⟨X1b.free 0, X1b.free 1⟩
  have hck : ((cutN e.k.size 80 : Nat) : Int) ≤ (e.k.size : Int) := by have := cutN_le e.k.size 80; omega
  have hck0 : (0 : Int) ≤ ((cutN e.k.size 80 : Nat) : Int) := by omega
  have hcv : ((cutN e.v.size 120 : Nat) : Int) ≤ (e.v.size : Int) := by have := cutN_le e.v.size 120; omega
  have hcv0 : (0 : Int) ≤ ((cutN e.v.size 120 : Nat) : Int) := by omega
  go_upto_region 6 with (fail)
  go_region
  have X1c := (X1b.set 0 (.string (e.k.extract 0 (cutN e.k.size 80)))).set 1 (.string (e.v.extract 0 (cutN e.v.size 120)))
  have X1c : Bx ((w5.setCell ⟨w.heap.size + 1, 0, none⟩ (.string (e.k.extract 0 (cutN e.k.size 80)))).setCell ⟨w.heap.size + 1, 1, none⟩ (.string (e.v.extract 0 (cutN e.v.size 120)))) (w.heap.size + 1) #[.string (e.k.extract 0 (cutN e.k.size 80)), .string (e.v.extract 0 (cutN e.v.size 120)), .bool e.m] 47 := X1c
  have X5c := (X5b.far (p := ⟨w.heap.size + 1, 0, none⟩) (by show ¬ w3.heap.size = w.heap.size + 1; have := HL13.out; omega) (.string (e.k.extract 0 (cutN e.k.size 80)))).far (p := ⟨w.heap.size + 1, 1, none⟩) (by show ¬ w3.heap.size = w.heap.size + 1; have := HL13.out; omega) (.string (e.v.extract 0 (cutN e.v.size 120)))
  have X6c := (X6b.far (p := ⟨w.heap.size + 1, 0, none⟩) (by show ¬ w3.heap.size + 1 = w.heap.size + 1; have := HL13.out; omega) (.string (e.k.extract 0 (cutN e.k.size 80)))).far (p := ⟨w.heap.size + 1, 1, none⟩) (by show ¬ w3.heap.size + 1 = w.heap.size + 1; have := HL13.out; omega) (.string (e.v.extract 0 (cutN e.v.size 120)))
  have RNc := Lib.hid (own_set47 (own_set47 RNb.out X1b 0 (.string (e.k.extract 0 (cutN e.k.size 80)))) (X1b.set 0 _) 1 (.string (e.v.extract 0 (cutN e.v.size 120))))
  have RQc := Lib.hid (own_setQ47 (own_setQ47 RQb.out X1b 0 (.string (e.k.extract 0 (cutN e.k.size 80)))) (X1b.set 0 _) 1 (.string (e.v.extract 0 (cutN e.v.size 120))))
  have HBc := Lib.hid ((HBb.out.setCell (p := ⟨w.heap.size + 1, 0, none⟩) (by show w.heap.size ≤ w.heap.size + 1; omega) (.string (e.k.extract 0 (cutN e.k.size 80)))).setCell (p := ⟨w.heap.size + 1, 1, none⟩) (by show w.heap.size ≤ w.heap.size + 1; omega) (.string (e.v.extract 0 (cutN e.v.size 120))))
  have hk80 := cutB80_size e.k
  have hv120 := cutB120_size e.v
  unfold cutB80 at hk80
  unfold cutB120 at hv120
  generalize World.setCell (World.setCell w5 _ _) _ _ = w6 at X1c X5c X6c RNc RQc HBc ⊢
  generalize e.k.extract 0 (cutN e.k.size 80) = ky at hk80 X1c ⊢
  generalize e.v.extract 0 (cutN e.v.size 120) = vy at hv120 X1c ⊢
  have HK := Lib.hid hk80
  have HV := Lib.hid hv120
  have HSO : Hid (Sorted P.es) := HRP.out.2.2.1
  clear a0 a1 a2 af0 af1 hck hck0 hcv hcv0 hk80 hv120 X1b X5b X6b RNb RQb HBb
  as_aux_lemma =>
  have hdr := (Below.refl w6.heap.size w6).drew
  generalize World.drew w6 = w6d at hdr ⊢
  have X1d := X1c.below hdr X1c.lt
  have X5d := X5c.below hdr X5c.lt
  have X6d := X6c.below hdr X6c.lt
  have RNd := Lib.hid (Kd.R_below RNc.out hdr)
  have RQd := Lib.hid (Kd.R_below RQc.out hdr)
  have HBd := Lib.hid (HBc.out.trans (hdr.mono HBc.out.size))
  clear X1c X5c X6c RNc RQc HBc
  clear hdr
  as_aux_lemma =>
  obtain ⟨a0, a1, a2⟩ := X1d.three
  obtain ⟨c0, c1, c2, c3, c4, c5⟩ := X5d.six
  go_wp2_with fail
  refine (insert_c P ⟨ky, vy, e.m⟩ w6d HSO.out HSM.out (by have := HHI.out; omega) (OwN.rd RNd.out)).mono ?_
  obtain ⟨y, hy⟩ : ∃ y : Ent, y = ⟨ky, vy, e.m⟩ := ⟨_, rfl⟩
  rw [← hy]
  obtain ⟨q, f, hins⟩ : ∃ q f, ins P y = (q, f) := ⟨_, _, rfl⟩
  rw [hins]
  rintro _ w7 ⟨v7, rfl, hO7, hb7⟩
  change OwN w7 w6d.heap.size v7 q.es at hO7
  have X1f := X1d.below hb7 X1d.lt
  have X5f := X5d.below hb7 X5d.lt
  have X6f := X6d.below hb7 X6d.lt
  have RNf := Lib.hid (Kd.R_below RNd.out hb7)
  have RQf := Lib.hid (Kd.R_below RQd.out hb7)
  have HBf := Lib.hid (HBd.out.trans (hb7.mono HBd.out.size))
  clear X1d X5d X6d RNd RQd HBd
  clear a0 a1 a2
  clear c0 c1 c2 c3 c4 c5
  clear hb7
  have RO := Lib.hid hO7
  obtain ⟨A7, c7, hv7, _⟩ := hO7.rd
  change v7 = .slice A7 q.es.length c7 at hv7
  subst hv7
  clear hO7
  have HINS := Lib.hid hins
  have HY := Lib.hid hy
  have HLQ := Lib.hid (ins_len hins)
  clear hins hy
  obtain ⟨a0, a1, a2⟩ := X1f.three
  obtain ⟨d0, d1, d2, d3, d4, d5⟩ := X6f.six
  have hl1 : w.heap.size + 1 < w7.heap.size := X1f.lt
  have hl6 : w3.heap.size + 1 < w7.heap.size := X6f.lt
  unfold pgV
  as_aux_lemma =>
  go_wp2_with fail
  have hal := (Below.refl w7.heap.size w7).alloc (Nat.le_refl _) (.cells (page6 q (.slice A7 q.es.length c7)) 28)
  have X7g := bx_new w7 (page6 q (.slice A7 q.es.length c7)) 28
  generalize World.alloc w7 _ = w8 at hal X7g ⊢
  have HLS : Hid (w3.heap.size + 1 < w7.heap.size) := hl6
  have X1g := X1f.below hal X1f.lt
  have X5g := X5f.below hal X5f.lt
  have X6g := X6f.below hal X6f.lt
  have RNg := Lib.hid (Kd.R_below RNf.out hal)
  have RQg := Lib.hid (Kd.R_below RQf.out hal)
  have HBg := Lib.hid (HBf.out.trans (hal.mono HBf.out.size))
  clear X1f X5f X6f RNf RQf HBf
  have ROg := Lib.hid (Kd.R_below RO.out hal)
  clear a0 a1 a2
  clear d0 d1 d2 d3 d4 d5
  clear hal hl1 hl6 RO
  as_aux_lemma =>
  refine (rinsert_c P ⟨ky, vy, e.m⟩ w8 HSM.out (by have := HLEN.out; omega) (by have := HHI.out; omega) (OwQ.rd RQg.out)).mono ?_
  rw [← HY.out, HINS.out]
  rintro _ w9 ⟨v9, rfl, hO9, hb9⟩
  change OwQ w9 w8.heap.size v9 q.es at hO9
  have X7h := X7g.below hb9 X7g.lt
  have ROh := Lib.hid (Kd.R_below ROg.out hb9)
  have X1h := X1g.below hb9 X1g.lt
  have X5h := X5g.below hb9 X5g.lt
  have X6h := X6g.below hb9 X6g.lt
  have RNh := Lib.hid (Kd.R_below RNg.out hb9)
  have RQh := Lib.hid (Kd.R_below RQg.out hb9)
  have HBh := Lib.hid (HBg.out.trans (hb9.mono HBg.out.size))
  clear X1g X5g X6g RNg RQg HBg
  clear hb9 X7g ROg
  have SO := Lib.hid hO9
  obtain ⟨A9, c9, hv9, _⟩ := hO9.rd
  change v9 = .slice A9 q.es.length c9 at hv9
  subst hv9
  clear hO9
  obtain ⟨c0, c1, c2, c3, c4, c5⟩ := X7h.six
  have hl7 : w7.heap.size < w9.heap.size := X7h.lt
  unfold pgV
  go_wp2_with fail
  have hal := (Below.refl w9.heap.size w9).alloc (Nat.le_refl _) (.cells (page6 q (.slice A9 q.es.length c9)) 31)
  have X8i := bx_new w9 (page6 q (.slice A9 q.es.length c9)) 31
  generalize World.alloc w9 _ = w10 at hal X8i ⊢
  have HLT : Hid (w7.heap.size < w9.heap.size) := hl7
  have X7i := X7h.below hal hl7
  have ROi := Lib.hid (Kd.R_below ROh.out hal)
  have SOi := Lib.hid (Kd.R_below SO.out hal)
  have X1i := X1h.below hal X1h.lt
  have X5i := X5h.below hal X5h.lt
  have X6i := X6h.below hal X6h.lt
  have RNi := Lib.hid (Kd.R_below RNh.out hal)
  have RQi := Lib.hid (Kd.R_below RQh.out hal)
  have HBi := Lib.hid (HBh.out.trans (hal.mono HBh.out.size))
  clear X1h X5h X6h RNh RQh HBh
  clear c0 c1 c2 c3 c4 c5
  clear hal hl7 X7h ROh SO
  as_aux_lemma =>
  obtain ⟨c0, c1, c2, c3, c4, c5⟩ := X7i.six
  obtain ⟨d0, d1, d2, d3, d4, d5⟩ := X8i.six
  go_wp2_with fail
  refine (same_c q _ (by have := HLQ.out; have := HLEN.out; omega) (OwN.rd ROi.out) (OwQ.rd SOi.out)).mono ?_
  rintro _ w11 ⟨rfl, hu⟩
  clear c0 c1 c2 c3 c4 c5
  clear d0 d1 d2 d3 d4 d5
  have X1j := X1i.below hu X1i.lt
  have X5j := X5i.below hu X5i.lt
  have X6j := X6i.below hu X6i.lt
  have RNj := Lib.hid (Kd.R_below RNi.out hu)
  have RQj := Lib.hid (Kd.R_below RQi.out hu)
  have HBj := Lib.hid (HBi.out.trans (hu.mono HBi.out.size))
  clear X1i X5i X6i RNi RQi HBi
  have X7j := X7i.below hu X7i.lt
  have X8j := X8i.below hu X8i.lt
  clear X7i X8i hu
  clear ROi SOi
  obtain ⟨c0, c1, c2, c3, c4, c5⟩ := X5j.six
  obtain ⟨d0, d1, d2, d3, d4, d5⟩ := X6j.six
  as_aux_lemma =>
  go_wp2_with fail
  refine (same_c P _ (by have := HLEN.out; omega) (OwN.rd RNj.out) (OwQ.rd RQj.out)).mono ?_
  rintro _ w12 ⟨rfl, hu⟩
  clear c0 c1 c2 c3 c4 c5
  clear d0 d1 d2 d3 d4 d5
  have X1k := X1j.below hu X1j.lt
  have X5k := X5j.below hu X5j.lt
  have X6k := X6j.below hu X6j.lt
  have RNk := Lib.hid (Kd.R_below RNj.out hu)
  have RQk := Lib.hid (Kd.R_below RQj.out hu)
  have HBk := Lib.hid (HBj.out.trans (hu.mono HBj.out.size))
  clear X1j X5j X6j RNj RQj HBj
  have X7k := X7j.below hu X7j.lt
  have X8k := X8j.below hu X8j.lt
  clear X7j X8j hu
  as_aux_lemma =>
  obtain ⟨a0, a1, a2⟩ := X1k.three
  obtain ⟨c0, c1, c2, c3, c4, c5⟩ := X5k.six
  go_wp2_with fail
  as_aux_lemma =>
  refine (mark_c P ky b w12 HSO.out (by have := HLEN.out; omega) (OwN.rd RNk.out)).mono ?_
  obtain ⟨q1, f1, hq1⟩ : ∃ q f, (NdP.mark P ky b) = (q, f) := ⟨_, _, rfl⟩
  rw [hq1]
  rintro _ w13 ⟨vn, rfl, hO, hu⟩
  change OwN w13 w12.heap.size vn q1.es at hO
  clear a0 a1 a2
  clear c0 c1 c2 c3 c4 c5
  have X1l := X1k.below hu X1k.lt
  have X5l := X5k.below hu X5k.lt
  have X6l := X6k.below hu X6k.lt
  have RNl := Lib.hid (Kd.R_below RNk.out hu)
  have RQl := Lib.hid (Kd.R_below RQk.out hu)
  have HBl := Lib.hid (HBk.out.trans (hu.mono HBk.out.size))
  clear X1k X5k X6k RNk RQk HBk
  have X7l := X7k.below hu X7k.lt
  have X8l := X8k.below hu X8k.lt
  clear X7k X8k hu
  have ROl := Lib.hid hO
  obtain ⟨An, cn, hvn, _⟩ := hO.rd
  change vn = .slice An q1.es.length cn at hvn
  subst hvn
  clear hO
  have HQ1 := Lib.hid hq1
  have HLQ1 := Lib.hid (mark_len hq1)
  clear hq1
  obtain ⟨c0, c1, c2, c3, c4, c5⟩ := X7l.six
  obtain ⟨cf0, cf1, cf2, cf3, cf4, cf5⟩ := X7l.six_free
  unfold pgV
  go_upto_region 12 with (fail)
  clear c0 c1 c2 c3 c4 c5
  clear cf0 cf1 cf2 cf3 cf4 cf5
  generalize hW : World.setCell _ _ _ = w14
  have X7m := X7l.set6 hW
  have X1m := farW X1l (by have := HLS.out; have := HL13.out; omega) hW
  have X5m := farW X5l (by have := HLS.out; omega) hW
  have X6m := farW X6l (by have := HLS.out; omega) hW
  have X8m := farW X8l (by have := HLT.out; omega) hW
  have RNm := Lib.hid (ownN28 RNl.out X7l hW)
  have RQm := Lib.hid (ownQ28 RQl.out X7l hW)
  have HBm := Lib.hid (bel_set6 HBl.out (by have := HLS.out; have := HL13.out; omega) hW)
  have ROm := Lib.hid (ownN28 ROl.out X7l hW)
  clear X1l X5l X6l X7l X8l RNl RQl HBl ROl hW
  as_aux_lemma =>
  obtain ⟨a0, a1, a2⟩ := X1m.three
  obtain ⟨c0, c1, c2, c3, c4, c5⟩ := X6m.six
  go_wp2_with fail
  refine (rmark_c P ky b w14 (by have := HLEN.out; omega) (OwQ.rd RQm.out)).mono ?_
  rw [HQ1.out]
  rintro _ w15 ⟨vm, rfl, hO, hu⟩
  change OwQ w15 w14.heap.size vm q1.es at hO
  clear a0 a1 a2
  clear c0 c1 c2 c3 c4 c5
  have ROn := Lib.hid (Kd.R_below ROm.out hu)
  have X1n := X1m.below hu X1m.lt
  have X5n := X5m.below hu X5m.lt
  have X6n := X6m.below hu X6m.lt
  have RNn := Lib.hid (Kd.R_below RNm.out hu)
  have RQn := Lib.hid (Kd.R_below RQm.out hu)
  have HBn := Lib.hid (HBm.out.trans (hu.mono HBm.out.size))
  clear X1m X5m X6m RNm RQm HBm
  have X7n := X7m.below hu X7m.lt
  have X8n := X8m.below hu X8m.lt
  clear X7m X8m hu
  have SOn := Lib.hid hO
  obtain ⟨Am, cm, hvm, _⟩ := hO.rd
  change vm = .slice Am q1.es.length cm at hvm
  subst hvm
  clear hO ROm
  obtain ⟨c0, c1, c2, c3, c4, c5⟩ := X8n.six
  obtain ⟨cf0, cf1, cf2, cf3, cf4, cf5⟩ := X8n.six_free
  unfold pgV
  go_upto_region 13 with (fail)
  clear c0 c1 c2 c3 c4 c5
  clear cf0 cf1 cf2 cf3 cf4 cf5
  generalize hW : World.setCell _ _ _ = w16
  have X8o := X8n.set6 hW
  have X1o := farW X1n (by have := HLS.out; have := HLT.out; have := HL13.out; omega) hW
  have X5o := farW X5n (by have := HLS.out; have := HLT.out; omega) hW
  have X6o := farW X6n (by have := HLS.out; have := HLT.out; omega) hW
  have X7o := farW X7n (by have := HLT.out; omega) hW
  have RNo := Lib.hid (ownN31 RNn.out X8n hW)
  have RQo := Lib.hid (ownQ31 RQn.out X8n hW)
  have HBo := Lib.hid (bel_set6 HBn.out (by have := HLS.out; have := HLT.out; have := HL13.out; omega) hW)
  have ROo := Lib.hid (ownN31 ROn.out X8n hW)
  have SOo := Lib.hid (ownQ31 SOn.out X8n hW)
  clear X1n X5n X6n X7n X8n RNn RQn HBn ROn SOn hW
  as_aux_lemma =>
  obtain ⟨c0, c1, c2, c3, c4, c5⟩ := X7o.six
  obtain ⟨d0, d1, d2, d3, d4, d5⟩ := X8o.six
  go_wp2_with fail
  refine (same_c q1 _ (by have := HLQ1.out; have := HLEN.out; omega) (OwN.rd ROo.out) (OwQ.rd SOo.out)).mono ?_
  rintro _ w17 ⟨rfl, hu⟩
  clear c0 c1 c2 c3 c4 c5
  clear d0 d1 d2 d3 d4 d5
  have X1p := X1o.below hu X1o.lt
  have X5p := X5o.below hu X5o.lt
  have X6p := X6o.below hu X6o.lt
  have RNp := Lib.hid (Kd.R_below RNo.out hu)
  have RQp := Lib.hid (Kd.R_below RQo.out hu)
  have HBp := Lib.hid (HBo.out.trans (hu.mono HBo.out.size))
  clear X1o X5o X6o RNo RQo HBo
  have X7p := X7o.below hu X7o.lt
  have X8p := X8o.below hu X8o.lt
  clear X7o X8o hu
  clear ROo SOo
  obtain ⟨c0, c1, c2, c3, c4, c5⟩ := X5p.six
  obtain ⟨d0, d1, d2, d3, d4, d5⟩ := X6p.six
  as_aux_lemma =>
  go_wp2_with fail
  refine (same_c P _ (by have := HLEN.out; omega) (OwN.rd RNp.out) (OwQ.rd RQp.out)).mono ?_
  rintro _ w18 ⟨rfl, hu⟩
  clear c0 c1 c2 c3 c4 c5
  clear d0 d1 d2 d3 d4 d5
  have X1q := X1p.below hu X1p.lt
  have X5q := X5p.below hu X5p.lt
  have X6q := X6p.below hu X6p.lt
  have RNq := Lib.hid (Kd.R_below RNp.out hu)
  have RQq := Lib.hid (Kd.R_below RQp.out hu)
  have HBq := Lib.hid (HBp.out.trans (hu.mono HBp.out.size))
  clear X1p X5p X6p RNp RQp HBp
  have X7q := X7p.below hu X7p.lt
  have X8q := X8p.below hu X8p.lt
  clear X7p X8p hu
  as_aux_lemma =>
  obtain ⟨a0, a1, a2⟩ := X1q.three
  obtain ⟨c0, c1, c2, c3, c4, c5⟩ := X5q.six
  go_wp2_with fail
  as_aux_lemma =>
  clear HLQ1
  refine (remove_c P ky w18 HSO.out (by have := HLEN.out; omega) (OwN.rd RNq.out)).mono ?_
  obtain ⟨q1, f1, hq1⟩ : ∃ q f, (NdP.rem P ky) = (q, f) := ⟨_, _, rfl⟩
  rw [hq1]
  rintro _ w19 ⟨vn, rfl, hO, hu⟩
  change OwN w19 w18.heap.size vn q1.es at hO
  clear a0 a1 a2
  clear c0 c1 c2 c3 c4 c5
  have X1r := X1q.below hu X1q.lt
  have X5r := X5q.below hu X5q.lt
  have X6r := X6q.below hu X6q.lt
  have RNr := Lib.hid (Kd.R_below RNq.out hu)
  have RQr := Lib.hid (Kd.R_below RQq.out hu)
  have HBr := Lib.hid (HBq.out.trans (hu.mono HBq.out.size))
  clear X1q X5q X6q RNq RQq HBq
  have X7r := X7q.below hu X7q.lt
  have X8r := X8q.below hu X8q.lt
  clear X7q X8q hu
  have ROr := Lib.hid hO
  obtain ⟨An, cn, hvn, _⟩ := hO.rd
  change vn = .slice An q1.es.length cn at hvn
  subst hvn
  clear hO
  have HQ1 := Lib.hid hq1
  have HLQ1 := Lib.hid (rem_len hq1)
  clear hq1
  obtain ⟨c0, c1, c2, c3, c4, c5⟩ := X7r.six
  obtain ⟨cf0, cf1, cf2, cf3, cf4, cf5⟩ := X7r.six_free
  unfold pgV
  go_upto_region 16 with (fail)
  clear c0 c1 c2 c3 c4 c5
  clear cf0 cf1 cf2 cf3 cf4 cf5
  generalize hW : World.setCell _ _ _ = w20
  have X7s := X7r.set6 hW
  have X1s := farW X1r (by have := HLS.out; have := HL13.out; omega) hW
  have X5s := farW X5r (by have := HLS.out; omega) hW
  have X6s := farW X6r (by have := HLS.out; omega) hW
  have X8s := farW X8r (by have := HLT.out; omega) hW
  have RNs := Lib.hid (ownN28 RNr.out X7r hW)
  have RQs := Lib.hid (ownQ28 RQr.out X7r hW)
  have HBs := Lib.hid (bel_set6 HBr.out (by have := HLS.out; have := HL13.out; omega) hW)
  have ROs := Lib.hid (ownN28 ROr.out X7r hW)
  clear X1r X5r X6r X7r X8r RNr RQr HBr ROr hW
  as_aux_lemma =>
  obtain ⟨a0, a1, a2⟩ := X1s.three
  obtain ⟨c0, c1, c2, c3, c4, c5⟩ := X6s.six
  go_wp2_with fail
  refine (rremove_c P ky w20 (by have := HLEN.out; omega) (OwQ.rd RQs.out)).mono ?_
  rw [HQ1.out]
  rintro _ w21 ⟨vm, rfl, hO, hu⟩
  change OwQ w21 w20.heap.size vm q1.es at hO
  clear a0 a1 a2
  clear c0 c1 c2 c3 c4 c5
  have ROt := Lib.hid (Kd.R_below ROs.out hu)
  have X1t := X1s.below hu X1s.lt
  have X5t := X5s.below hu X5s.lt
  have X6t := X6s.below hu X6s.lt
  have RNt := Lib.hid (Kd.R_below RNs.out hu)
  have RQt := Lib.hid (Kd.R_below RQs.out hu)
  have HBt := Lib.hid (HBs.out.trans (hu.mono HBs.out.size))
  clear X1s X5s X6s RNs RQs HBs
  have X7t := X7s.below hu X7s.lt
  have X8t := X8s.below hu X8s.lt
  clear X7s X8s hu
  have SOt := Lib.hid hO
  obtain ⟨Am, cm, hvm, _⟩ := hO.rd
  change vm = .slice Am q1.es.length cm at hvm
  subst hvm
  clear hO ROs
  obtain ⟨c0, c1, c2, c3, c4, c5⟩ := X8t.six
  obtain ⟨cf0, cf1, cf2, cf3, cf4, cf5⟩ := X8t.six_free
  unfold pgV
  go_upto_region 17 with (fail)
  clear c0 c1 c2 c3 c4 c5
  clear cf0 cf1 cf2 cf3 cf4 cf5
  generalize hW : World.setCell _ _ _ = w22
  have X8u := X8t.set6 hW
  have X1u := farW X1t (by have := HLS.out; have := HLT.out; have := HL13.out; omega) hW
  have X5u := farW X5t (by have := HLS.out; have := HLT.out; omega) hW
  have X6u := farW X6t (by have := HLS.out; have := HLT.out; omega) hW
  have X7u := farW X7t (by have := HLT.out; omega) hW
  have RNu := Lib.hid (ownN31 RNt.out X8t hW)
  have RQu := Lib.hid (ownQ31 RQt.out X8t hW)
  have HBu := Lib.hid (bel_set6 HBt.out (by have := HLS.out; have := HLT.out; have := HL13.out; omega) hW)
  have ROu := Lib.hid (ownN31 ROt.out X8t hW)
  have SOu := Lib.hid (ownQ31 SOt.out X8t hW)
  clear X1t X5t X6t X7t X8t RNt RQt HBt ROt SOt hW
  as_aux_lemma =>
  obtain ⟨c0, c1, c2, c3, c4, c5⟩ := X7u.six
  obtain ⟨d0, d1, d2, d3, d4, d5⟩ := X8u.six
  go_wp2_with fail
  refine (same_c q1 _ (by have := HLQ1.out; have := HLEN.out; omega) (OwN.rd ROu.out) (OwQ.rd SOu.out)).mono ?_
  rintro _ w23 ⟨rfl, hu⟩
  clear c0 c1 c2 c3 c4 c5
  clear d0 d1 d2 d3 d4 d5
  have X1v := X1u.below hu X1u.lt
  have X5v := X5u.below hu X5u.lt
  have X6v := X6u.below hu X6u.lt
  have RNv := Lib.hid (Kd.R_below RNu.out hu)
  have RQv := Lib.hid (Kd.R_below RQu.out hu)
  have HBv := Lib.hid (HBu.out.trans (hu.mono HBu.out.size))
  clear X1u X5u X6u RNu RQu HBu
  have X7v := X7u.below hu X7u.lt
  have X8v := X8u.below hu X8u.lt
  clear X7u X8u hu
  clear ROu SOu
  obtain ⟨c0, c1, c2, c3, c4, c5⟩ := X5v.six
  obtain ⟨d0, d1, d2, d3, d4, d5⟩ := X6v.six
  as_aux_lemma =>
  go_wp2_with fail
  refine (same_c P _ (by have := HLEN.out; omega) (OwN.rd RNv.out) (OwQ.rd RQv.out)).mono ?_
  rintro _ w24 ⟨rfl, hu⟩
  clear c0 c1 c2 c3 c4 c5
  clear d0 d1 d2 d3 d4 d5
  have X1w := X1v.below hu X1v.lt
  have X5w := X5v.below hu X5v.lt
  have X6w := X6v.below hu X6v.lt
  have RNw := Lib.hid (Kd.R_below RNv.out hu)
  have RQw := Lib.hid (Kd.R_below RQv.out hu)
  have HBw := Lib.hid (HBv.out.trans (hu.mono HBv.out.size))
  clear X1v X5v X6v RNv RQv HBv
  have X7w := X7v.below hu X7v.lt
  have X8w := X8v.below hu X8v.lt
  clear X7v X8v hu
  as_aux_lemma =>
  go_wp2_with fail
  go_ret
  exact ⟨rfl, HBw.out⟩
end chg
end Go.Proofs.Ytldmhfpgcflplaa
