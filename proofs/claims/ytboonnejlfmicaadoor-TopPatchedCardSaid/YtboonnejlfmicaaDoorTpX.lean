/-
  The law of patched pages, walked.
-/
import Derived.Test.YtboonnejlfmicaaDoorTpT
import Derived.Test.YtboonnejlfmicaaDoorTpA
set_option linter.unusedVariables false
set_option linter.unusedSimpArgs false
namespace Go.Proofs.YtboonnejlfmicaaDoor
open Go Go.RowKit Go.Proofs.YtboonnejlfmicaaDoor.PA Go.Proofs.YtboonnejlfmicaaDoor.SB Go.Proofs.YtboonnejlfmicaaDoorW.PrintWords
namespace TP
theorem body_c (n : Nat) (b : List UInt8) (hb : b.length = 496) (w : World) : Calls Tryd.prog 9 #[.string (sealB n b)] w fun e w' => e = .returned (.string ⟨b.toArray⟩) ∧ Below w.heap.size w w' := by
  have hsz := sealB_size n b hb
  have e : (sealB n b).extract 6 502 = (⟨b.toArray⟩ : ByteArray) := SB.ext (by
    have := mid (t := sealB n b) (A := be n 6) (M := b) (B := be n 6 ++ markL (rawB n b)) (by rw [sealB_list, rawB]; simp) (s := 6) (e := 502) (by rw [be_length]) (by rw [be_length, hb])
    rw [this])
  refine (page_Body.calls (sealB n b) ⟨b.toArray⟩ w ?_).mono fun e w' ⟨h1, h2⟩ => ⟨h1, h2.below⟩
  unfold page_Body.f
  rw [if_pos (by rw [hsz]; rfl), if_pos (by decide), if_pos (by rw [hsz]; decide), e]
set_option maxHeartbeats 8000000 in
set_option maxRecDepth 100000 in
theorem patched_c {w : World} {s t : Value} {l k : List V} (lsn : Int) (hl : l.length ≤ 9223372036854775807) (hk : k.length ≤ 9223372036854775807) (hs : RdV w s l) (ht : RdV w t k) (hL : LaidT w) :
    Calls Tryd.prog 3 #[s, t, .int .i64 lsn] w fun e w' => e = .returned (.bool true) ∧ Below w.heap.size w w' := by
  have HLd := Lib.hid hL
  have HS := Lib.hid hs
  have HT := Lib.hid ht
  clear hL hs ht
  have hmb := mask_bounds lsn 65535 (by decide) (by decide)
  obtain ⟨m, hm, hm2⟩ : ∃ m : Nat, Go.bits .and .i64 lsn 65535 = (m : Int) ∧ m ≤ 65535 := ⟨(Go.bits .and .i64 lsn 65535).toNat, by omega, by omega⟩
  obtain ⟨N, hN⟩ : ∃ N : Nat, N = m + 1 := ⟨_, rfl⟩
  obtain ⟨N2, hN2⟩ : ∃ N2 : Nat, N2 = m + 2 := ⟨_, rfl⟩
  have v1 : wrap64 (1 + (m : Int)) = (N : Int) := by unfold wrap64; omega
  have v2 : wrap64 ((N : Int) + 1) = (N2 : Int) := by unfold wrap64; omega
  have v3 : (N : Int) + 1 = (N2 : Int) := by omega
  have n1 : N < 281474976710656 := by omega
  have n2 : N2 < 281474976710656 := by omega
  clear hN hN2 hm2
  clear hmb
  go_enter Tryd.func3, Tryd.ntmps3
  go_wp2_with fail
  refine (orders_c HLd.out).mono ?_
  rintro _ w1 ⟨rfl, B1⟩
  go_wp2_with fail
  refine (made_c N n1 hl (HS.out.below B1) (laid_below HLd.out B1)).mono ?_
  rintro _ w2 ⟨rfl, hb2⟩
  have B2 := B1.trans (hb2.mono B1.size)
  have hA := bodyB_length 3 (pageL l) (Nat.le_trans (sizes_map _) (by have : (l.take 8).length ≤ 8 := by rw [List.length_take]; omega
                                                                      omega))
  generalize bodyB 3 (pageL l) = ba at hA ⊢
  clear hb2 B1
  as_aux_lemma =>
  go_wp2_with fail
  refine (made_c N2 n2 hk (HT.out.below B2) (laid_below HLd.out B2)).mono ?_
  rintro _ w3 ⟨rfl, hb3⟩
  have B3 := B2.trans (hb3.mono B2.size)
  have hB := bodyB_length 3 (pageL k) (Nat.le_trans (sizes_map _) (by have : (k.take 8).length ≤ 8 := by rw [List.length_take]; omega
                                                                      omega))
  generalize bodyB 3 (pageL k) = bb at hB ⊢
  clear hb3 B2
  as_aux_lemma =>
  obtain ⟨pa, hpa⟩ : ∃ pa, pa = sealB N ba := ⟨_, rfl⟩
  obtain ⟨pb, hpb⟩ : ∃ pb, pb = sealB N2 bb := ⟨_, rfl⟩
  rw [← hpa, ← hpb]
  have cA := fun w => body_c N ba hA w
  have cB := fun w => body_c N2 bb hB w
  rw [← hpa] at cA
  rw [← hpb] at cB
  have HPB := Lib.hid hpb
  clear hpa hpb
  obtain ⟨BA, hBA⟩ : ∃ BA : ByteArray, BA = ⟨ba.toArray⟩ := ⟨_, rfl⟩
  obtain ⟨BB, hBB⟩ : ∃ BB : ByteArray, BB = ⟨bb.toArray⟩ := ⟨_, rfl⟩
  rw [← hBA] at cA
  rw [← hBB] at cB
  have sA : BA.size = 496 := by rw [hBA, ← SB.sizeL]; exact hA
  have sB : BB.size = 496 := by rw [hBB, ← SB.sizeL]; exact hB
  have HBB : Hid (BB.data.toList = bb) := by unfold Hid; rw [hBB]
  clear hBA hBB hA hB
  have CA := Lib.hid cA
  have CB := Lib.hid cB
  clear cA cB
  as_aux_lemma =>
  go_wp2_with fail
  refine (CA.out w3).mono ?_
  rintro _ w4 ⟨rfl, hb4⟩
  have B4 := B3.trans (hb4.mono B3.size)
  go_wp2_with fail
  refine (CB.out w4).mono ?_
  rintro _ w5 ⟨rfl, hb5⟩
  have B5 := B4.trans (hb5.mono B4.size)
  go_wp2_with fail
  obtain ⟨qs, q1, q2, q3⟩ := diff_c BA BB 496 (by decide) sA sB w5
  refine q3.mono ?_
  rintro _ w6 ⟨v, rfl, hv, hb6⟩
  have B6 := B5.trans (hb6.mono B5.size)
  have Q1 := Lib.hid q1
  have Q2 := Lib.hid q2
  have HV := Lib.hid hv
  obtain ⟨A, cv, rfl, _⟩ := hv
  clear q1 q2 q3 B3 hb4 B4 hb5 B5 hb6
  as_aux_lemma =>
  go_wp2_with fail
  refine (putP_c (N := 496) (by decide) Q1.out HV.out).mono ?_
  rintro _ w7 ⟨rfl, hb7⟩
  have B7 := B6.trans (hb7.mono B6.size)
  have HV7 := Lib.hid (HV.out.below hb7)
  obtain ⟨T, hT⟩ : ∃ T : ByteArray, T = ⟨(putP qs).toArray⟩ := ⟨_, rfl⟩
  have hTl : T.data.toList = putP qs := by rw [hT]
  have hTs : T.size ≤ 1000000000 := by
    have := bodyP_le (Nat.zero_le _) Q1.out
    rw [← SB.sizeL, hTl, putP, List.length_append, be_length]
    omega
  have hput := fun w (h : RdP w (.slice A qs.length cv) qs) => putP_c (N := 496) (by decide) Q1.out h
  rw [← hT] at hput ⊢
  have HPUT := Lib.hid hput
  have HTL := Lib.hid hTl
  have HTS := Lib.hid hTs
  clear hput hT hTl hTs HV B6 hb7
  as_aux_lemma =>
  go_wp2_with fail
  refine (getP_c T qs 496 (by decide) Q1.out HTL.out HTS.out w7).mono ?_
  rintro _ w8 ⟨v8, rfl, hv8, hb8⟩
  have B8 := B7.trans (hb8.mono B7.size)
  have HV8 := Lib.hid (HV7.out.below hb8)
  have HW8 := Lib.hid hv8
  obtain ⟨A8, c8, rfl, _⟩ := hv8
  clear HV7 B7 hb8
  as_aux_lemma =>
  go_wp2_with fail
  refine (CA.out w8).mono ?_
  rintro _ w9 ⟨rfl, hb9⟩
  have B9 := B8.trans (hb9.mono B8.size)
  have HV9 := Lib.hid (HV8.out.below hb9)
  have HW9 := Lib.hid (HW8.out.below hb9)
  go_wp2_with fail
  refine (apply_c BA (N := 496) (by decide) sA Q1.out HW9.out).mono ?_
  rintro _ wa ⟨rfl, hba⟩
  have Ba := B9.trans (hba.mono B9.size)
  have HVa := Lib.hid (HV9.out.below hba)
  have hap : (⟨(app BA.data.toList qs).toArray⟩ : ByteArray) = BB := SB.ext (by rw [Q2.out])
  rw [hap]
  clear hap B8 HV8 HW8 hb9 B9 HV9 HW9 hba
  as_aux_lemma =>
  go_wp2_with fail
  refine (HPUT.out wa HVa.out).mono ?_
  rintro _ wb ⟨rfl, hbb⟩
  have Bb := Ba.trans (hbb.mono Ba.size)
  go_wp2_with fail
  refine (build_c N2 BB sB n2 wb (laid_below HLd.out Bb)).mono ?_
  rintro _ wc ⟨rfl, hbc⟩
  rw [HBB.out, ← HPB.out]
  have Bc := Bb.trans (hbc.mono Bb.size)
  go_wp2_with fail
  go_ret
  exact ⟨rfl, Bc⟩
end TP
end Go.Proofs.YtboonnejlfmicaaDoor
