/-
  The contracts of Whole, of the law's own maker of pages and of its orders.
-/
import Derived.Test.YtfaabbimbjegmaaDoorTpE
set_option linter.unusedVariables false
set_option linter.unusedSimpArgs false
namespace Go.Proofs.YtfaabbimbjegmaaDoor
open Go Go.RowKit Go.Proofs.YtfaabbimbjegmaaDoor.PA Go.Proofs.YtfaabbimbjegmaaDoor.SB Go.Proofs.YtfaabbimbjegmaaDoorW.PrintWords
namespace TP
theorem noughts_c (s : ByteArray) (hs : s.size ≤ 9223372036854775807) : ∃ b, ∀ w : World, Calls Tryd.prog 31 #[.string s] w fun e w' => e = .returned (.bool b) ∧ Below w.heap.size w w' := by
  apply Exists.intro
  intro w
  go_enter Tryd.func31, Tryd.ntmps31
  go_wp2_with fail
  refine (Tryd.strings_Trim_one s 0 (by decide) w hs).mono ?_
  rintro _ w1 ⟨rfl, hw⟩
  have hb : Below w.heap.size w w1 := by
    rcases hw with rfl | rfl
    · exact Below.refl _ _
    · exact (Below.refl _ _).drew
  go_wp2_with fail
  go_ret
  exact ⟨rfl, hb⟩
set_option maxHeartbeats 4000000 in
theorem whole_c (n : Nat) (b : List UInt8) (hb : b.length = 496) (w : World) (hL : LaidT w) : Calls Tryd.prog 18 #[.string (sealB n b)] w fun e w' => e = .returned (.bool true) ∧ Below w.heap.size w w' := by
  have HL := Lib.hid hL
  clear hL
  have hsz := sealB_size n b hb
  have hrl : (rawB n b).length = 508 := by rw [rawB, List.length_append, List.length_append, be_length, hb]
  obtain ⟨r, hr⟩ : ∃ r : ByteArray, r = ⟨(rawB n b).toArray⟩ := ⟨_, rfl⟩
  have hrd : r.data.toList = rawB n b := by rw [hr]
  have hrs : r.size = 508 := by rw [← SB.sizeL, hrd, hrl]
  have hop := open_seal r (sealB n b) (by rw [hrs]; decide) (by rw [sealB_list, hrd])
  have e1 : (r.extract 0 6).data.toList = be n 6 := by rw [SB.extract_front, hrd, rawB, List.append_assoc, List.take_left' (by rw [be_length])]
  have e2 : (r.extract 502 508).data.toList = be n 6 := by
    have := SB.extract_back r 502
    rw [hrs, hrd, rawB, List.drop_left' (by rw [List.length_append, be_length, hb])] at this
    exact this
  have HOP := Lib.hid hop
  have heq : r.extract 0 6 = r.extract 502 508 := SB.ext (e1.trans e2.symm)
  generalize sealB n b = t at hsz HOP hop
  clear hop e1 e2 hr hrd hrl hb
  have hsi : ((t.size : Int) != 512) = false := by rw [hsz]; rfl
  obtain ⟨z, hz⟩ := noughts_c t (by rw [hsz]; decide)
  have hc1 : (6 : Nat) ≤ r.size := by rw [hrs]; decide
  have hc2 : (502 : Nat) ≤ r.size := by rw [hrs]; decide
  have hre : r.extract 502 r.size = r.extract 0 6 := by rw [hrs, heq]
  go_enter Tryd.func18, Tryd.ntmps18
  go_wp2_with fail
  refine (sum_Open.calls _ _ _ w HOP.out HL.out).mono ?_
  rintro _ w1 ⟨rfl, hb1⟩
  go_upto_region 4 with (fail)
  have K1 := fun (wv : World) (hwv : Below w1.heap.size w1 wv) => hz wv
  cases z
  · refine wp_region_quiet (C := fun w' => Below w1.heap.size w1 w') (by kernel_rfl) (by kernel_rfl) (Below.refl _ _).drew ?_
    simp only [List.toList_toArray]
    repeat (first
      | go_big_quiet_skip
      | (go_big_quiet_want
         refine quiet_of (v := ?_) (fun wv hwv => ?_) ?_
         rotate_left
         · skip
           go_simp
           first | done | ((with_reducible refine (K1 wv hwv).mono ?_); rintro _ _ ⟨rfl, hb⟩; (refine ⟨?_, hwv.trans (hb.mono hwv.size)⟩; rfl)) | rfl | exact ⟨rfl, rfl⟩
         (try simp only [Act.put, List.setIfInBounds_toArray, List.set_cons_zero, List.set_cons_succ])
         go_big_quiet_on))
    refine wpQuiet_nil ?_
    intro wz hwz
    go_wp2_with fail
    go_ret
    exact ⟨rfl, hb1.trans (hwz.mono hb1.size)⟩
  · refine wp_region_quiet (C := fun w' => Below w1.heap.size w1 w') (by kernel_rfl) (by kernel_rfl) (Below.refl _ _).drew ?_
    simp only [List.toList_toArray]
    repeat (first
      | go_big_quiet_skip
      | (go_big_quiet_want
         refine quiet_of (v := ?_) (fun wv hwv => ?_) ?_
         rotate_left
         · skip
           go_simp
           first | done | ((with_reducible refine (K1 wv hwv).mono ?_); rintro _ _ ⟨rfl, hb⟩; (refine ⟨?_, hwv.trans (hb.mono hwv.size)⟩; rfl)) | rfl | exact ⟨rfl, rfl⟩
         (try simp only [Act.put, List.setIfInBounds_toArray, List.set_cons_zero, List.set_cons_succ])
         go_big_quiet_on))
    refine wpQuiet_nil ?_
    intro wz hwz
    go_wp2_with fail
    go_ret
    exact ⟨rfl, hb1.trans (hwz.mono hb1.size)⟩
end TP
end Go.Proofs.YtfaabbimbjegmaaDoor
