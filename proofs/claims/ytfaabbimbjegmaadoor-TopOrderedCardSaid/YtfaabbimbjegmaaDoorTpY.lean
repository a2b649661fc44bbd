/-
  A page's body.
-/
import Derived.Test.YtfaabbimbjegmaaDoorTpE
set_option linter.unusedVariables false
namespace Go.Proofs.YtfaabbimbjegmaaDoor
open Go Go.RowKit Go.Proofs.YtfaabbimbjegmaaDoor.PA Go.Proofs.YtfaabbimbjegmaaDoor.SB Go.Proofs.YtfaabbimbjegmaaDoorW.PrintWords
namespace TP
theorem midB {t : ByteArray} {A M B : List UInt8} (h : t.data.toList = A ++ M ++ B) {s e : Nat} (hs : s = A.length) (he : e = A.length + M.length) : (t.extract s e).data.toList = M := by
  rw [Lib.extract_data, h, hs, he, List.append_assoc, List.drop_left, Nat.add_sub_cancel_left, List.take_left]
theorem body_c (n : Nat) (b : List UInt8) (hb : b.length = 496) (w : World) : Calls Tryd.prog 32 #[.string (sealB n b)] w fun e w' => e = .returned (.string ⟨b.toArray⟩) ∧ Below w.heap.size w w' := by
  have hsz := sealB_size n b hb
  have e : (sealB n b).extract 6 502 = (⟨b.toArray⟩ : ByteArray) := SB.ext (by
    have := midB (t := sealB n b) (A := be n 6) (M := b) (B := be n 6 ++ markL (rawB n b)) (by rw [sealB_list, rawB]; simp) (s := 6) (e := 502) (by rw [be_length]) (by rw [be_length, hb])
    rw [this])
  refine (page_Body.calls (sealB n b) ⟨b.toArray⟩ w ?_).mono fun e w' ⟨h1, h2⟩ => ⟨h1, h2.below⟩
  unfold page_Body.f
  rw [if_pos (by rw [hsz]; rfl), if_pos (by decide), if_pos (by rw [hsz]; decide), e]
end TP
end Go.Proofs.YtfaabbimbjegmaaDoor
