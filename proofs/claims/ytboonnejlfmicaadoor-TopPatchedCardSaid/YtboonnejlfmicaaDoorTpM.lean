/-
  The law's own maker of pages.
-/
import Derived.Test.YtboonnejlfmicaaDoorTpE
import Derived.Test.YtboonnejlfmicaaDoorTy
import Derived.ArgAppend
import Derived.StillTailTactics
set_option linter.unusedVariables false
set_option linter.unusedSimpArgs false
namespace Go.Proofs.YtboonnejlfmicaaDoor
open Go Go.RowKit Go.Proofs.YtboonnejlfmicaaDoor.PA Go.Proofs.YtboonnejlfmicaaDoor.SB Go.Proofs.YtboonnejlfmicaaDoorW.PrintWords
namespace TP
def cutN (n m : Nat) : Nat := min n m
theorem cutN_le (n m : Nat) : cutN n m ≤ n := Nat.min_le_left n m
theorem cutN_le' (n m : Nat) : cutN n m ≤ m := Nat.min_le_right n m
theorem min_nat (ats : Array TypeId) (ty : TypeId) (k k' : IntKind) (n m : Nat) : Builtin.min_ ats ty #[.int k (n : Int), .int k' (m : Int)] = pure (.int k ((cutN n m : Nat) : Int)) := by
  have : ((cutN n m : Nat) : Int) = if (m : Int) < (n : Int) then (m : Int) else (n : Int) := by
    unfold cutN
    split <;> omega
  rw [this]
  simp only [Builtin.min_, List.foldlM_cons, List.foldlM_nil, Builtin.min2]
  rfl
theorem min_20 (ats : Array TypeId) (ty : TypeId) (k k' : IntKind) (n : Nat) : Builtin.min_ ats ty #[.int k (n : Int), .int k' 20] = pure (.int k ((cutN n 20 : Nat) : Int)) := min_nat ats ty k k' n 20
attribute [local go_sem] min_20
theorem mask_bounds (x m : Int) (h0 : 0 ≤ m) (h1 : m < 9223372036854775808) : 0 ≤ Go.bits .and .i64 x m ∧ Go.bits .and .i64 x m ≤ m := by
  unfold Go.bits
  simp only
  have hm : (BitVec.ofInt 64 m).toNat = m.toNat := by
    rw [BitVec.toNat_ofInt]
    omega
  have hle : (BitVec.ofInt 64 x &&& BitVec.ofInt 64 m).toNat ≤ m.toNat := by
    rw [BitVec.toNat_and, hm]
    exact Nat.and_le_right
  show 0 ≤ IntKind.i64.wrap ((BitVec.ofInt 64 x &&& BitVec.ofInt 64 m).toNat : Nat) ∧ IntKind.i64.wrap ((BitVec.ofInt 64 x &&& BitVec.ofInt 64 m).toNat : Nat) ≤ m
  generalize (BitVec.ofInt 64 x &&& BitVec.ofInt 64 m).toNat = r at *
  rw [IntKind.wrap_i64]
  omega
theorem ty_callx {P : Program} {ops : Array Oper} {w0 : World} {fin : Act → World → Prop} {o : Oper} {rest : List Oper} {A : (Nat → Value) → Act} {G : List Ty.T} (x : Value) (hg : ∀ vs, Region.wanted o (yielded ops (A vs).tmps) = true)
    (h : ∀ vs w, Below w0.heap.size w0 w → Ty.tyAt P o (A vs) w fun v w' => Below w.heap.size w w' ∧ v = x)
    (k : Ty.walk P ops w0 fin rest (fun vs => (A vs).put o.dst x) (G ++ [Ty.kn x])) : Ty.walk P ops w0 fin (o :: rest) A G :=
  Ty.exact_ x (fun vs w hb hd => by
    rw [if_pos (hg vs)]
    have := h vs w hb
    unfold Ty.tyAt at this ⊢
    generalize (execOp (A vs).eval o).run P w = r at *
    cases r with
    | ok n w' =>
      cases n <;> simp only [Ty.tyUpon] at this ⊢
      case value u => exact ⟨this.1, this.2, fun h => by cases h⟩
      case skip => exact ⟨this.1, this.2, fun h => by cases h⟩
      case enter f args =>
        refine this.mono ?_
        rintro e w'' ⟨v, he, h1, h2⟩
        exact ⟨v, he, h1, h2, fun h => by cases h⟩
    | halt x w' => simp only [Ty.tyUpon] at this) k
abbrev V := S46
def mN (v : V) : Nat := (Go.bits .and .i64 v.f1 255).toNat
theorem mN_eq (v : V) : Go.bits .and .i64 v.f1 255 = ((mN v : Nat) : Int) ∧ mN v < 256 := by
  have := mask_bounds v.f1 255 (by decide) (by decide)
  unfold mN
  omega
def mkE (v : V) : E := ⟨v.f0.extract 0 (cutN v.f0.size 20), nb (mN v) 1, v.f2⟩
theorem mkE_small (v : V) : (mkE v).f0.size ≤ 20 ∧ (mkE v).f1.size = 1 := by
  unfold mkE
  refine ⟨?_, nb_size _ _⟩
  show (v.f0.extract 0 (cutN v.f0.size 20)).size ≤ 20
  rw [ByteArray.size_extract]
  have := cutN_le' v.f0.size 20
  omega
def pageL (l : List V) : List E := (l.take 8).map mkE
theorem map_small (l : List V) (h : l.length ≤ 1000) : Small (l.map mkE) := by
  refine ⟨by simpa using h, fun e he => ?_⟩
  obtain ⟨v, _, rfl⟩ := List.mem_map.1 he
  have := mkE_small v
  omega
theorem sizes_map : ∀ l : List V, sizes (l.map mkE) ≤ 24 * l.length
  | [] => by simp [sizes]
  | v :: l => by
    have h1 := mkE_small v
    have h2 := sizes_map l
    simp only [List.map_cons, sizes, esz, List.length_cons]
    omega
theorem rdV {l : List V} {i : Nat} {e : V} (h : l[i]? = some e) : rd_T46 l (i : Int) = e := by
  simp [rd_T46, List.getD_eq_getElem?_getD, h]
theorem infoE : (Tryd.prog.info? 31).map (fun i => (i.zero, i.size, i.bytes)) = some (some (.agg #[(.string ⟨#[]⟩), (.string ⟨#[]⟩), (.bool false)]), 3, 40) := by kernel_rfl
theorem KE_M {w : World} (w' : World) (base : Nat) (ok : Nat → Prop) {x : E} {cs : List Value} (h : k31.K w x cs) : k31.M w' base ok x cs := by
  rw [k31_open h]
  exact k31_mkM _ _ _ _
/-- Entries in a row of the call's own. -/
def OwE (w : World) (base : Nat) (s : Value) (l : List E) : Prop := Kd.R k31 31 w base (fun _ => True) s l
theorem OwE.rd {w : World} {base : Nat} {s : Value} {l : List E} (h : OwE w base s l) : RdE w s l := R_cap h
theorem own_set1 {w : World} {base b : Nat} {s : Value} {l : List E} {cs : Array Value} (h : OwE w base s l) (hb : Bx w b cs 26) (i : Nat) (u : Value) : OwE (w.setCell ⟨b, i, none⟩ u) base s l := Kd.R_set h hb (by decide) i u
/-- Values that are read. -/
def RdV (w : World) (s : Value) (l : List V) : Prop := ∃ A c, s = .slice A l.length c ∧ Kd.C k46 w A l.length l
theorem RdV.below {w w' : World} {s : Value} {l : List V} (h : RdV w s l) (hb : Below w.heap.size w w') : RdV w' s l := by
  obtain ⟨A, c, h1, h3⟩ := h
  exact ⟨A, c, h1, Kd.C_below h3 hb⟩
theorem page_take {l : List V} {i : Nat} (h : i = cutN l.length 8) : (l.take i).map mkE = pageL l := by
  subst h
  unfold pageL cutN
  rw [Nat.min_comm, ← List.take_take, List.take_length]
def MkR (w w1 : World) (n : Nat) (l : List V) (v : Value) (wr : World) : Prop :=
  ∃ (i : Nat) (s : Value), i ≤ cutN l.length 8 ∧ v = .int .i64 i ∧ Bx wr w.heap.size #[.int .i64 n, .int .i64 3, .int .i64 0, .int .i64 0, .string ⟨#[]⟩, s] 26 ∧ OwE wr w1.heap.size s ((l.take i).map mkE) ∧ Below w.heap.size w wr ∧ w1.heap.size ≤ wr.heap.size
set_option maxHeartbeats 8000000 in
set_option maxRecDepth 100000 in
theorem made_c {w : World} {s : Value} {l : List V} (n : Nat) (hn : n < 281474976710656) (hm : l.length ≤ 9223372036854775807) (hr : RdV w s l) (hL : LaidT w) :
    Calls Tryd.prog 5 #[s, .int .i64 n] w fun e w' => e = .returned (.string (sealB n (bodyB 3 (pageL l)))) ∧ Below w.heap.size w w' := by
  have HLd := Lib.hid hL
  clear hL
  obtain ⟨A, c, rfl, hC⟩ := hr
  go_enter Tryd.func5, Tryd.ntmps5
  go_wp2_with fail
  have X1 := bx_new w #[.int .i64 n, .int .i64 3, .int .i64 0, .int .i64 0, .string ⟨#[]⟩, .slice none 0 0] 26
  have B1 : Below w.heap.size w (w.alloc (.cells #[.int .i64 n, .int .i64 3, .int .i64 0, .int .i64 0, .string ⟨#[]⟩, .slice none 0 0] 26)) := (Below.refl _ _).alloc (Nat.le_refl _) _
  generalize World.alloc w _ = w1 at X1 B1 ⊢
  have hw1 : w.heap.size < w1.heap.size := X1.lt
  go_loopw [6] (fun v wr => MkR w w1 n l v wr) (fun v _ => cutN l.length 8 - (intOf v).toNat)
  case atStart => exact ⟨0, _, Nat.zero_le _, rfl, X1, Kd.R_nil _ _ _ _ _, B1, Nat.le_refl _⟩
  case round =>
    clear X1 B1
    obtain ⟨i, sv, hi, rfl, Xr, hO, hB, hws⟩ := hrel
    obtain ⟨M, hM⟩ : ∃ M, M = (l.take i).map mkE := ⟨_, rfl⟩
    rw [← hM] at hO
    have HM := Lib.hid hM
    clear hM
    have hc8 := cutN_le' l.length 8
    have hcl := cutN_le l.length 8
    by_cases hlt : i < l.length
    · have hlt' : (i : Int) < (l.length : Int) := by omega
      have hi0 : (0 : Int) ≤ (i : Int) := by omega
      by_cases h8 : i < 8
      · have h8' : (i : Int) < 8 := by omega
        obtain ⟨e, he⟩ : ∃ y, l[i]? = some y := ⟨l[i], by simp [hlt]⟩
        obtain ⟨ad, hA, a0, a1, a2⟩ := at_T46 (Kd.C_below hC hB) (i : Int) hi0 hlt'
        rw [rdV he, Int.toNat_natCast] at a0 a1 a2
        subst hA
        have HE := Lib.hid he
        have hck : ((cutN e.f0.size 20 : Nat) : Int) ≤ (e.f0.size : Int) := by have := cutN_le e.f0.size 20; omega
        have hck0 : (0 : Int) ≤ ((cutN e.f0.size 20 : Nat) : Int) := by omega
        have hmN := (mN_eq e).1
        have hm256 := (mN_eq e).2
        obtain ⟨Aa, ca, rfl, hca, hcm, _⟩ := hO.rd
        have HO := Lib.hid hO
        have HB := Lib.hid hB
        have hxl : w.heap.size < wr.heap.size := Xr.lt
        clear he hO hB
        go_upto_region 5 with (fail)
        refine Ty.wp_region_ty 29 (by kernel_rfl) (by kernel_rfl) ?_
        simp only [List.take_succ_cons, List.take_zero, List.drop_succ_cons, List.drop_zero]
        iterate 21 (
          refine Ty.pure_ ?_ (fun _ => by rfl) (fun vs wv hb => ?_) ?_
          rotate_left
          · have hb : Below wr.heap.size wr wv := (Below.refl wr.heap.size wr).drew.trans hb
            obtain ⟨p0, p1, p2, p3, p4, p5⟩ := (Xr.below hb Xr.lt).six
            have a0 := old hb a0
            have a1 := old hb a1
            have a2 := old hb a2
            go_simp
            first | done | rfl
          simp only [Act.put, List.setIfInBounds_toArray, List.set_cons_zero, List.set_cons_succ, List.nil_append, List.cons_append, List.length_nil, List.length_cons, Nat.zero_add]
          )
        refine ty_callx (.string (nb (mN e) 1)) (fun _ => by rfl) (fun vs wv hb => ?_) ?_
        · unfold Ty.tyAt
          go_simp
          refine (put1_c (mN e) wv hm256).mono ?_
          rintro _ w' ⟨rfl, hb'⟩
          exact ⟨_, rfl, hb', rfl⟩
        simp only [Act.put, List.setIfInBounds_toArray, List.set_cons_zero, List.set_cons_succ, List.nil_append, List.cons_append, List.length_nil, List.length_cons, Nat.zero_add]
        iterate 6 (
          refine Ty.pure_ ?_ (fun _ => by rfl) (fun vs wv hb => ?_) ?_
          rotate_left
          · have hb : Below wr.heap.size wr wv := (Below.refl wr.heap.size wr).drew.trans hb
            obtain ⟨p0, p1, p2, p3, p4, p5⟩ := (Xr.below hb Xr.lt).six
            have a0 := old hb a0
            have a1 := old hb a1
            have a2 := old hb a2
            go_simp
            first | done | rfl
          simp only [Act.put, List.setIfInBounds_toArray, List.set_cons_zero, List.set_cons_succ, List.nil_append, List.cons_append, List.length_nil, List.length_cons, Nat.zero_add]
          )
        refine Ty.call_ (fun v w' => ∃ b, v = .slice (some ⟨b, 0, none⟩) 1 1 ∧ wr.heap.size ≤ b ∧ Bx w' b #[.string (e.f0.extract 0 (cutN e.f0.size 20)), .string (nb (mN e) 1), .bool e.f2] 31) (fun v w w' hb ⟨b, h1, h2, h3⟩ => ⟨b, h1, h2, h3.below hb h3.lt⟩) (fun _ => by rfl) (fun vs wv hb hd => ?_) ?_
        · unfold Ty.tyAt
          go_simp
          exact ⟨(Below.refl _ _).alloc (Nat.le_refl _) _, wv.heap.size, rfl, hb.size, bx_new _ _ _⟩
        simp only [Act.put, List.setIfInBounds_toArray, List.set_cons_zero, List.set_cons_succ, List.nil_append, List.cons_append, List.length_nil, List.length_cons, Nat.zero_add]
        intro vs wz hbz hG hAp
        clear hAp
        obtain ⟨bn, e7, l7, x7⟩ := hG 28 _ rfl
        clear hG
        simp only [e7]
        clear e7 vs
        have hbz : Below wr.heap.size wr wz := (Below.refl wr.heap.size wr).drew.trans hbz
        have Xkz := Xr.below hbz hxl
        obtain ⟨q0', q1', q2', q3', q4', q5'⟩ := Xkz.six
        obtain ⟨g0, g1, g2', g3, g4, g5⟩ := Xkz.six_free
        have HOz := Lib.hid (Kd.R_below HO.out hbz)
        have HRn : Hid (Kd.C k31 wz (some ⟨bn, 0, none⟩) 1 [mkE e]) := ⟨rfl, by decide, fun _ => ⟨_, rfl, fun j p hj => by
          obtain rfl : j = 0 := by
            rcases Nat.eq_zero_or_pos j with h | h
            · exact h
            · rw [List.getElem?_eq_none (by simp; omega)] at hj; cases hj
          obtain rfl : mkE e = p := by injection hj
          exact ⟨[.string (e.f0.extract 0 (cutN e.f0.size 20)), .string (nb (mN e) 1), .bool e.f2], rfl, k31_mk wz (mkE e), fun i u hu => by
            have h1 := x7.cell i
            have h2 : Addr.add ⟨bn, 0, none⟩ (0 * k31.sz + i) = ⟨bn, i, none⟩ := by rw [Addr.add_lit]; simp
            rw [h2, h1]
            simpa using hu⟩⟩⟩
        obtain ⟨M2, hM2⟩ : ∃ M2, M2 = (l.take (i + 1)).map mkE := ⟨_, rfl⟩
        have HM2 := Lib.hid hM2
        have HTK : Hid (M ++ [mkE e] = M2) := by
          unfold Hid
          rw [HM.out, hM2]
          obtain ⟨hl, he⟩ := List.getElem?_eq_some_iff.1 HE.out
          rw [List.take_succ_eq_append_getElem hl, he, List.map_append]
          rfl
        clear hM2
        have HLZ : Hid (w1.heap.size ≤ wz.heap.size) := Nat.le_trans hws hbz.size
        have HLK : Hid ((M.length + 1) * 40 ≤ 140737488355328) := by unfold Hid; rw [HM.out, List.length_map, List.length_take]; omega
        go_wp2_with (first | (at_builtin; refine Kd.R_append_rows k31 (w0 := wz) (W := wz) w1.heap.size rfl (.tmp 22) (.tmp 49) 24 31 _ 40 rfl Tryd.underlying24 infoE rfl (by decide) (by omega) (.slice Aa M.length ca) _ [mkE e] (some ⟨bn, 0, none⟩) 1 _ (fun _ => True) (fun _ => False) rfl rfl HOz.out HRn.out (fun x cs h => KE_M _ _ _ h) (fun _ h => h.elim) (fun _ _ => trivial) (Below.refl _ _) HLZ.out HLK.out ?_; intro v4 w4 hO4 hb4 hg4 ha4; clear hg4 ha4; rw [HTK.out] at hO4; have X4 := Xkz.below hb4 hw1; obtain ⟨r0, r1, r2, r3, r4, r5⟩ := X4.six; obtain ⟨k0, k1, k2, k3, k4, k5⟩ := X4.six_free; obtain ⟨A4, c4, rfl, _⟩ := OwE.rd hO4) | fail)
        have hb5 : Below w.heap.size w w4 := (HB.out.trans (hbz.mono HB.out.size)).trans (hb4.mono (Nat.le_of_lt hw1))
        have hs4 : w1.heap.size ≤ w4.heap.size := Nat.le_trans HLZ.out hb4.size
        go_roundw
        case rel => exact ⟨i + 1, _, by unfold cutN; omega, by go_num, X4.set 5 _, (by rw [← HM2.out]; exact own_set1 hO4 X4 5 _), hb5.setCell (Nat.le_refl _) _, by simpa using hs4⟩
        case measure => simp only [intOf]; unfold cutN; omega
      · have h8' : ¬ (i : Int) < 8 := by omega
        have hi8 : i = cutN l.length 8 := by unfold cutN; omega
        have hML : M = pageL l := HM.out.trans (page_take hi8)
        have HML := Lib.hid hML
        clear hML hi8 HM
        obtain ⟨Aa, ca, rfl, hca, hcm, _⟩ := hO.rd
        have HO := Lib.hid hO
        have hmsz := sizes_map (l.take 8)
        have hmsm := map_small (l.take 8) (by rw [List.length_take]; omega)
        have hml8 : (l.take 8).length ≤ 8 := by rw [List.length_take]; omega
        obtain ⟨p0, p1, p2, p3, p4, p5⟩ := Xr.six
        go_wp2_with fail
        refine (encode_c (l := M) n 3 hn (by decide) (by rw [HML.out]; exact hmsm) (by rw [HML.out]; exact Nat.le_trans hmsz (by omega)) (HO.out.rd) (laid_below HLd.out hB)).mono ?_
        rintro _ w6 ⟨rfl, hb6⟩
        clear p0 p1 p2 p3 p4 p5
        go_wp2_with fail
        go_ret
        exact ⟨by show Ending.returned (.string (sealB n (bodyB 3 M))) = _; rw [HML.out], hB.trans (hb6.mono hB.size)⟩
    · have hlt' : ¬ (i : Int) < (l.length : Int) := by omega
      have hi8 : i = cutN l.length 8 := by unfold cutN; omega
      have hML : M = pageL l := HM.out.trans (page_take hi8)
      have HML := Lib.hid hML
      clear hML hi8 HM
      obtain ⟨Aa, ca, rfl, hca, hcm, _⟩ := hO.rd
      have HO := Lib.hid hO
      have hmsz := sizes_map (l.take 8)
      have hmsm := map_small (l.take 8) (by rw [List.length_take]; omega)
      have hml8 : (l.take 8).length ≤ 8 := by rw [List.length_take]; omega
      obtain ⟨p0, p1, p2, p3, p4, p5⟩ := Xr.six
      go_wp2_with fail
      refine (encode_c (l := M) n 3 hn (by decide) (by rw [HML.out]; exact hmsm) (by rw [HML.out]; exact Nat.le_trans hmsz (by omega)) (HO.out.rd) (laid_below HLd.out hB)).mono ?_
      rintro _ w6 ⟨rfl, hb6⟩
      clear p0 p1 p2 p3 p4 p5
      go_wp2_with fail
      go_ret
      exact ⟨by show Ending.returned (.string (sealB n (bodyB 3 M))) = _; rw [HML.out], hB.trans (hb6.mono hB.size)⟩
end TP
end Go.Proofs.YtboonnejlfmicaaDoor
