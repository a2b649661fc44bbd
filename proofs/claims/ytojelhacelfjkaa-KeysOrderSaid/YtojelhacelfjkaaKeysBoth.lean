/-
  Layer 1: what both makes of a list, and what the document's Put answers.
-/
import Derived.Test.YtojelhacelfjkaaKeysGetF
import Derived.Test.YtojelhacelfjkaaPAx7
import Derived.Test.YtojelhacelfjkaaPAx9
set_option linter.unusedVariables false
namespace Go.Proofs.Ytojelhacelfjkaa.KB
open Go.RowKit Go.Proofs.Ytojelhacelfjkaa.PA Go.Proofs.Ytojelhacelfjkaa.BB Go.Proofs.YtojelhacelfjkaaW.PrintWords Go.Proofs.YtojelhacelfjkaaW.PrintLast Go.Proofs.YtojelhacelfjkaaW.PrintMore

def cut (v : S52) : PV := ⟨v.f0.data.toList.take 50, v.f1, v.f2⟩
/-- The first ten, each text cut behind 50 bytes. -/
def cuts (l : List S52) : List PV := (l.take 10).map cut
theorem cuts_length (l : List S52) : (cuts l).length ≤ 10 := by unfold cuts; rw [List.length_map, List.length_take]; omega

theorem rd52 (l : List S52) (i : Nat) (h : i < l.length) : rd_T52 l (i : Int) = l[i] := by
  unfold rd_T52
  rw [Int.toNat_natCast, List.getD_eq_getElem?_getD, List.getElem?_eq_getElem h]; rfl

theorem cut_str (s : ByteArray) : s.extract 0 (mn (s.size : Int) 50).toNat = B (s.data.toList.take 50) := by
  apply ext
  rw [extract_front, B_L]
  by_cases h : (50 : Int) < (s.size : Int)
  · have e : mn (s.size : Int) 50 = 50 := by unfold mn; exact if_pos h
    rw [e]; rfl
  · have e : mn (s.size : Int) 50 = (s.size : Int) := by unfold mn; exact if_neg h
    rw [e, Int.toNat_natCast, List.take_of_length_le (by rw [sizeL]; omega), List.take_of_length_le (by rw [sizeL]; omega)]

theorem mn_ok (s : ByteArray) : 0 ≤ mn (s.size : Int) 50 ∧ mn (s.size : Int) 50 ≤ (s.size : Int) := by
  unfold mn
  split <;> omega

theorem both_l0 (l : List S52) (d : Nat) : ∀ i, i + d = (l.take 10).length → Ev (fun k => concordancelaw01_both.l0 k l (((l.take i).map cut).map s36) (((l.take i).map cut).map s40) (i : Int)) ((cuts l).map s36, (cuts l).map s40) := by
  have h10 : (l.take 10).length = min 10 l.length := List.length_take
  induction d with
  | zero =>
    intro i hi
    have e : l.take i = l.take 10 := by
      by_cases h : l.length ≤ 10
      · rw [List.take_of_length_le (by omega), List.take_of_length_le h]
      · rw [show i = 10 by omega]
    refine ⟨1, fun k hk => ?_⟩
    obtain ⟨K, rfl⟩ : ∃ K, k = K + 1 := ⟨k - 1, by omega⟩
    show concordancelaw01_both.l0 (K + 1) l _ _ _ = _
    rw [concordancelaw01_both.l0, e]
    by_cases h : i < l.length
    · rw [if_pos (by omega), if_neg (by omega)]; rfl
    · rw [if_neg (by omega)]; rfl
  | succ d ih =>
    intro i hi
    have hlt : i < l.length := by omega
    have e := ih (i + 1) (by omega)
    have ht : l.take (i + 1) = l.take i ++ [l[i]] := by rw [List.take_succ_eq_append_getElem hlt]
    have hL : ((((l.take i).map cut).map s36).length) ≤ i := by rw [List.length_map, List.length_map, List.length_take]; omega
    have hM : ((((l.take i).map cut).map s40).length) ≤ i := by rw [List.length_map, List.length_map, List.length_take]; omega
    rw [ht] at e
    refine Ev.step (fun k => ?_) e
    have hm := mn_ok l[i].f0
    rw [concordancelaw01_both.l0, if_pos (by omega), if_pos (by omega), if_pos (by omega), rd52 l i hlt, if_pos hm.1, if_pos hm.2]
    simp only [Option.bind_some]
    rw [if_pos (by simp only [List.length_cons, List.length_nil]; omega), if_pos (by simp only [List.length_cons, List.length_nil]; omega), cut_str, wrap_succ (by omega)]
    simp only [List.map_append, List.map_cons, List.map_nil]
    rfl

theorem both_f (l : List S52) : Ev (fun k => concordancelaw01_both.f k l) ((cuts l).map s36, (cuts l).map s40) := by
  have h := both_l0 l (l.take 10).length 0 (by omega)
  rw [List.take_zero] at h
  exact h

theorem B_append (l m : List UInt8) : B l ++ B m = B (l ++ m) := by
  apply ext
  rw [dataAppend, B_L, B_L, B_L]

/-- What the document's One answers. -/
def oneR (v : PV) : ByteArray × Int := if okV v = 0 then (B (enc v), 0) else (B [], okV v)

theorem refOne_l0 (m : Nat) (hm : m < 9223372036854775808) (d : Nat) : ∀ i, i + d = 6 → Ev (fun k => concordanceref01_One.l0 k (B (be m i)) ((m / 256 ^ i : Nat) : Int) (i : Int)) (B (16 :: be m 6), 0) := by
  induction d with
  | zero =>
    intro i hi
    obtain rfl : i = 6 := by omega
    refine ⟨1, fun k hk => ?_⟩
    obtain ⟨K, rfl⟩ : ∃ K, k = K + 1 := ⟨k - 1, by omega⟩
    show concordanceref01_One.l0 (K + 1) _ _ _ = _
    rw [concordanceref01_One.l0, if_neg (by omega), if_pos (by rw [B_size, be_length]; omega)]
    have : (⟨#[16]⟩ : ByteArray) = B [16] := ext (by rw [B_L])
    rw [this, B_append]
    rfl
  | succ d ih =>
    intro i hi
    have e := ih (i + 1) (by omega)
    have hx : m / 256 ^ i < 9223372036854775808 := Nat.lt_of_le_of_lt (Nat.div_le_self _ _) hm
    have hn : m / 256 ^ (i + 1) = m / 256 ^ i / 256 := by rw [Nat.pow_succ, Nat.div_div_eq_div_mul]
    rw [be_cons, hn] at e
    refine Ev.step (fun k => ?_) e
    rw [concordanceref01_One.l0, if_pos (by omega)]
    generalize m / 256 ^ i = x at hx
    have t1 : Int.tmod (x : Int) 256 = ((x % 256 : Nat) : Int) := (Int.ofNat_tmod x 256).symm
    have t2 : Int.tdiv (x : Int) 256 = ((x / 256 : Nat) : Int) := (Int.ofNat_tdiv x 256).symm
    have t3 : ((x % 256 : Nat) : Int) % 256 = (((UInt8.ofNat (x % 256)).toNat : Nat) : Int) := by
      have h := Nat.mod_lt x (show 0 < 256 by decide)
      rw [UInt8.toNat_ofNat', Nat.mod_eq_of_lt (show x % 256 < 2 ^ 8 from h)]
      omega
    have t4 : wrap64 ((x / 256 : Nat) : Int) = ((x / 256 : Nat) : Int) := wrap_id (by omega)
    rw [t1, t2, t3, t4, wrap_succ (by omega)]
    simp only [Option.bind_some]
    have t5 : strOfNums [(((UInt8.ofNat (x % 256)).toNat : Nat) : Int)] = B [UInt8.ofNat (x % 256)] := rfl
    rw [t5, if_pos (by rw [B_size, B_size, be_length, List.length_singleton]; omega), B_append]
    rfl

theorem refOne_l1 (v : S40) (hv : v.f0.size < 1000) (d : Nat) : ∀ j, j + d = v.f0.size → Ev (fun k => concordanceref01_One.l1 k (B (esc (v.f0.data.toList.take j))) (j : Int) v.f0 v.f1 v.f2) (B (32 :: (esc v.f0.data.toList ++ [0, 1])), 0) := by
  have hl := esc_length v.f0.data.toList
  rw [sizeL] at hl
  induction d with
  | zero =>
    intro j hj
    obtain rfl : j = v.f0.size := by omega
    rw [List.take_of_length_le (by rw [sizeL]; omega)]
    refine ⟨1, fun k hk => ?_⟩
    obtain ⟨K, rfl⟩ : ∃ K, k = K + 1 := ⟨k - 1, by omega⟩
    show concordanceref01_One.l1 (K + 1) _ _ _ _ _ = _
    have e1 : (⟨#[32]⟩ : ByteArray) = B [32] := ext (by rw [B_L])
    have e2 : (⟨#[0, 1]⟩ : ByteArray) = B [0, 1] := ext (by rw [B_L])
    rw [concordanceref01_One.l1, if_neg (by omega), e1, e2, B_append, B_append, if_pos (by rw [B_size]; omega), if_pos (by rw [B_size, List.length_append, List.length_singleton]; omega)]
    rfl
  | succ d ih =>
    intro j hj
    have hlt : j < v.f0.size := by omega
    have e := ih (j + 1) (by omega)
    have hl := esc_length (v.f0.data.toList.take j)
    have hl2 : (v.f0.data.toList.take j).length ≤ j := List.length_take_le _ _
    rw [take_snoc v.f0 j hlt, esc_append] at e
    refine Ev.step (fun k => ?_) e
    have e3 : (v.f0.extract j (j + 1)).size = 1 := by rw [ByteArray.size_extract]; omega
    rw [concordanceref01_One.l1, if_pos (by omega), if_pos (by omega), wrap_succ (by omega), if_pos (by omega), if_pos (by omega), Int.toNat_natCast, Int.toNat_natCast, if_pos (by rw [B_size, e3]; omega), btL v.f0 j hlt, B_snoc _ _ _ hlt]
    by_cases h0 : v.f0[j] = 0
    · have h1 : ((v.f0[j].toNat : Nat) : Int) = 0 := by rw [h0]; rfl
      have h2 : esc [v.f0[j]] = [0, 255] := by rw [h0]; rfl
      have e4 : (⟨#[255]⟩ : ByteArray) = B [255] := ext (by rw [B_L])
      rw [if_pos h1, if_pos (by rw [B_size, List.length_append, List.length_singleton]; omega), e4, B_append, h2, h0, List.append_assoc]
      rfl
    · have h1 : ¬ ((v.f0[j].toNat : Nat) : Int) = 0 := by
        intro h
        apply h0
        apply UInt8.toNat_inj.mp
        show v.f0[j].toNat = 0
        omega
      have h2 : esc [v.f0[j]] = [v.f0[j]] := by simp only [esc, if_neg h0]
      rw [if_neg h1, h2]

theorem refOne_f (v : S40) : Ev (fun k => concordanceref01_One.f k v.f0 v.f1 v.f2) (oneR (p40 v)) := by
  have hs : (p40 v).t.length = v.f0.size := sizeL v.f0
  have hb : (p40 v).b = v.f2 := rfl
  have hn : (p40 v).n = v.f1 := rfl
  have ht : ((p40 v).t ≠ []) ↔ (v.f0.toList ≠ []) := by rw [Lib.toList_data]; rfl
  have hj : ∀ x, Ev (fun k => concordanceref01_One.j1 k x v.f0 v.f1 v.f2) (oneR (p40 v)) → Ev (fun k => concordanceref01_One.j1 k x v.f0 v.f1 v.f2) (oneR (p40 v)) := fun _ h => h
  have bad : okV (p40 v) = 1 → Ev (fun k => concordanceref01_One.j1 k true v.f0 v.f1 v.f2) (oneR (p40 v)) := by
    intro h
    refine ⟨1, fun k hk => ?_⟩
    obtain ⟨K, rfl⟩ : ∃ K, k = K + 1 := ⟨k - 1, by omega⟩
    show concordanceref01_One.j1 (K + 1) _ _ _ _ = _
    rw [concordanceref01_One.j1, if_pos rfl]
    unfold oneR
    rw [h, if_neg (by decide), B_nil]
  have good : okV (p40 v) = 0 → Ev (fun k => concordanceref01_One.j1 k false v.f0 v.f1 v.f2) (oneR (p40 v)) := by
    intro h
    obtain ⟨z1, z2, z3, z4⟩ := okV_zero h
    rw [hn] at z1 z2
    have er : oneR (p40 v) = (B (enc (p40 v)), 0) := by unfold oneR; rw [if_pos h]
    rw [er]
    cases hv : v.f2 with
    | true =>
      have q := refOne_l1 v (by have := (z3 (by rw [hb, hv])).1; omega) v.f0.size 0 (by omega)
      rw [List.take_zero, show esc [] = [] from rfl, B_nil] at q
      have ee : enc (p40 v) = 32 :: (esc v.f0.data.toList ++ [0, 1]) := by unfold enc; rw [hb, hv, if_pos rfl]; rfl
      rw [ee]
      rw [hv] at q
      refine Ev.step (fun k => ?_) q
      rw [concordanceref01_One.j1, if_neg (by decide), if_pos rfl]
      rfl
    | false =>
      obtain ⟨m, hm⟩ := Int.eq_ofNat_of_zero_le (show 0 ≤ v.f1 + 1099511627776 by omega)
      have q := refOne_l0 m (by omega) 6 0 (by omega)
      have ee : enc (p40 v) = 16 :: be m 6 := by
        unfold enc
        rw [hb, hv, if_neg (by decide), hn, hm]; rfl
      rw [ee]
      refine Ev.step (fun k => ?_) q
      have w : wrap64 (v.f1 + 1099511627776) = (m : Int) := by rw [hm]; unfold wrap64; omega
      rw [concordanceref01_One.j1, if_neg (by decide), if_neg (by decide), w]
      simp only [Nat.pow_zero, Nat.div_one]
      have : B (be m 0) = (⟨#[]⟩ : ByteArray) := by rw [show be m 0 = [] from rfl, B_nil]
      rw [this]
      rfl
  have j0f : ¬ ((p40 v).b = true ∧ 20 < (p40 v).t.length) → Ev (fun k => concordanceref01_One.j0 k false v.f0 v.f1 v.f2) (oneR (p40 v)) := by
    intro h20
    by_cases hbad : ((p40 v).b = true ∧ (p40 v).n ≠ 0) ∨ ((p40 v).b = false ∧ (p40 v).t ≠ []) ∨ (p40 v).n < -1099511627776 ∨ 1099511627776 < (p40 v).n
    · have h1 : okV (p40 v) = 1 := by unfold okV; rw [if_neg h20, if_pos hbad]
      refine Ev.step (fun k => ?_) (bad h1)
      rw [concordanceref01_One.j0, if_neg (by decide)]
      rw [hb, hn, ht] at hbad
      cases hv : v.f2 with
      | true =>
        rw [hv] at hbad
        rw [if_pos rfl]
        by_cases c1 : v.f1 = 0
        · exfalso; rcases hbad with h | h | h | h
          · exact h.2 c1
          · exact absurd h.1 (by decide)
          · omega
          · omega
        · rw [if_neg c1]
      | false =>
        rw [hv] at hbad
        rw [if_neg (by decide)]
        by_cases c1 : v.f0.toList = []
        · rw [if_pos c1]
          by_cases c2 : v.f1 < -1099511627776
          · rw [if_pos c2]
          · rw [if_neg c2, decide_eq_true]
            rcases hbad with h | h | h | h
            · exact absurd h.1 (by decide)
            · exact absurd c1 h.2
            · omega
            · omega
        · rw [if_neg c1]
    · have h0 : okV (p40 v) = 0 := by unfold okV; rw [if_neg h20, if_neg hbad]
      refine Ev.step (fun k => ?_) (good h0)
      rw [concordanceref01_One.j0, if_neg (by decide)]
      rw [hb, hn, ht] at hbad
      have c2 : ¬ v.f1 < -1099511627776 := fun h => hbad (.inr (.inr (.inl h)))
      have c3 : ¬ v.f1 > 1099511627776 := fun h => hbad (.inr (.inr (.inr h)))
      cases hv : v.f2 with
      | true =>
        rw [hv] at hbad
        have c1 : v.f1 = 0 := Decidable.byContradiction fun h => hbad (.inl ⟨rfl, h⟩)
        rw [if_pos rfl, if_pos c1, if_neg c2, decide_eq_false c3]
      | false =>
        rw [hv] at hbad
        have c1 : v.f0.toList = [] := Decidable.byContradiction fun h => hbad (.inr (.inl ⟨rfl, h⟩))
        rw [if_neg (by decide), if_pos c1, if_neg c2, decide_eq_false c3]
  unfold concordanceref01_One.f
  cases hv : v.f2 with
  | true =>
    simp only [if_true]
    rw [hv] at j0f
    by_cases h20 : (v.f0.size : Int) > 20
    · rw [decide_eq_true h20]
      refine ⟨1, fun k hk => ?_⟩
      obtain ⟨K, rfl⟩ : ∃ K, k = K + 1 := ⟨k - 1, by omega⟩
      show concordanceref01_One.j0 (K + 1) _ _ _ _ = _
      rw [concordanceref01_One.j0, if_pos rfl]
      have h6 : okV (p40 v) = 6 := by unfold okV; rw [if_pos ⟨by rw [hb, hv], by omega⟩]
      unfold oneR
      rw [h6, if_neg (by decide), B_nil]
    · rw [decide_eq_false h20]
      exact j0f (fun h => by omega)
  | false =>
    simp only [Bool.false_eq_true, if_false]
    rw [hv] at j0f
    exact j0f (fun h => by rw [hb, hv] at h; exact absurd h.1 (by decide))

theorem refPut_l0 (l : List S40) (hl : l.length < 1000000) (d : Nat) : ∀ i acc, i + d = l.length → acc.length ≤ 43 * i →
    Ev (fun k => concordanceref01_Put.l0 k l (B acc) (i : Int)) (if (putP ((l.drop i).map p40)).2 = 0 then (B (acc ++ (putP ((l.drop i).map p40)).1), 0) else (B [], (putP ((l.drop i).map p40)).2)) := by
  induction d with
  | zero =>
    intro i acc hi ha
    rw [List.drop_of_length_le (by omega)]
    refine ⟨1, fun k hk => ?_⟩
    obtain ⟨K, rfl⟩ : ∃ K, k = K + 1 := ⟨k - 1, by omega⟩
    show concordanceref01_Put.l0 (K + 1) _ _ _ = _
    rw [concordanceref01_Put.l0, if_neg (by omega)]
    simp only [List.map_nil, putP, List.append_nil, if_true]
  | succ d ih =>
    intro i acc hi ha
    have hlt : i < l.length := by omega
    have hd : l.drop i = l[i] :: l.drop (i + 1) := List.drop_eq_getElem_cons hlt
    rw [hd, List.map_cons]
    have h1 := refOne_f l[i]
    by_cases hok : okV (p40 l[i]) = 0
    · have hlen := enc_length hok
      have e := ih (i + 1) (acc ++ enc (p40 l[i])) (by omega) (by rw [List.length_append]; omega)
      have hres : (if (putP (p40 l[i] :: (l.drop (i + 1)).map p40)).2 = 0 then (B (acc ++ (putP (p40 l[i] :: (l.drop (i + 1)).map p40)).1), (0 : Int)) else (B [], (putP (p40 l[i] :: (l.drop (i + 1)).map p40)).2)) =
          (if (putP ((l.drop (i + 1)).map p40)).2 = 0 then (B (acc ++ enc (p40 l[i]) ++ (putP ((l.drop (i + 1)).map p40)).1), 0) else (B [], (putP ((l.drop (i + 1)).map p40)).2)) := by
        generalize (l.drop (i + 1)).map p40 = Q at *
        by_cases h : (putP Q).2 = 0
        · simp [putP, hok, h, List.append_assoc]
        · simp [putP, hok, h]
      rw [hres]
      have er : oneR (p40 l[i]) = (B (enc (p40 l[i])), 0) := by unfold oneR; rw [if_pos hok]
      rw [er] at h1
      refine Ev.step (fun k => ?_) (Ev.bind h1 (f := fun k bt212 => if bt212.2 = 0 then (if (B acc).size + bt212.1.size ≤ 9223372036854775807 then (concordanceref01_Put.l0 k l (B acc ++ bt212.1) (wrap64 ((i : Int) + 1))) else (none)) else (some ((⟨#[]⟩ : ByteArray), bt212.2))) ?_)
      · rw [concordanceref01_Put.l0, if_pos (by omega), if_pos (by omega), rd40 l i hlt]
      · simp only [if_true]
        have hsz : (B acc).size + (B (enc (p40 l[i]))).size ≤ 9223372036854775807 := by rw [B_size, B_size]; omega
        have hw : wrap64 ((i : Int) + 1) = ((i + 1 : Nat) : Int) := wrap_succ (by omega)
        simp only [if_pos hsz, B_append, hw]
        exact e
    · have er : oneR (p40 l[i]) = (B [], okV (p40 l[i])) := by unfold oneR; rw [if_neg hok]
      rw [er] at h1
      have hpp : putP (p40 l[i] :: (l.drop (i + 1)).map p40) = ([], okV (p40 l[i])) := by simp only [putP]; rw [if_neg hok]
      simp only [hpp, if_neg hok]
      refine Ev.step (fun k => ?_) (Ev.bind h1 (f := fun k bt212 => if bt212.2 = 0 then (if (B acc).size + bt212.1.size ≤ 9223372036854775807 then (concordanceref01_Put.l0 k l (B acc ++ bt212.1) (wrap64 ((i : Int) + 1))) else (none)) else (some ((⟨#[]⟩ : ByteArray), bt212.2))) ?_)
      · rw [concordanceref01_Put.l0, if_pos (by omega), if_pos (by omega), rd40 l i hlt]
      · simp only [if_neg hok, B_nil]
        exact Ev.now _

theorem refPut_f (l : List S40) (hl : l.length < 1000000) : Ev (fun k => concordanceref01_Put.f k l) (putR (l.map p40)) := by
  have h := refPut_l0 l hl l.length 0 [] (by omega) (by simp)
  rw [List.drop_zero, B_nil] at h
  have e : (if (putP (l.map p40)).2 = 0 then (B ([] ++ (putP (l.map p40)).1), (0 : Int)) else (⟨#[]⟩, (putP (l.map p40)).2)) = putR (l.map p40) := by
    unfold putR
    by_cases h : (putP (l.map p40)).2 = 0
    · rw [if_pos h, h]; rfl
    · rw [if_neg h, putP_fail h, B_nil]
  rw [e] at h
  exact h

/-! What is put is put apart, and joined. -/

theorem back36 (vs : List PV) : (vs.map s36).map p36 = vs := by
  rw [List.map_map]
  conv => rhs; rw [← List.map_id vs]
  exact List.map_congr_left fun v _ => p36_s36 v
theorem back40 (vs : List PV) : (vs.map s40).map p40 = vs := by
  rw [List.map_map]
  conv => rhs; rw [← List.map_id vs]
  exact List.map_congr_left fun v _ => p40_s40 v

/-- What Put answers of a list that both made. -/
theorem put_both (l : List S52) : Ev (fun k => keys_Put.f k ((cuts l).map s36)) (putR (cuts l)) := by
  have h := put_f ((cuts l).map s36) (by rw [List.length_map]; have := cuts_length l; omega)
  rwa [back36] at h
theorem refPut_both (l : List S52) : Ev (fun k => concordanceref01_Put.f k ((cuts l).map s40)) (putR (cuts l)) := by
  have h := refPut_f ((cuts l).map s40) (by rw [List.length_map]; have := cuts_length l; omega)
  rwa [back40] at h

theorem putP_length (vs : List PV) : (putP vs).1.length ≤ 43 * vs.length := by
  induction vs with
  | nil => simp [putP]
  | cons v vs ih =>
    simp only [putP]
    by_cases h : okV v = 0
    · rw [if_pos h]
      have := enc_length h
      by_cases h2 : (putP vs).2 = 0
      · rw [if_pos h2]
        simp only [List.length_append, List.length_cons]
        omega
      · rw [if_neg h2]; simp
    · rw [if_neg h]; simp

theorem putP_inj {vs ws : List PV} (h1 : (putP vs).2 = 0) (h2 : (putP ws).2 = 0) (h : (putP vs).1 = (putP ws).1) : vs = ws := by
  have e1 := get_put vs ((putP vs).1.length + 1) (Nat.lt_succ_self _) h1
  have e2 := get_put ws ((putP vs).1.length + 1) (by rw [h]; exact Nat.lt_succ_self _) h2
  rw [← h, e1] at e2
  exact (Prod.mk.inj e2).1

theorem putP_append (vs ws : List PV) : putP (vs ++ ws) = if (putP vs).2 = 0 then (if (putP ws).2 = 0 then ((putP vs).1 ++ (putP ws).1, 0) else ([], (putP ws).2)) else ([], (putP vs).2) := by
  induction vs with
  | nil =>
    simp only [List.nil_append, putP, if_true]
    by_cases h : (putP ws).2 = 0
    · rw [if_pos h, ← h]
    · rw [if_neg h, ← putP_fail h]
  | cons v vs ih =>
    simp only [List.cons_append, putP, ih]
    by_cases h : okV v = 0
    · by_cases h1 : (putP vs).2 = 0
      · by_cases h2 : (putP ws).2 = 0
        · simp [h, h1, h2]
        · simp [h, h1, h2]
      · simp [h, h1]
    · simp [h]
end Go.Proofs.Ytojelhacelfjkaa.KB
