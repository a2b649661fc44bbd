/-
  What the printed functions of pieces compute: Diff, right, Get; a text that is patched by its pieces is the other one.
-/
import Derived.Test.YtboonnejlfmicaaDoorTpC
import Derived.Test.YtboonnejlfmicaaDoorPAx5
set_option linter.unusedVariables false
set_option linter.unusedSimpArgs false
namespace Go.Proofs.YtboonnejlfmicaaDoor
open Go Go.RowKit Go.Proofs.YtboonnejlfmicaaDoor.PA Go.Proofs.YtboonnejlfmicaaDoor.SB Go.Proofs.YtboonnejlfmicaaDoorW.PrintWords
namespace TP
abbrev Pc := Nat × ByteArray
def cp (p : Pc) : S65 := ⟨(p.1 : Int), p.2⟩
theorem rdP {l : List Pc} {i : Nat} {p : Pc} (h : l[i]? = some p) : rd_T65 (l.map cp) (i : Int) = cp p := by
  simp [rd_T65, List.getD_eq_getElem?_getD, h]
/-- Pieces in order, none of them empty, from a place on, within a length. -/
def okP (N : Nat) : Nat → List Pc → Prop
  | _, [] => True
  | e, p :: l => 0 < p.2.size ∧ e ≤ p.1 ∧ p.1 + p.2.size ≤ N ∧ okP N (p.1 + p.2.size) l
def endP : Nat → List Pc → Nat
  | e, [] => e
  | _, p :: l => endP (p.1 + p.2.size) l
theorem okP_len {N : Nat} : ∀ {l : List Pc} {e : Nat}, e ≤ N → okP N e l → l.length + e ≤ N
  | [], e, he, _ => by simpa using he
  | p :: l, e, he, h => by
    have := okP_len h.2.2.1 h.2.2.2
    have h1 := h.1
    have h2 := h.2.1
    simp only [List.length_cons]
    omega
theorem okP_snoc {N : Nat} (p : Pc) : ∀ {l : List Pc} {e : Nat}, okP N e l → 0 < p.2.size → endP e l ≤ p.1 → p.1 + p.2.size ≤ N → okP N e (l ++ [p])
  | [], e, _, h1, h2, h3 => ⟨h1, h2, h3, trivial⟩
  | q :: l, e, h, h1, h2, h3 => ⟨h.1, h.2.1, h.2.2.1, okP_snoc p h.2.2.2 h1 h2 h3⟩
theorem endP_snoc (p : Pc) : ∀ (l : List Pc) (e : Nat), endP e (l ++ [p]) = p.1 + p.2.size
  | [], e => rfl
  | q :: l, e => endP_snoc p l _
def one (s : List UInt8) (p : Pc) : List UInt8 := s.take p.1 ++ p.2.data.toList ++ s.drop (p.1 + p.2.size)
def app (s : List UInt8) (l : List Pc) : List UInt8 := l.foldl one s
theorem app_snoc (s : List UInt8) (l : List Pc) (p : Pc) : app s (l ++ [p]) = one (app s l) p := by simp [app, List.foldl_append]
theorem one_length {s : List UInt8} {p : Pc} (h : p.1 + p.2.size ≤ s.length) : (one s p).length = s.length := by
  unfold one
  simp only [List.length_append, List.length_take, List.length_drop, SB.sizeL]
  omega
theorem app_length {s : List UInt8} : ∀ {l : List Pc} {e : Nat}, okP s.length e l → (app s l).length = s.length := by
  intro l
  induction l generalizing s with
  | nil => intro e _; rfl
  | cons p l ih =>
    intro e h
    have h1 := one_length (s := s) h.2.2.1
    show (app (one s p) l).length = _
    rw [ih (s := one s p) (e := p.1 + p.2.size) (by rw [h1]; exact h.2.2.2), h1]
/-! right -/
theorem right_l0 (L : List Pc) (N : Nat) (hN : N ≤ 65535) (hl : L.length ≤ 65535) : ∀ d i e, i + d = L.length → okP N e (L.drop i) → ∀ k, d < k →
    patch_right.l0 k (L.map cp) (e : Int) (L.map cp) (L.length : Int) (i : Int) = some true := by
  intro d
  induction d with
  | zero =>
    intro i e hi _ k hk
    obtain ⟨k, rfl⟩ : ∃ m, k = m + 1 := ⟨k - 1, by omega⟩
    rw [patch_right.l0, if_neg (by omega), List.length_map, decide_eq_true (by omega)]
  | succ d ih =>
    intro i e hi hok k hk
    obtain ⟨k, rfl⟩ : ∃ m, k = m + 1 := ⟨k - 1, by omega⟩
    obtain ⟨p, hp⟩ : ∃ p, L[i]? = some p := ⟨L[i], by simp [show i < L.length by omega]⟩
    have hd : L.drop i = p :: L.drop (i + 1) := by
      obtain ⟨hl, he⟩ := List.getElem?_eq_some_iff.1 hp
      rw [List.drop_eq_getElem_cons hl, he]
    rw [hd] at hok
    obtain ⟨h1, h2, h3, h4⟩ := hok
    have hw : wrap64 ((p.1 : Int) + (p.2.size : Int)) = ((p.1 + p.2.size : Nat) : Int) := by unfold wrap64; omega
    have hne : ¬ (cp p).f1.toList = ([] : List UInt8) := by
      show ¬ p.2.toList = ([] : List UInt8)
      rw [Lib.toList_data]
      intro h
      have := congrArg List.length h
      rw [SB.sizeL] at this
      have h0 : p.2.size = 0 := this
      omega
    rw [patch_right.l0, if_pos (by omega), if_pos (by omega), if_pos (by simp; omega), rdP hp]
    rw [if_neg hne, if_neg (by show ¬ (p.2.size : Int) > 65535; omega), if_neg (by show ¬ (p.1 : Int) < (e : Int); omega), if_neg (by show ¬ (p.1 : Int) > 65535; omega)]
    unfold patch_Piece_end.f
    simp only [Option.bind_some]
    show patch_right.l0 k (L.map cp) (wrap64 ((p.1 : Int) + (p.2.size : Int))) (L.map cp) (L.length : Int) (wrap64 ((i : Int) + 1)) = some true
    rw [hw, w1 (by omega)]
    exact ih (i + 1) _ (by omega) h4 k (by omega)
theorem right_f {L : List Pc} {N : Nat} (hN : N ≤ 65535) (h : okP N 0 L) : Ev (fun k => patch_right.f k (L.map cp)) true := by
  have hl := okP_len (Nat.zero_le _) h
  refine ⟨L.length + 1, fun k hk => ?_⟩
  have := right_l0 L N hN (by omega) L.length 0 0 (by omega) (by simpa using h) k (by omega)
  dsimp only
  unfold patch_right.f
  rw [List.length_map]
  exact this
/-! Diff -/
theorem stretch {a b : List UInt8} (N : Nat) (ha : a.length = N) (hb : b.length = N) (p : Nat) : ∀ q, p ≤ q → q ≤ N → (∀ j, p ≤ j → j < q → a.getD j 0 = b.getD j 0) → b.take p ++ a.drop p = b.take q ++ a.drop q := by
  intro q
  induction q with
  | zero => intro h _ _; have : p = 0 := by omega
            subst this; rfl
  | succ q ih =>
    intro h h2 h3
    by_cases hpq : p = q + 1
    · rw [hpq]
    · rw [ih (by omega) (by omega) (fun j h4 h5 => h3 j h4 (by omega))]
      have e := h3 q (by omega) (by omega)
      have qa : q < a.length := by omega
      have qb : q < b.length := by omega
      rw [List.getD_eq_getElem?_getD, List.getD_eq_getElem?_getD, List.getElem?_eq_getElem qa, List.getElem?_eq_getElem qb] at e
      simp only [Option.getD_some] at e
      rw [List.drop_eq_getElem_cons qa, List.take_succ_eq_append_getElem qb, e, List.append_assoc]
      rfl
theorem mix_piece {a b : List UInt8} {f g N : Nat} (ha : a.length = N) (hb : b.length = N) (hfg : f ≤ g) (hg : g ≤ N) {d : ByteArray} (hd : d.data.toList = (b.drop f).take (g - f)) :
    one (b.take f ++ a.drop f) (f, d) = b.take g ++ a.drop g := by
  have hs : d.size = g - f := by rw [← SB.sizeL, hd, List.length_take, List.length_drop]; omega
  have hf : (b.take f).length = f := by rw [List.length_take]; omega
  unfold one
  simp only [hs, hd]
  rw [show f + (g - f) = g by omega]
  have e1 : (b.take f ++ a.drop f).take f = b.take f := by
    rw [List.take_append_of_le_length (by omega), List.take_of_length_le (by omega)]
  have e2 : (b.take f ++ a.drop f).drop g = a.drop g := by
    rw [List.drop_append, hf, List.drop_of_length_le (by omega), List.drop_drop, List.nil_append]
    congr 1
    omega
  have e3 : b.take f ++ (b.drop f).take (g - f) = b.take g := by
    have := List.take_add (l := b) (i := f) (j := g - f)
    rw [show f + (g - f) = g by omega] at this
    exact this.symm
  rw [e1, e2, e3]
structure DI (a b : ByteArray) (N i : Nat) (ps : List Pc) (x6 x7 : Int) : Prop where
  ok : okP N 0 ps
  state : (x6 = -1 ∧ endP 0 ps ≤ i ∧ app a.data.toList ps = b.data.toList.take i ++ a.data.toList.drop i) ∨
    (∃ f g : Nat, x6 = f ∧ x7 = g ∧ f < g ∧ g ≤ i ∧ endP 0 ps ≤ f ∧ app a.data.toList ps = b.data.toList.take f ++ a.data.toList.drop f ∧ ∀ j, g ≤ j → j < i → a.data.toList.getD j 0 = b.data.toList.getD j 0)
theorem DI.closed {a b : ByteArray} {N i : Nat} {ps : List Pc} (ha : a.size = N) (hb : b.size = N) {f g : Nat} (hi : i ≤ N) (ok : okP N 0 ps) (hfg : f < g) (hgi : g ≤ i) (he : endP 0 ps ≤ f) (hap : app a.data.toList ps = b.data.toList.take f ++ a.data.toList.drop f)
    (hsame : ∀ j, g ≤ j → j < i → a.data.toList.getD j 0 = b.data.toList.getD j 0) :
    okP N 0 (ps ++ [(f, b.extract f g)]) ∧ endP 0 (ps ++ [(f, b.extract f g)]) = g ∧ app a.data.toList (ps ++ [(f, b.extract f g)]) = b.data.toList.take i ++ a.data.toList.drop i := by
  have hla : a.data.toList.length = N := by rw [SB.sizeL, ha]
  have hlb : b.data.toList.length = N := by rw [SB.sizeL, hb]
  have hs : (b.extract f g).size = g - f := by rw [ByteArray.size_extract]; omega
  refine ⟨okP_snoc _ ok (by simp only [hs]; omega) he (by simp only [hs]; omega), ?_, ?_⟩
  · rw [endP_snoc]; simp only [hs]; omega
  · rw [app_snoc, hap, mix_piece hla hlb (Nat.le_of_lt hfg) (by omega) (Lib.extract_data _ _ _)]
    exact stretch N hla hlb g i hgi hi hsame
theorem map_snoc (ps : List Pc) (f g : Nat) (b : ByteArray) (x6 x7 : Int) (h6 : x6 = f) (h7 : x7 = g) : ps.map cp ++ [(⟨x6, b.extract x6.toNat x7.toNat⟩ : S65)] = (ps ++ [(f, b.extract f g)]).map cp := by
  subst h6 h7
  simp [cp]
theorem diff_l0 (a b : ByteArray) (N : Nat) (hN : N ≤ 65535) (ha : a.size = N) (hb : b.size = N) : ∀ d i, i + d = N → ∀ (ps : List Pc) (x6 x7 : Int), DI a b N i ps x6 x7 →
    ∃ qs, okP N 0 qs ∧ app a.data.toList qs = b.data.toList ∧ ∀ k, 2 * d < k → patch_Diff.l0 k a b (ps.map cp) x6 x7 (N : Int) (i : Int) = some (qs.map cp) := by
  have hla : a.data.toList.length = N := by rw [SB.sizeL, ha]
  have hlb : b.data.toList.length = N := by rw [SB.sizeL, hb]
  intro d
  induction d with
  | zero =>
    intro i hi ps x6 x7 hI
    have hiN : i = N := by omega
    subst hiN
    have hlen := okP_len (Nat.zero_le _) hI.ok
    rcases hI.state with ⟨h6, he, hap⟩ | ⟨f, g, h6, h7, hfg, hgi, he, hap, hsame⟩
    · refine ⟨ps, hI.ok, ?_, fun k hk => ?_⟩
      · rw [hap, List.take_of_length_le (by omega), List.drop_eq_nil_of_le (by omega), List.append_nil]
      · obtain ⟨k, rfl⟩ : ∃ m, k = m + 1 := ⟨k - 1, by omega⟩
        rw [patch_Diff.l0, if_neg (by omega), if_neg (by omega)]
    · obtain ⟨h1, h2, h3⟩ := DI.closed ha hb (Nat.le_refl _) hI.ok hfg hgi he hap hsame
      refine ⟨_, h1, ?_, fun k hk => ?_⟩
      · rw [h3, List.take_of_length_le (by omega), List.drop_eq_nil_of_le (by omega), List.append_nil]
      · obtain ⟨k, rfl⟩ : ∃ m, k = m + 1 := ⟨k - 1, by omega⟩
        rw [patch_Diff.l0, if_neg (by omega), if_pos (by omega), if_pos (by omega), if_pos (by omega), if_pos (by omega), if_pos (by rw [List.length_map]; omega), map_snoc ps f g b x6 x7 h6 h7]
  | succ d ih =>
    intro i hi ps x6 x7 hI
    have hlen := okP_len (Nat.zero_le _) hI.ok
    have hbt : bt a (i : Int) = bt b (i : Int) ↔ a.data.toList.getD i 0 = b.data.toList.getD i 0 := by
      rw [SB.btD a i (by omega), SB.btD b i (by omega)]
      constructor
      · intro h; exact UInt8.toNat_inj.1 (by omega)
      · intro h; rw [h]
    have hw : wrap64 ((i : Int) + 1) = ((i + 1 : Nat) : Int) := by unfold wrap64; omega
    by_cases hs : a.data.toList.getD i 0 = b.data.toList.getD i 0
    · -- the same byte
      obtain ⟨qs, q1, q2, q3⟩ := ih (i + 1) (by omega) ps x6 x7 ⟨hI.ok, by
        rcases hI.state with ⟨h6, he, hap⟩ | ⟨f, g, h6, h7, hfg, hgi, he, hap, hsame⟩
        · refine Or.inl ⟨h6, by omega, ?_⟩
          rw [hap]
          exact stretch N hla hlb i (i + 1) (by omega) (by omega) (fun j h1 h2 => (show i = j by omega) ▸ hs)
        · refine Or.inr ⟨f, g, h6, h7, hfg, by omega, he, hap, fun j h1 h2 => ?_⟩
          by_cases hji : j = i
          · rw [hji]; exact hs
          · exact hsame j h1 (by omega)⟩
      refine ⟨qs, q1, q2, fun k hk => ?_⟩
      obtain ⟨k, rfl⟩ : ∃ m, k = m + 1 := ⟨k - 1, by omega⟩
      rw [patch_Diff.l0, if_pos (by omega), if_pos (by omega), if_pos (by omega), if_pos (by omega), if_pos (hbt.2 hs), hw]
      exact q3 k (by omega)
    · rcases hI.state with ⟨h6, he, hap⟩ | ⟨f, g, h6, h7, hfg, hgi, he, hap, hsame⟩
      · -- a piece begins
        obtain ⟨qs, q1, q2, q3⟩ := ih (i + 1) (by omega) ps (i : Int) ((i + 1 : Nat) : Int) ⟨hI.ok, Or.inr ⟨i, i + 1, rfl, rfl, by omega, by omega, he, hap, fun j h1 h2 => by omega⟩⟩
        refine ⟨qs, q1, q2, fun k hk => ?_⟩
        obtain ⟨k, rfl⟩ : ∃ m, k = m + 1 + 1 := ⟨k - 2, by omega⟩
        rw [patch_Diff.l0, if_pos (by omega), if_pos (by omega), if_pos (by omega), if_pos (by omega), if_neg (fun h => hs (hbt.1 h)), if_neg (by omega), patch_Diff.j2, if_neg (by decide), if_pos (by omega), hw]
        exact q3 k (by omega)
      · have hw2 : wrap64 ((i : Int) - x7) = ((i : Int) - x7) := by unfold wrap64; omega
        by_cases h4 : (i : Int) - x7 ≥ 4
        · -- the piece ends, another begins
          obtain ⟨h1, h2, h3⟩ := DI.closed ha hb (by omega) hI.ok hfg hgi he hap hsame
          obtain ⟨qs, q1, q2, q3⟩ := ih (i + 1) (by omega) (ps ++ [(f, b.extract f g)]) (i : Int) ((i + 1 : Nat) : Int) ⟨h1, Or.inr ⟨i, i + 1, rfl, rfl, by omega, by omega, by omega, h3, fun j h1 h2 => by omega⟩⟩
          refine ⟨qs, q1, q2, fun k hk => ?_⟩
          obtain ⟨k, rfl⟩ : ∃ m, k = m + 1 + 1 := ⟨k - 2, by omega⟩
          rw [patch_Diff.l0, if_pos (by omega), if_pos (by omega), if_pos (by omega), if_pos (by omega), if_neg (fun h => hs (hbt.1 h)), if_pos (by omega), hw2, decide_eq_true h4, patch_Diff.j2, if_pos rfl, if_pos (by omega), if_pos (by omega), if_pos (by omega), if_pos (by rw [List.length_map]; omega), map_snoc ps f g b x6 x7 h6 h7]
          simp only [Option.bind_some]
          rw [if_pos (by decide), hw]
          exact q3 k (by omega)
        · obtain ⟨qs, q1, q2, q3⟩ := ih (i + 1) (by omega) ps x6 ((i + 1 : Nat) : Int) ⟨hI.ok, Or.inr ⟨f, i + 1, h6, rfl, by omega, by omega, he, hap, fun j h1 h2 => by omega⟩⟩
          refine ⟨qs, q1, q2, fun k hk => ?_⟩
          obtain ⟨k, rfl⟩ : ∃ m, k = m + 1 + 1 := ⟨k - 2, by omega⟩
          rw [patch_Diff.l0, if_pos (by omega), if_pos (by omega), if_pos (by omega), if_pos (by omega), if_neg (fun h => hs (hbt.1 h)), if_pos (by omega), hw2, decide_eq_false h4, patch_Diff.j2, if_neg (by decide), if_neg (by omega), hw]
          exact q3 k (by omega)
theorem diff_f (a b : ByteArray) (N : Nat) (hN : N ≤ 65535) (ha : a.size = N) (hb : b.size = N) :
    ∃ qs, okP N 0 qs ∧ app a.data.toList qs = b.data.toList ∧ Ev (fun k => patch_Diff.f k a b) (qs.map cp) := by
  obtain ⟨qs, q1, q2, q3⟩ := diff_l0 a b N hN ha hb N 0 (by omega) [] (-1) 0 ⟨trivial, Or.inl ⟨rfl, Nat.le_refl _, by simp [app]⟩⟩
  refine ⟨qs, q1, q2, 2 * N + 2, fun k hk => ?_⟩
  obtain ⟨k, rfl⟩ : ∃ m, k = m + 1 := ⟨k - 1, by omega⟩
  dsimp only
  unfold patch_Diff.f
  rw [if_pos (by omega), patch_Diff.j0, decide_eq_false (by omega), if_neg (by decide), hb]
  exact q3 k (by omega)
/-! Get -/
def encP (p : Pc) : List UInt8 := be p.1 2 ++ be p.2.size 2 ++ p.2.data.toList
def bodyP (l : List Pc) : List UInt8 := l.flatMap encP
def putP (l : List Pc) : List UInt8 := be l.length 2 ++ bodyP l
theorem encP_length (p : Pc) : (encP p).length = 4 + p.2.size := by
  unfold encP
  simp only [List.length_append, be_length, SB.sizeL]
theorem mid {t : ByteArray} {A M B : List UInt8} (h : t.data.toList = A ++ M ++ B) {s e : Nat} (hs : s = A.length) (he : e = A.length + M.length) : (t.extract s e).data.toList = M := by
  rw [Lib.extract_data, h, hs, he, List.append_assoc, List.drop_left, Nat.add_sub_cancel_left, List.take_left]
theorem bodyP_drop {l : List Pc} {i : Nat} {p : Pc} (h : l[i]? = some p) : bodyP l = bodyP (l.take i) ++ encP p ++ bodyP (l.drop (i + 1)) := by
  obtain ⟨hl, he⟩ := List.getElem?_eq_some_iff.1 h
  have e1 : l = l.take i ++ p :: l.drop (i + 1) := by
    rw [← he, ← List.drop_eq_getElem_cons hl, List.take_append_drop]
  conv => lhs; rw [e1]
  simp [bodyP]
theorem take_one {l : List Pc} {i : Nat} {p : Pc} (h : l[i]? = some p) : l.take (i + 1) = l.take i ++ [p] := by
  obtain ⟨hl, he⟩ := List.getElem?_eq_some_iff.1 h
  rw [List.take_succ_eq_append_getElem hl, he]
theorem okP_at {N : Nat} : ∀ {l : List Pc} {e i : Nat} {p : Pc}, okP N e l → l[i]? = some p → p.1 + p.2.size ≤ N
  | q :: l, e, 0, p, h, hp => by
    simp at hp
    subst hp
    exact h.2.2.1
  | q :: l, e, i + 1, p, h, hp => okP_at h.2.2.2 (by simpa using hp)
  | [], e, i, p, h, hp => by simp at hp
theorem wraps {x t z : Nat} (h : x + 4 + z ≤ t) (ht : t ≤ 1000000000) : wrap64 ((t : Int) - (x : Int)) = (t : Int) - (x : Int) ∧ wrap64 ((x : Int) + 2) = ((x + 2 : Nat) : Int) ∧ wrap64 ((x : Int) + 4) = ((x + 4 : Nat) : Int) ∧
    wrap64 ((t : Int) - (x : Int) - 4) = (t : Int) - (x : Int) - 4 ∧ wrap64 (((x + 4 : Nat) : Int) + (z : Int)) = ((x + 4 + z : Nat) : Int) ∧ wrap64 (4 + (z : Int)) = ((4 + z : Nat) : Int) ∧ wrap64 ((x : Int) + ((4 + z : Nat) : Int)) = ((x + (4 + z) : Nat) : Int) := by
  unfold wrap64
  refine ⟨?_, ?_, ?_, ?_, ?_, ?_, ?_⟩ <;> omega
theorem conds {x t z i n : Nat} (h : x + 4 + z ≤ t) (hi : i < n) : (i : Int) < (n : Int) ∧ (¬ (t : Int) - (x : Int) < 4) ∧ (0 : Int) ≤ ((x + 2 : Nat) : Int) ∧ ((x + 2 : Nat) : Int) ≤ ((x + 4 : Nat) : Int) ∧ ((x + 4 : Nat) : Int) ≤ (t : Int) ∧
    (¬ (t : Int) - (x : Int) - 4 < (z : Int)) ∧ (0 : Int) ≤ (x : Int) ∧ (x : Int) ≤ ((x + 2 : Nat) : Int) ∧ ((x + 2 : Nat) : Int) ≤ (t : Int) ∧ (0 : Int) ≤ ((x + 4 : Nat) : Int) ∧ ((x + 4 : Nat) : Int) ≤ ((x + 4 + z : Nat) : Int) ∧ ((x + 4 + z : Nat) : Int) ≤ (t : Int) := by
  refine ⟨?_, ?_, ?_, ?_, ?_, ?_, ?_, ?_, ?_, ?_, ?_, ?_⟩ <;> omega
theorem get_step (k : Nat) (t : ByteArray) (xs : List S65) (x z n i : Nat) (a : Int) (h : x + 4 + z ≤ t.size) (ht : t.size ≤ 1000000000) (hi : i < n) (hin : i ≤ 1000000) (hxs : xs.length < 5864062014805)
    (h1 : sum_Get.f k (t.extract (x + 2) (x + 4)) = some (z : Int)) (h2 : sum_Get.f k (t.extract x (x + 2)) = some a) :
    patch_Get.l0 (k + 1) t xs (x : Int) (n : Int) (i : Int) = patch_Get.l0 k t (xs ++ [(⟨a, t.extract (x + 4) (x + 4 + z)⟩ : S65)]) ((x + (4 + z) : Nat) : Int) (n : Int) ((i + 1 : Nat) : Int) := by
  obtain ⟨v1, v2, v3, v4, v5, v6, v7⟩ := wraps h ht
  obtain ⟨hlt, n1, p1, p2, p3, n2, p4, p5, p6, p7, p8, p9⟩ := conds h hi
  have w2 := w1 (i := i) (by omega)
  rw [patch_Get.l0, if_pos hlt, v1, if_neg n1, v2, v3, if_pos p1, if_pos p2, if_pos p3]
  rw [show ((x + 2 : Nat) : Int).toNat = x + 2 from Int.toNat_natCast _, show ((x + 4 : Nat) : Int).toNat = x + 4 from Int.toNat_natCast _, show (x : Int).toNat = x from Int.toNat_natCast _]
  rw [h1, Option.bind_some, v4, if_neg n2, if_pos p4, if_pos p5, if_pos p6, h2, Option.bind_some]
  rw [v5, if_pos p7, if_pos p8, if_pos p9, if_pos hxs]
  rw [show ((x + 4 + z : Nat) : Int).toNat = x + 4 + z from Int.toNat_natCast _, v6, v7, w2]
theorem get_l0 (t : ByteArray) (L : List Pc) (N : Nat) (hN : N ≤ 65535) (hok : okP N 0 L) (ht : t.data.toList = putP L) (hsz : t.size ≤ 1000000000) : ∀ d i, i + d = L.length →
    Ev (fun k => patch_Get.l0 k t ((L.take i).map cp) ((2 + (bodyP (L.take i)).length : Nat) : Int) (L.length : Int) (i : Int)) (L.map cp, (t.size : Int), 0) := by
  have hlen := okP_len (Nat.zero_le _) hok
  have hts : t.size = 2 + (bodyP L).length := by rw [← SB.sizeL, ht, putP, List.length_append, be_length]
  intro d
  induction d with
  | zero =>
    intro i hi
    have hi' : i = L.length := by omega
    subst hi'
    obtain ⟨K, hK⟩ := right_f hN hok
    refine ⟨K + 1, fun k hk => ?_⟩
    obtain ⟨k, rfl⟩ : ∃ m, k = m + 1 := ⟨k - 1, by omega⟩
    have := hK k (by omega)
    dsimp only at this ⊢
    rw [patch_Get.l0, if_neg (by omega), List.take_length, this]
    simp only [Option.bind_some]
    rw [if_pos trivial, hts]
  | succ d ih =>
    intro i hi
    obtain ⟨p, hp⟩ : ∃ p, L[i]? = some p := ⟨L[i], by simp [show i < L.length by omega]⟩
    have hpN := okP_at hok hp
    have hiL : i < L.length := by omega
    have p10 : ((L.take i).map cp).length < 5864062014805 := by rw [List.length_map, List.length_take]; omega
    have hB := bodyP_drop hp
    obtain ⟨K, hK⟩ := ih (i + 1) (by omega)
    obtain ⟨x, hx⟩ : ∃ x, x = 2 + (bodyP (L.take i)).length := ⟨_, rfl⟩
    have hlB := congrArg List.length hB
    rw [List.length_append, List.length_append, encP_length] at hlB
    have e1 : (t.extract (x + 2) (x + 4)).data.toList = be p.2.size 2 := mid (A := be L.length 2 ++ bodyP (L.take i) ++ be p.1 2) (B := p.2.data.toList ++ bodyP (L.drop (i + 1))) (by rw [ht, putP, hB]; simp [encP]) (by simp [be_length]; omega) (by simp [be_length]; omega)
    have e2 : (t.extract x (x + 2)).data.toList = be p.1 2 := mid (A := be L.length 2 ++ bodyP (L.take i)) (B := be p.2.size 2 ++ p.2.data.toList ++ bodyP (L.drop (i + 1))) (by rw [ht, putP, hB]; simp [encP]) (by simp [be_length]; omega) (by simp [be_length]; omega)
    have e3 : t.extract (x + 4) (x + 4 + p.2.size) = p.2 := SB.ext (mid (A := be L.length 2 ++ bodyP (L.take i) ++ be p.1 2 ++ be p.2.size 2) (B := bodyP (L.drop (i + 1))) (by rw [ht, putP, hB]; simp [encP]) (by simp [be_length]; omega) (by simp [be_length, SB.sizeL]; omega))
    have g1 : Ev (fun k => sum_Get.f k (t.extract (x + 2) (x + 4))) (p.2.size : Int) := by
      have := get_f (t.extract (x + 2) (x + 4))
      rwa [e1, show getL (be p.2.size 2) = p.2.size by unfold getL; rw [if_neg (by rw [be_length]; omega), num_be 2 _ (by omega)]] at this
    have g2 : Ev (fun k => sum_Get.f k (t.extract x (x + 2))) (p.1 : Int) := by
      have := get_f (t.extract x (x + 2))
      rwa [e2, show getL (be p.1 2) = p.1 by unfold getL; rw [if_neg (by rw [be_length]; omega), num_be 2 _ (by omega)]] at this
    obtain ⟨K1, hK1⟩ := g1
    obtain ⟨K2, hK2⟩ := g2
    rw [← hx]
    refine ⟨K + K1 + K2 + 1, fun k hk => ?_⟩
    obtain ⟨k, rfl⟩ : ∃ m, k = m + 1 := ⟨k - 1, by omega⟩
    have hK := hK k (by omega)
    have hK1 := hK1 k (by omega)
    have hK2 := hK2 k (by omega)
    dsimp only at hK hK1 hK2 ⊢
    have hxt : x + 4 + p.2.size ≤ t.size := by omega
    have v8 : x + (4 + p.2.size) = 2 + (bodyP (L.take (i + 1))).length := by
      rw [take_one hp]
      have : (bodyP (L.take i ++ [p])).length = (bodyP (L.take i)).length + (4 + p.2.size) := by simp [bodyP, encP_length]
      rw [this]
      omega
    have hmap : (L.take i).map cp ++ [(⟨(p.1 : Int), p.2⟩ : S65)] = (L.take (i + 1)).map cp := by rw [take_one hp]; simp [cp]
    have hstep := get_step k t ((L.take i).map cp) x p.2.size L.length i p.1 hxt hsz hiL (by omega) p10 hK1 hK2
    rw [e3, hmap, v8] at hstep
    rw [hstep]
    exact hK
theorem get_pieces (t : ByteArray) (L : List Pc) (N : Nat) (hN : N ≤ 65535) (hok : okP N 0 L) (ht : t.data.toList = putP L) (hsz : t.size ≤ 1000000000) : Ev (fun k => patch_Get.f k t) (L.map cp, (t.size : Int), 0) := by
  have hlen := okP_len (Nat.zero_le _) hok
  have hts : t.size = 2 + (bodyP L).length := by rw [← SB.sizeL, ht, putP, List.length_append, be_length]
  obtain ⟨K, hK⟩ := get_l0 t L N hN hok ht hsz L.length 0 (by omega)
  have e1 : (t.extract 0 2).data.toList = be L.length 2 := mid (A := []) (B := bodyP L) (by rw [ht, putP]; simp) (by simp) (by simp [be_length])
  have g1 : Ev (fun k => sum_Get.f k (t.extract 0 2)) (L.length : Int) := by
    have := get_f (t.extract 0 2)
    rwa [e1, show getL (be L.length 2) = L.length by unfold getL; rw [if_neg (by rw [be_length]; omega), num_be 2 _ (by omega)]] at this
  obtain ⟨K1, hK1⟩ := g1
  refine ⟨K + K1, fun k hk => ?_⟩
  have hK := hK k (by omega)
  have hK1 := hK1 k (by omega)
  dsimp only at hK hK1 ⊢
  unfold patch_Get.f
  rw [if_neg (by omega), if_pos (by omega), if_pos (by omega), hK1]
  simp only [Option.bind_some]
  simpa [bodyP] using hK
end TP
end Go.Proofs.YtboonnejlfmicaaDoor
