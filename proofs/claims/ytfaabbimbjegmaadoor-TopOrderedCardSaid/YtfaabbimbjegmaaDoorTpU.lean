/-
  The map's All, and the law's literal that takes the pairs into a page.
  The map of the law's values, plainly; what Put, Get and Compare of keys answer for one value.
  The law of ordered values, walked: its first loop.
-/
import Derived.Test.YtfaabbimbjegmaaDoorTpN
import Derived.Test.YtfaabbimbjegmaaDoorTpT
import Derived.Test.YtfaabbimbjegmaaDoorKeysG
set_option linter.unusedVariables false
set_option linter.unusedSimpArgs false
namespace Go.Proofs.YtfaabbimbjegmaaDoor
open Go Go.RowKit Go.Proofs.YtfaabbimbjegmaaDoor.PA Go.Proofs.YtfaabbimbjegmaaDoor.SB Go.Proofs.YtfaabbimbjegmaaDoorW.PrintWords
namespace TP
def kE (k : ByteArray) : E := ⟨k, ⟨#[]⟩, false⟩
def addE (es : List E) (k : ByteArray) : List E := if sizes es + esz (kE k) ≤ 489 then es ++ [kE k] else es
theorem sizes_snoc : ∀ (l : List E) (e : E), sizes (l ++ [e]) = sizes l + esz e
  | [], e => by simp [sizes]
  | x :: l, e => by simp only [List.cons_append, sizes, sizes_snoc l e]; omega
abbrev pgA (s : Value) : Array Value := #[.int .i64 0, .int .i64 3, .int .i64 0, .int .i64 0, .string ⟨#[]⟩, s]
set_option maxHeartbeats 4000000 in
set_option maxRecDepth 100000 in
theorem yield_c {w : World} {base b : Nat} {s : Value} {es : List E} (k : ByteArray) (x : S32) (X : Bx w b (pgA s) 29) (HO : OwE w base s es) (hbb : b < base) (hb : base ≤ w.heap.size) (hs : Small es) (hl : es.length ≤ 100) (hz : sizes es ≤ 489) (hk : k.size ≤ 64) :
    Calls Tryd.prog 8 #[.string k, agV x, .pointer (some ⟨b, 0, none⟩)] w fun r w' => r = .returned (.bool true) ∧ ∃ s', Bx w' b (pgA s') 29 ∧ OwE w' base s' (addE es k) ∧ But base b w w' := by
  have HO0 := Lib.hid HO
  have HSm := Lib.hid hs
  clear HO hs
  go_enter Tryd.func8, Tryd.ntmps8
  go_upto_region 1 with (fail)
  have B1 : Below w.heap.size w (w.alloc (.cells #[.string x.f0, .int .i64 x.f1, .bool x.f2] 32)) := (Below.refl _ _).alloc (Nat.le_refl _) _
  generalize World.alloc w _ = w1 at B1 ⊢
  have X1 := X.below B1 X.lt
  have HO1 := Lib.hid (Kd.R_below HO0.out B1)
  have hbw := X.lt
  obtain ⟨A, c, rfl, hlc, hcm, _⟩ := HO0.out.rd
  obtain ⟨p0, p1, p2, p3, p4, p5⟩ := X1.six
  obtain ⟨g0, g1, g2, g3, g4, g5⟩ := X1.six_free
  go_wp2_with fail
  refine (free_c 0 3 HSm.out (OwE.rd HO1.out)).mono ?_
  rintro _ w2 ⟨rfl, hb2⟩
  have X2 := X1.below hb2 X1.lt
  have HO2 := Lib.hid (Kd.R_below HO1.out hb2)
  have B2 := B1.trans (hb2.mono B1.size)
  clear X1 HO1 B1 hb2 p0 p1 p2 p3 p4 p5 g0 g1 g2 g3 g4 g5
  go_wp2_with fail
  refine (size_c (e := kE k) ⟨hk, show (0 : Nat) ≤ 100 by decide⟩).mono ?_
  rintro _ w3 ⟨rfl, hb3⟩
  have X3 := X2.below hb3 X2.lt
  have HO3 := Lib.hid (Kd.R_below HO2.out hb3)
  have B3 := B2.trans (hb3.mono B2.size)
  clear X2 HO2 B2 hb3 w1
  by_cases hf : sizes es + esz (kE k) ≤ 489
  · have HA : Hid (addE es k = es ++ [kE k]) := if_pos hf
    have hc : (esz (kE k) : Int) ≤ 489 - (sizes es : Int) := by omega
    clear hf
    obtain ⟨p0, p1, p2, p3, p4, p5⟩ := X3.six
    obtain ⟨g0, g1, g2, g3, g4, g5⟩ := X3.six_free
    have hbs : Hid (base ≤ w3.heap.size) := Nat.le_trans hb B3.size
    have HL : Hid ((es.length + 1) * 40 ≤ 140737488355328) := by unfold Hid; omega
    go_wp2_with (at_builtin; go_loud (refine Kd.R_append k43 (w0 := w3) (W := w3) base rfl (.tmp 13) (.tmp 16) 27 43 _ 40 rfl Tryd.underlying27 infoE rfl (by decide) (by omega) (.slice A es.length c) _ (kE k) [.string k, .string ⟨#[]⟩, .bool false] (fun _ => True) (fun _ => False) rfl rfl (k43_mkM _ _ _ (kE k)) (fun _ h => h.elim) (fun _ _ => trivial) HO3.out (Below.refl _ _) hbs.out HL.out ?_); intro v4 w4 hO4 hb4 hg4 ha4; clear hg4 ha4; have X4 := X3.below hb4 hbb; obtain ⟨r0, r1, r2, r3, r4, r5⟩ := X4.six; obtain ⟨k0, k1, k2, k3, k4, k5⟩ := X4.six_free; obtain ⟨A4, c4, rfl, _⟩ := OwE.rd hO4)
    go_ret
    have h6 := own_set1 hO4 X4 5 (.slice A4 (es.length + 1) c4)
    rw [show (es ++ [kE k]).length = es.length + 1 by simp] at h6
    exact ⟨rfl, .slice A4 (es.length + 1) c4, X4.set 5 _, by rw [HA.out]; exact h6, ((But.of (B3.mono hb)).trans (But.of hb4)).set 5 _⟩
  · have HA : Hid (addE es k = es) := if_neg hf
    have hc : ¬ ((esz (kE k) : Int) ≤ 489 - (sizes es : Int)) := by omega
    clear hf
    go_wp2_with fail
    go_ret
    exact ⟨rfl, .slice A es.length c, X3, by rw [HA.out]; exact HO3.out, But.of (B3.mono hb)⟩
def foldE (l : List Pr) : List E := l.foldl (fun es p => addE es p.f0) []
theorem foldE_snoc (l : List Pr) (p : Pr) : foldE (l ++ [p]) = addE (foldE l) p.f0 := by
  unfold foldE
  rw [List.foldl_append]
  rfl
theorem addE_inv {es : List E} {k : ByteArray} (h : sizes es ≤ 489) : sizes (addE es k) ≤ 489 ∧ (addE es k).length ≤ es.length + 1 ∧ ∀ e ∈ addE es k, e ∈ es ∨ e = kE k := by
  unfold addE
  split
  · rename_i h1
    exact ⟨by rw [sizes_snoc]; exact h1, by simp, fun e he => by simpa using he⟩
  · exact ⟨h, by omega, fun e he => Or.inl he⟩
theorem foldE_inv (l : List Pr) (hl : l.length ≤ 100) (hk : ∀ p ∈ l, p.f0.size ≤ 64) : sizes (foldE l) ≤ 489 ∧ (foldE l).length ≤ l.length ∧ (∀ e ∈ foldE l, ∃ p ∈ l, e = kE p.f0) ∧ Small (foldE l) := by
  have key : ∀ n, n ≤ l.length → sizes (foldE (l.take n)) ≤ 489 ∧ (foldE (l.take n)).length ≤ n ∧ ∀ e ∈ foldE (l.take n), ∃ p ∈ l, e = kE p.f0 := by
    intro n
    induction n with
    | zero => intro _; exact ⟨by simp [foldE, sizes], by simp [foldE], fun e he => by simp [foldE] at he⟩
    | succ n ih =>
      intro hn
      obtain ⟨i1, i2, i3⟩ := ih (by omega)
      rw [List.take_succ_eq_append_getElem (by omega), foldE_snoc]
      obtain ⟨a1, a2, a3⟩ := addE_inv (k := (l[n]).f0) i1
      refine ⟨a1, by omega, fun e he => ?_⟩
      rcases a3 e he with h | h
      · exact i3 e h
      · exact ⟨l[n], List.getElem_mem _, h⟩
  obtain ⟨i1, i2, i3⟩ := key l.length (Nat.le_refl _)
  rw [List.take_length] at i1 i2 i3
  refine ⟨i1, i2, i3, by omega, fun e he => ?_⟩
  obtain ⟨p, hp, rfl⟩ := i3 e he
  exact ⟨hk p hp, show (0 : Nat) ≤ 100 by decide⟩
theorem OwP.but {w w' : World} {D base b : Nat} {v : Value} {l : List Pr} (h : OwP w D v l) (B : But base b w w') (hg : ∀ g, v.ownBlock = some g → g < base ∧ g ≠ b) : OwP w' D v l := by
  obtain ⟨h1, h2⟩ := h
  refine ⟨h1, ?_⟩
  rcases h2 with h2 | ⟨g, cap, cur, rfl, hb, hh, r⟩
  · exact .inl h2
  · exact .inr ⟨g, cap, cur, rfl, hb, (B.block g (hg g rfl).1 (hg g rfl).2).trans hh, r⟩
theorem Bx.four {w : World} {b t : Nat} {a0 a1 a2 a3 : Value} (h : Bx w b #[a0, a1, a2, a3] t) : w.cell? ⟨b, 0, none⟩ = some a0 ∧ w.cell? ⟨b, 1, none⟩ = some a1 ∧ w.cell? ⟨b, 2, none⟩ = some a2 ∧ w.cell? ⟨b, 3, none⟩ = some a3 :=
  ⟨h.cell 0, h.cell 1, h.cell 2, h.cell 3⟩
def EaR (w : World) (base b : Nat) (l : List Pr) (v : Value) (wr : World) : Prop :=
  ∃ (i : Nat) (s : Value), i ≤ l.length ∧ v = .int .i64 i ∧ Bx wr b (pgA s) 29 ∧ OwE wr base s (foldE (l.take i)) ∧ But base b w wr
set_option maxHeartbeats 4000000 in
set_option maxRecDepth 100000 in
theorem each1_c {w : World} {base b q D : Nat} {s v : Value} {l : List Pr} (X : Bx w b (pgA s) 29) (HO : OwE w base s []) (Xq : Bx w q #[v] 24) (HP : OwP w D v l) (hg : ∀ g, v.ownBlock = some g → g < base ∧ g ≠ b)
    (hbb : b < base) (hb : base ≤ w.heap.size) (hl : l.length ≤ 100) (hk : ∀ p ∈ l, p.f0.size ≤ 64) :
    Calls Tryd.prog 47 #[.func (.func 8) #[] #[.pointer (some ⟨b, 0, none⟩)], .pointer (some ⟨q, 0, none⟩)] w fun r w' => r = .returned (.tuple #[]) ∧ ∃ s', Bx w' b (pgA s') 29 ∧ OwE w' base s' (foldE l) ∧ But base b w w' := by
  have HP0 := Lib.hid HP
  have HO0 := Lib.hid HO
  have HG := Lib.hid hg
  have HK := Lib.hid hk
  obtain ⟨A, c, rfl, hlc, _⟩ := HP.rd
  clear HP HO hg hk
  have c0 : w.cell? ⟨q, 0, none⟩ = some (.slice A l.length c) := Xq.cell 0
  go_enter Tryd.func47, Tryd.ntmps47
  go_wp2_with fail
  clear c0
  go_loopw [7] (fun v wr => EaR w base b l v wr) (fun v _ => l.length - (intOf v).toNat)
  case atStart => exact ⟨0, _, Nat.zero_le _, rfl, X, HO0.out, But.refl _ _ _⟩
  case round =>
    obtain ⟨i, sv, hi, rfl, Xr, hO, hB⟩ := hrel
    by_cases hlt : i < l.length
    · have hlt' : (i : Int) < (l.length : Int) := by omega
      have hi0 : (0 : Int) ≤ (i : Int) := by omega
      obtain ⟨e, he⟩ : ∃ y, l[i]? = some y := ⟨l[i], by simp [hlt]⟩
      have HPr := HP0.out.but hB HG.out
      obtain ⟨g, c', hv⟩ := HPr.sl hlt
      obtain ⟨rfl, rfl⟩ : A = some ⟨g, 0, none⟩ ∧ c = c' := by injection hv with h1 _ h3; exact ⟨h1, h3⟩
      obtain ⟨_, _, _, _, _, _, _, _, _, q0, q1, q2, q3⟩ := HPr.at he
      have HE := Lib.hid he
      have HOr := Lib.hid hO
      have HB := Lib.hid hB
      clear he hO hB HPr hv
      go_upto_region 3 with (fail)
      have X1 := bx_new wr #[.string e.f0, .string e.f1.f0, .int .i64 e.f1.f1, .bool e.f1.f2] 66
      have B1 : Below wr.heap.size wr (wr.alloc (.cells #[.string e.f0, .string e.f1.f0, .int .i64 e.f1.f1, .bool e.f1.f2] 66)) := (Below.refl _ _).alloc (Nat.le_refl _) _
      generalize World.alloc wr _ = w1 at X1 B1 ⊢
      have Xb := Xr.below B1 Xr.lt
      have HO1 := Lib.hid (Kd.R_below HOr.out B1)
      have B1' := B1.mono (Nat.le_trans hb HB.out.size)
      have hbs := Nat.le_trans (Nat.le_trans hb HB.out.size) B1.size
      obtain ⟨z0, z1, z2, z3⟩ := X1.four
      clear q0 q1 q2 q3
      go_wp2_with fail
      have HI := Lib.hid (foldE_inv (l.take i) (by rw [List.length_take]; omega) (fun p hp => HK.out p (List.mem_of_mem_take hp)))
      have hfl : (foldE (l.take i)).length ≤ 100 := by have := HI.out.2.1; rw [List.length_take] at this; omega
      refine (yield_c (es := foldE (l.take i)) e.f0 e.f1 Xb HO1.out hbb hbs HI.out.2.2.2 hfl HI.out.1 (HK.out e (List.mem_of_getElem? HE.out))).mono ?_
      rintro _ w2 ⟨rfl, s2, X2, HO2, B2⟩
      have HOn : Hid (OwE w2 base s2 (foldE (l.take (i + 1)))) := by
        obtain ⟨h1, h2⟩ := List.getElem?_eq_some_iff.1 HE.out
        rw [List.take_succ_eq_append_getElem h1, foldE_snoc, h2]
        exact HO2
      clear z0 z1 z2 z3 HO2
      go_wp2_with fail
      go_roundw
      case rel => exact ⟨i + 1, s2, hlt, by go_num, X2, HOn.out, (HB.out.trans (But.of B1')).trans B2⟩
      case measure => simp only [intOf]; omega
    · have hlt' : ¬ (i : Int) < (l.length : Int) := by omega
      obtain rfl : i = l.length := by omega
      go_wp2_with fail
      go_end0
      exact ⟨rfl, _, Xr, by rw [List.take_length] at hO; exact hO, hB⟩
set_option maxHeartbeats 2000000 in
set_option maxRecDepth 100000 in
theorem each_c {w : World} {D : Nat} {v : Value} {l : List Pr} (HP : OwP w D v l) (hl : l.length ≤ 100) :
    Calls Tryd.prog 24 #[v] w fun r w' => ∃ q v2, r = .returned (.func (.func 47) #[] #[.pointer (some ⟨q, 0, none⟩)]) ∧ Bx w' q #[v2] 24 ∧ w.heap.size ≤ q ∧ OwP w' w.heap.size v2 l ∧ Below w.heap.size w w' := by
  obtain ⟨A, c, rfl, hlc, hC⟩ := HP.rd
  have K := keys_Value_46.calls A c l l w hC hlc (by unfold keys_Value_46.f; simp; omega)
  clear HP hC
  go_enter Tryd.func24, Tryd.ntmps24
  go_wp2_with fail
  refine K.mono ?_
  rintro _ w1 ⟨v2, rfl, hR, hb⟩
  have HO := OwP.ofR hR
  obtain ⟨A2, c2, rfl, _⟩ := HO.rd
  have HOh := Lib.hid HO
  clear HO hR K
  go_wp2_with fail
  go_ret
  have B1 : Below w1.heap.size w1 (w1.alloc (.cells #[.slice A2 l.length c2] 24)) := (Below.refl _ _).alloc (Nat.le_refl _) _
  exact ⟨_, _, rfl, bx_new w1 _ _, hb.size, HOh.out.below B1, hb.trans (B1.mono hb.size)⟩
set_option maxHeartbeats 2000000 in
set_option maxRecDepth 100000 in
theorem all_c {w : World} {M D : Nat} {v : Value} {l : List Pr} (X : Bx w M #[v] 26) (HP : OwP w D v l) (hl : l.length ≤ 100) :
    Calls Tryd.prog 7 #[.pointer (some ⟨M, 0, none⟩)] w fun r w' => ∃ q v2, r = .returned (.func (.func 47) #[] #[.pointer (some ⟨q, 0, none⟩)]) ∧ Bx w' q #[v2] 24 ∧ w.heap.size ≤ q ∧ OwP w' w.heap.size v2 l ∧ Below w.heap.size w w' := by
  have K := Lib.hid (each_c HP hl)
  obtain ⟨A, c, rfl, hlc, hC⟩ := HP.rd
  have c0 : w.cell? ⟨M, 0, none⟩ = some (.slice A l.length c) := X.cell 0
  clear HP hC
  go_enter Tryd.func7, Tryd.ntmps7
  go_wp2_with fail
  refine K.out.mono ?_
  rintro _ w1 ⟨q, v2, rfl, h1, h2, h3, h4⟩
  go_wp2_with fail
  go_ret
  exact ⟨q, v2, rfl, h1, h2, h3, h4⟩
end TP
end Go.Proofs.YtfaabbimbjegmaaDoor

set_option linter.unusedVariables false
set_option linter.unusedSimpArgs false
namespace Go.Proofs.YtfaabbimbjegmaaDoor
open Go Go.RowKit Go.Proofs.YtfaabbimbjegmaaDoor.PA Go.Proofs.YtfaabbimbjegmaaDoorW.PrintWords
namespace TP
def keyOf (x : V) : ByteArray := KB.B (KB.enc (KB.p32 x))
def okX (x : V) : Prop := KB.okV (KB.p32 x) = 0
def cutV (v : V) : V := ⟨v.f0.extract 0 (cutN v.f0.size 20), v.f1, v.f2⟩
instance (x : V) : Decidable (okX x) := inferInstanceAs (Decidable (_ = _))
def stepM (m : List Pr) (v : V) : List Pr := if okX (cutV v) then MP.put m (keyOf (cutV v)) (cutV v) else m
def mapOf (l : List V) : List Pr := l.foldl stepM []
theorem mapOf_snoc (l : List V) (v : V) : mapOf (l ++ [v]) = stepM (mapOf l) v := by
  unfold mapOf
  rw [List.foldl_append]
  rfl
/-- The map's pairs are in order, each under its value's key. -/
def Good (m : List Pr) : Prop := MP.Sorted m ∧ ∀ e ∈ m, okX e.f1 ∧ e.f0 = keyOf e.f1
theorem good_nil : Good [] := ⟨List.Pairwise.nil, fun e h => by simp at h⟩
theorem good_step {m : List Pr} (h : Good m) (v : V) : Good (stepM m v) := by
  unfold stepM
  split
  · rename_i hok
    exact ⟨MP.put_sorted h.1 _ _, MP.put_all h.2 ⟨hok, rfl⟩⟩
  · exact h
theorem step_length (m : List Pr) (v : V) : (stepM m v).length ≤ m.length + 1 := by
  unfold stepM
  split
  · exact MP.put_length _ _ _
  · omega
theorem mapOf_good (l : List V) : ∀ n, n ≤ l.length → Good (mapOf (l.take n)) ∧ (mapOf (l.take n)).length ≤ n := by
  intro n
  induction n with
  | zero => intro _; exact ⟨good_nil, by simp [mapOf]⟩
  | succ n ih =>
    intro hn
    obtain ⟨i1, i2⟩ := ih (by omega)
    rw [List.take_succ_eq_append_getElem (by omega), mapOf_snoc]
    exact ⟨good_step i1 _, Nat.le_trans (step_length _ _) (by omega)⟩
theorem key_size {x : V} (h : okX x) : (keyOf x).size ≤ 43 := by
  unfold keyOf
  rw [KB.B_size]
  exact KB.enc_length h
theorem good_keys {m : List Pr} (h : Good m) : ∀ p ∈ m, p.f0.size ≤ 64 := fun p hp => by
  obtain ⟨h1, h2⟩ := h.2 p hp
  rw [h2]
  exact Nat.le_trans (key_size h1) (by decide)
/-- A key that is there: its pair is the one that the search finds. -/
theorem good_there {m : List Pr} (h : Good m) {p : Pr} (hp : p ∈ m) : MP.there m p.f0 = true ∧ ∃ e, m[MP.place m p.f0]? = some e ∧ okX e.f1 ∧ p.f0 = keyOf e.f1 := by
  have ht := (MP.there_iff h.1).2 ⟨p, hp, rfl⟩
  obtain ⟨e, he, hk⟩ := MP.there_lt ht
  obtain ⟨h1, h2⟩ := h.2 e (List.mem_of_getElem? he)
  exact ⟨ht, e, he, h1, by rw [← h2, hk]⟩
theorem foldE_sub (l : List Pr) : (foldE l).Sublist (l.map fun p => kE p.f0) := by
  have key : ∀ n, n ≤ l.length → (foldE (l.take n)).Sublist ((l.take n).map fun p => kE p.f0) := by
    intro n
    induction n with
    | zero => intro _; simp [foldE]
    | succ n ih =>
      intro hn
      rw [List.take_succ_eq_append_getElem (by omega), foldE_snoc, List.map_append]
      unfold addE
      split
      · exact (ih (by omega)).append (List.Sublist.refl _)
      · exact (ih (by omega)).trans (List.sublist_append_left _ _)
  have := key l.length (Nat.le_refl _)
  rwa [List.take_length] at this
theorem foldE_sorted {m : List Pr} (h : Good m) : (foldE m).Pairwise fun a b => MP.lss a.f0 b.f0 = true := by
  refine List.Pairwise.sublist (foldE_sub m) ?_
  rw [List.pairwise_map]
  exact h.1
theorem foldE_lss {m : List Pr} (h : Good m) {i : Nat} {a b : E} (ha : (foldE m)[i]? = some a) (hb : (foldE m)[i + 1]? = some b) : MP.lss a.f0 b.f0 = true := by
  obtain ⟨h1, h2⟩ := List.getElem?_eq_some_iff.1 ha
  obtain ⟨h3, h4⟩ := List.getElem?_eq_some_iff.1 hb
  have := List.pairwise_iff_getElem.1 (foldE_sorted h) i (i + 1) h1 h3 (by omega)
  rw [h2, h4] at this
  exact this
theorem cb_neg1 : ∀ a b : List UInt8, Lib.compareBytes a b < 0 → Lib.compareBytes a b = -1
  | [], [], h => by simp [Lib.compareBytes] at h
  | [], _ :: _, _ => rfl
  | _ :: _, [], h => by simp [Lib.compareBytes] at h
  | x :: a, y :: b, h => by
    simp only [Lib.compareBytes] at h ⊢
    split
    · rfl
    · rename_i h1
      rw [if_neg h1] at h
      split
      · rename_i h2
        rw [if_pos h2] at h
        omega
      · rename_i h2
        rw [if_neg h2] at h
        exact cb_neg1 a b h
theorem cmpV_neg {v w : KB.PV} (h : KB.cmpV v w < 0) : KB.cmpV v w = -1 := by
  unfold KB.cmpV KB.cmpN at *
  split
  · rename_i h1
    rw [if_pos h1] at h
    split
    · rename_i h2
      rw [if_pos h2] at h
      exact cb_neg1 _ _ h
    · rename_i h2
      rw [if_neg h2] at h
      omega
  · rename_i h1
    rw [if_neg h1] at h
    split
    · rfl
    · rename_i h2
      rw [if_neg h2] at h
      split
      · rfl
      · rename_i h3
        rw [if_neg h3] at h
        split at h <;> omega
theorem key_list (x : V) : (keyOf x).data.toList = KB.enc (KB.p32 x) := KB.B_L _
theorem cmp_keys {x y : V} (hx : okX x) (hy : okX y) (h : MP.lss (keyOf x) (keyOf y) = true) : KB.cmpV (KB.p32 x) (KB.p32 y) = -1 := by
  have h1 := (MP.cmp_neg _ _).2 h
  rw [MP.toList_data, MP.toList_data, key_list, key_list] at h1
  have h2 := KB.cb_enc hx hy [] []
  rw [List.append_nil, List.append_nil] at h2
  rw [h2] at h1
  refine cmpV_neg ?_
  split at h1
  · simp [Lib.compareBytes] at h1
  · exact h1
theorem keycmp_c {x y : V} (hx : okX x) (hy : okX y) (h : MP.lss (keyOf x) (keyOf y) = true) (w : World) : Calls Tryd.prog 15 #[agV x, agV y] w fun e w' => e = .returned (.int .i64 (-1)) ∧ Below w.heap.size w w' := by
  obtain ⟨k, hk⟩ := (KB.compare_f (KB.p32 x) (KB.p32 y)).rounds
  rw [KB.s32_p32, KB.s32_p32, cmp_keys hx hy h] at hk
  exact keys_Compare.calls k x.f0 x.f1 x.f2 y.f0 y.f1 y.f2 _ w hk
theorem keyput_c {w : World} {b : Nat} {x : V} (X : Bx w b #[.string x.f0, .int .i64 x.f1, .bool x.f2] 32) : Calls Tryd.prog 5 #[.slice (some ⟨b, 0, none⟩) 1 1] w fun e w' => (∃ k r, e = .returned (.tuple #[.string k, .int .i64 r]) ∧ (okX x → k = keyOf x ∧ r = 0) ∧ (¬ okX x → r ≠ 0)) ∧ Below w.heap.size w w' := by
  obtain ⟨k, hk⟩ := (KB.put_f [x] (by simp)).rounds
  refine (keys_Put.calls k _ 1 [x] _ _ w (oneV X) (by simp) hk).mono ?_
  rintro e w' ⟨h1, h2⟩
  refine ⟨⟨_, _, h1, fun h => ?_, fun h => ?_⟩, h2⟩
  · unfold okX at h
    simp only [List.map_cons, List.map_nil, KB.putP, if_pos h, if_true, List.append_nil]
    exact ⟨rfl, trivial⟩
  · unfold okX at h
    simp only [List.map_cons, List.map_nil, KB.putP, if_neg h]
    exact h
theorem keyget_c {x : V} (hx : okX x) (w : World) : Calls Tryd.prog 13 #[.string (keyOf x)] w fun e w' => ∃ v, e = .returned (.tuple #[v, .int .i64 0]) ∧ RdV w' v [x] ∧ Below w.heap.size w w' := by
  have hs := key_size hx
  obtain ⟨k, hk⟩ := (KB.getF (keyOf x) (by omega)).rounds
  have hp : KB.putP [KB.p32 x] = (KB.enc (KB.p32 x), 0) := by
    have h := hx
    unfold okX at h
    simp only [KB.putP, if_pos h, if_true, List.append_nil]
  have hg : KB.getL (keyOf x).data.toList = ([KB.p32 x], 0) := by
    rw [key_list]
    have := KB.get_put [KB.p32 x] ((KB.enc (KB.p32 x)).length + 1) (by rw [hp]; exact Nat.lt_succ_self _) (by rw [hp])
    rw [hp] at this
    exact this
  have hr : KB.gres [] (KB.getL (keyOf x).data.toList) = ([x], 0) := by
    rw [hg]
    unfold KB.gres
    simp [KB.s32_p32]
  rw [hr] at hk
  refine (keys_Get.calls k (keyOf x) _ _ w hk).mono ?_
  rintro e w' ⟨v, rfl, hR, hb⟩
  obtain ⟨A, c, rfl, _, hC⟩ := Kd.R_reads hR
  exact ⟨_, rfl, ⟨A, c, rfl, hC⟩, hb⟩
end TP
end Go.Proofs.YtfaabbimbjegmaaDoor

set_option linter.unusedVariables false
set_option linter.unusedSimpArgs false
namespace Go.Proofs.YtfaabbimbjegmaaDoor
open Go Go.RowKit Go.Proofs.YtfaabbimbjegmaaDoor.PA Go.Proofs.YtfaabbimbjegmaaDoor.SB Go.Proofs.YtfaabbimbjegmaaDoorW.PrintWords
namespace TP
attribute [local go_sem] min_20
theorem addr0 (a : Addr) : a.add 0 = a := by cases a; rfl
theorem heap_size_alloc (w : World) (o : Obj) : (w.alloc o).heap.size = w.heap.size + 1 := by
  show (w.heap.push o).size = _
  exact Array.size_push _
abbrev pg0 : Value := .slice none 0 0
theorem fold_there {m : List Pr} (h : Good m) (i : Nat) (e : E) (he : (foldE m)[i]? = some e) : ∃ y, m[MP.place m e.f0]? = some y ∧ MP.there m e.f0 = true ∧ okX y.f1 ∧ e.f0 = keyOf y.f1 := by
  have hm := (foldE_sub m).subset (List.mem_of_getElem? he)
  rw [List.mem_map] at hm
  obtain ⟨p, hp, rfl⟩ := hm
  obtain ⟨h1, y, h2, h3, h4⟩ := good_there h hp
  exact ⟨y, h2, h1, h3, h4⟩
/-- Behind some rounds: the map holds the values so far; the page is empty. -/
def LoR (w : World) (M P base : Nat) (l : List V) (v : Value) (wr : World) : Prop :=
  ∃ (i : Nat) (sv : Value), i ≤ cutN l.length 12 ∧ v = .int .i64 i ∧ Bx wr M #[sv] 26 ∧ OwP wr base sv (mapOf (l.take i)) ∧ Bx wr P (pgA pg0) 29 ∧ Below w.heap.size w wr ∧ base ≤ wr.heap.size
/-- Behind some rounds of the second loop: the last value's key is ahead of the next entry's. -/
def LpR (w : World) (LB : Nat) (es : List E) (v : Value) (wr : World) : Prop :=
  ∃ (i : Nat) (x : V), i ≤ es.length ∧ v = .int .i64 i ∧ Bx wr LB #[.string x.f0, .int .i64 x.f1, .bool x.f2] 32 ∧ (0 < i → okX x ∧ ∀ e, es[i]? = some e → MP.lss (keyOf x) e.f0 = true) ∧ Below LB w wr
set_option maxHeartbeats 8000000 in
set_option maxRecDepth 100000 in
theorem ordered_c {w : World} {s : Value} {l : List V} (hl : l.length ≤ 9223372036854775807) (hs : RdV w s l) (hL : LaidT w) :
    Calls Tryd.prog 3 #[s] w fun e w' => e = .returned (.bool true) ∧ Below w.heap.size w w' := by
  have HLd := Lib.hid hL
  clear hL
  obtain ⟨A, c, rfl, hC⟩ := hs
  go_enter Tryd.func3, Tryd.ntmps3
  go_wp2_with fail
  refine (orders_c HLd.out).mono ?_
  rintro _ w1 ⟨rfl, B1⟩
  go_wp2_with fail
  have XM := bx_new w1 #[.slice none 0 0] 26
  have B2 : Below w.heap.size w (w1.alloc (.cells #[.slice none 0 0] 26)) := B1.alloc B1.size _
  have hM := B1.size
  have hPM : (w1.alloc (.cells #[.slice none 0 0] 26)).heap.size = w1.heap.size + 1 := heap_size_alloc _ _
  generalize w1.heap.size = M at *
  generalize World.alloc w1 _ = w2 at XM B2 hPM ⊢
  have XP := bx_new w2 (pgA pg0) 29
  have XM3 := bx_old XM (.cells (pgA pg0) 29)
  have B3 : Below w.heap.size w (w2.alloc (.cells (pgA pg0) 29)) := B2.alloc B2.size _
  have hMP := XM.lt
  have hP := B2.size
  generalize w2.heap.size = P at *
  subst hPM
  generalize World.alloc w2 _ = w3 at XP XM3 B3 ⊢
  obtain ⟨base, hbase⟩ : ∃ base, base = w3.heap.size := ⟨_, rfl⟩
  have hPb : M + 1 < base := by rw [hbase]; exact XP.lt
  have hbw : w.heap.size ≤ base := by rw [hbase]; exact B3.size
  go_loopw [5] (fun v wr => LoR w M (M + 1) base l v wr) (fun v _ => cutN l.length 12 - (intOf v).toNat)
  case atStart => exact ⟨0, _, Nat.zero_le _, rfl, XM3, own_nil _ _ _ _, XP, B3, Nat.le_of_eq hbase⟩
  case round =>
    clear XM XM3 XP B1 B2 B3 hbase
    obtain ⟨i, sv, hi, rfl, Xm, hO, Xp, hB, hws⟩ := hrel
    have hc12 := cutN_le' l.length 12
    have hcl := cutN_le l.length 12
    have HB := Lib.hid hB
    have HO := Lib.hid hO
    by_cases hlt : i < l.length
    · have hlt' : (i : Int) < (l.length : Int) := by omega
      have hi0 : (0 : Int) ≤ (i : Int) := by omega
      by_cases h12 : i < 12
      · have h12' : (i : Int) < 12 := by omega
        obtain ⟨e, he⟩ : ∃ y, l[i]? = some y := ⟨l[i], by simp [hlt]⟩
        obtain ⟨ad, hA, a0, a1, a2⟩ := at_T32 (Kd.C_below hC hB) (i : Int) hi0 hlt'
        rw [rdV he, Int.toNat_natCast] at a0 a1 a2
        subst hA
        have HE := Lib.hid he
        have hck : ((cutN e.f0.size 20 : Nat) : Int) ≤ (e.f0.size : Int) := by have := cutN_le e.f0.size 20; omega
        have hck0 : (0 : Int) ≤ ((cutN e.f0.size 20 : Nat) : Int) := by omega
        clear he hO hB
        go_upto_region 8 with (fail)
        as_aux_lemma =>
        refine Ty.wp_region_ty 25 (by kernel_rfl) (by kernel_rfl) ?_
        simp only [List.take_succ_cons, List.take_zero, List.drop_succ_cons, List.drop_zero]
        iterate 24 (
          refine Ty.pure_ ?_ (fun _ => by rfl) (fun vs wv hb => ?_) ?_
          rotate_left
          · have hb : Below wr.heap.size wr wv := (Below.refl wr.heap.size wr).drew.trans hb
            have a0 := old hb a0
            have a1 := old hb a1
            have a2 := old hb a2
            go_simp
            first | done | rfl
          simp only [Act.put, List.setIfInBounds_toArray, List.set_cons_zero, List.set_cons_succ, List.nil_append, List.cons_append, List.length_nil, List.length_cons, Nat.zero_add]
          )
        refine Ty.call_ (fun v w' => ∃ b, v = .pointer (some ⟨b, 0, none⟩) ∧ wr.heap.size ≤ b ∧ Bx w' b #[.string ⟨#[]⟩, .int .i64 0, .bool false] 32) (fun v w w' hb ⟨b, h1, h2, h3⟩ => ⟨b, h1, h2, h3.below hb h3.lt⟩) (fun _ => by rfl) (fun vs wv hb hd => ?_) ?_
        · unfold Ty.tyAt
          go_simp
          exact ⟨(Below.refl _ _).alloc (Nat.le_refl _) _, wv.heap.size, rfl, hb.size, bx_new _ _ _⟩
        simp only [Act.put, List.setIfInBounds_toArray, List.set_cons_zero, List.set_cons_succ, List.nil_append, List.cons_append, List.length_nil, List.length_cons, Nat.zero_add]
        intro vs wz hbz hG hAp
        clear hAp
        obtain ⟨bn, e7, l7, x7⟩ := hG 24 _ rfl
        clear hG
        simp only [e7]
        clear e7 vs
        have hbz : Below wr.heap.size wr wz := (Below.refl wr.heap.size wr).drew.trans hbz
        obtain ⟨z0, z1, z2⟩ := x7.three
        have f0 := x7.free 0
        have f1 := x7.free 1
        have f2 := x7.free 2
        go_upto_region 9 with (fail)
        have X9 : Bx (((wz.setCell ⟨bn, 0, none⟩ (.string (e.f0.extract 0 (cutN e.f0.size 20)))).setCell ⟨bn, 1, none⟩ (.int .i64 e.f1)).setCell ⟨bn, 2, none⟩ (.bool e.f2)) bn #[.string (cutV e).f0, .int .i64 (cutV e).f1, .bool (cutV e).f2] 32 := ((x7.set 0 (.string (e.f0.extract 0 (cutN e.f0.size 20)))).set 1 (.int .i64 e.f1)).set 2 (.bool e.f2)
        have B9 : Below wr.heap.size wr (((wz.setCell ⟨bn, 0, none⟩ (.string (e.f0.extract 0 (cutN e.f0.size 20)))).setCell ⟨bn, 1, none⟩ (.int .i64 e.f1)).setCell ⟨bn, 2, none⟩ (.bool e.f2)) := ((hbz.setCell (p := ⟨bn, 0, none⟩) l7 _).setCell (p := ⟨bn, 1, none⟩) l7 _).setCell (p := ⟨bn, 2, none⟩) l7 _
        generalize World.setCell _ _ _ = w9 at X9 B9 ⊢
        have Xm9 := Xm.below B9 Xm.lt
        have Xp9 := Xp.below B9 Xp.lt
        have HO9 := Lib.hid (HO.out.below B9)
        have HX : Hid (mapOf (l.take (i + 1)) = if okX (cutV e) then MP.put (mapOf (l.take i)) (keyOf (cutV e)) (cutV e) else mapOf (l.take i)) := by
          obtain ⟨h1, h2⟩ := List.getElem?_eq_some_iff.1 HE.out
          unfold Hid
          rw [List.take_succ_eq_append_getElem h1, mapOf_snoc, h2]
          rfl
        have HG := Lib.hid (mapOf_good l i (by omega))
        have hB9 := HB.out.trans (B9.mono HB.out.size)
        have hws9 := Nat.le_trans hws B9.size
        have hbn9 : wr.heap.size ≤ bn := l7
        clear Xm Xp HO x7 hbz z0 z1 z2 f0 f1 f2 a0 a1 a2 B9 hck hck0
        generalize cutV e = x at *
        obtain ⟨z0, z1, z2⟩ := X9.three
        go_wp2_with fail
        have X10 := bx_new w9 #[.string x.f0, .int .i64 x.f1, .bool x.f2] 32
        have B10 : Below w9.heap.size w9 (w9.alloc (.cells #[.string x.f0, .int .i64 x.f1, .bool x.f2] 32)) := (Below.refl _ _).alloc (Nat.le_refl _) _
        generalize World.alloc w9 _ = w10 at X10 B10 ⊢
        refine (keyput_c X10).mono ?_
        rintro _ w11 ⟨⟨k, r, rfl, hk1, hk2⟩, hb11⟩
        have B11 : Below w9.heap.size w9 w11 := B10.trans (hb11.mono B10.size)
        have X11 := X9.below B11 X9.lt
        have Xm11 := Xm9.below B11 Xm9.lt
        have Xp11 := Xp9.below B11 Xp9.lt
        have HO11 := Lib.hid (HO9.out.below B11)
        have hB11 := hB9.trans (B11.mono hB9.size)
        have hws11 := Nat.le_trans hws9 B11.size
        clear Xm9 Xp9 HO9 X9 z0 z1 z2 X10 B10 hb11 B11
        obtain ⟨y0, y1, y2⟩ := X11.three
        by_cases hok : okX x
        · obtain ⟨rfl, rfl⟩ := hk1 hok
          have hks : ((keyOf x).size : Int) ≤ 50 := by have := key_size hok; omega
          have hks' : ¬ (50 : Int) < ((keyOf x).size : Int) := by omega
          rw [if_pos hok] at HX
          clear hk1 hk2
          go_wp2_with fail
          refine (set_c (keyOf x) x Xm11 HO11.out (by omega) hws11 HG.out.1.1 (by have := HG.out.2; omega)).mono ?_
          rintro _ w12 ⟨rfl, v', Xm12, HO12, hb12⟩
          have Xp12 := hb12.bx Xp11 hPb (by omega)
          have hB12 := hB11.trans (hb12.below (D := w.heap.size) hM hbw)
          have hws12 := Nat.le_trans hws11 hb12.size
          have HO13 := Lib.hid HO12
          clear hb12 HO12
          go_wp2_with fail
          refine ⟨⟨i + 1, v', by unfold cutN; omega, by go_num, Xm12, by rw [HX.out]; exact HO13.out, Xp12, hB12, hws12⟩, ?_⟩
          simp only [intOf]
          unfold cutN
          omega
        · have hr := hk2 hok
          rw [if_neg hok] at HX
          clear hk1 hk2
          go_wp2_with fail
          refine ⟨⟨i + 1, sv, by unfold cutN; omega, by go_num, Xm11, by rw [HX.out]; exact HO11.out, Xp11, hB11, hws11⟩, ?_⟩
          simp only [intOf]
          unfold cutN
          omega
      · have h12' : ¬ (i : Int) < 12 := by omega
        have hin : i ≤ l.length := by omega
        have hi12 : i ≤ 12 := by omega
        have HG := Lib.hid (mapOf_good l i hin)
        clear hB hO hlt hc12 hcl hi hl hC
        generalize mapOf (l.take i) = m at *
        have hml : m.length ≤ 12 := Nat.le_trans HG.out.2 hi12
        have HGD := Lib.hid HG.out.1
        clear HG hi12 hin
        go_upto_region 12 with (fail)
        as_aux_lemma =>
        go_wp2_with fail
        refine (all_c Xm HO.out (by omega)).mono ?_
        rintro _ w12 ⟨q, v2, rfl, Xq, hq, HO2, hb12⟩
        have X12 := Xp.below hb12 Xp.lt
        have Xm12 := Xm.below hb12 Xm.lt
        have HOm12 := Lib.hid (HO.out.below hb12)
        have hB12 := HB.out.trans (hb12.mono HB.out.size)
        have hpl := Xp.lt
        have hwl := hb12.size
        have HOq := Lib.hid HO2
        clear HO2 Xm Xp HO
        go_wp2_with fail
        have HK := Lib.hid (good_keys HGD.out)
        have HI := Lib.hid (foldE_inv m (by omega) HK.out)
        refine (each1_c (base := w12.heap.size) X12 (Kd.R_nil _ _ _ _ _) Xq HOq.out (fun g hg => ⟨own_lt HOq.out g hg, by have := own_base HOq.out g hg; omega⟩) X12.lt (Nat.le_refl _) (by omega) HK.out).mono ?_
        rintro _ w13 ⟨rfl, s', X13, HO13, but13⟩
        have B13 : Below w.heap.size w w13 := hB12.trans (but13.below (D := w.heap.size) hP hB12.size)
        have Xm13 := but13.bx Xm12 Xm12.lt (by omega)
        have HOm13 := Lib.hid (HOm12.out.but but13 (fun g hg => ⟨own_lt HOm12.out g hg, by have := own_base HOm12.out g hg; omega⟩))
        have HOe := Lib.hid HO13
        clear HO13 but13 Xm12 HOm12 X12 hB12 Xq HOq HK hq hb12 hwl
        have HD := Lib.hid (fold_there HGD.out)
        have HLs := Lib.hid (fun (i : Nat) (a b : E) (ha : (foldE m)[i]? = some a) (hb : (foldE m)[i + 1]? = some b) => foldE_lss HGD.out ha hb)
        generalize foldE m = es at *
        have h9 : sizes es ≤ 489 := HI.out.1
        have hel : es.length ≤ 100 := by have := HI.out.2.1; omega
        as_aux_lemma =>
        obtain ⟨p0, p1, p2, p3, p4, p5⟩ := X13.six
        go_wp2_with fail
        refine (encode_c 0 3 (by decide) (by decide) HI.out.2.2.2 h9 (OwE.rd HOe.out) (laid_below HLd.out B13)).mono ?_
        rintro _ w14 ⟨rfl, hb14⟩
        have B14 := B13.trans (hb14.mono B13.size)
        have X14 := X13.below hb14 X13.lt
        have Xm14 := Xm13.below hb14 Xm13.lt
        have HOm14 := Lib.hid (HOm13.out.below hb14)
        obtain ⟨Ap, cp, rfl, _⟩ := OwE.rd HOe.out
        clear p0 p1 p2 p3 p4 p5 X13 Xm13 HOm13 HOe hb14
        as_aux_lemma =>
        go_wp2_with fail
        refine (decode_c 0 3 (by decide) (by decide) HI.out.2.2.2 h9 (laid_below HLd.out B14)).mono ?_
        rintro _ w15 ⟨s5, rfl, HO5, hb15⟩
        have B15 := B14.trans (hb15.mono B14.size)
        have X15 := X14.below hb15 X14.lt
        have Xm15 := Xm14.below hb15 Xm14.lt
        have HOm15 := Lib.hid (HOm14.out.below hb15)
        have HE5 := Lib.hid (OwE.rd HO5)
        obtain ⟨Aq, cq, rfl, _⟩ := OwE.rd HO5
        clear X14 Xm14 HOm14 hb15 HO5 B14
        unfold pgV
        go_upto_region 15 with (fail)
        have XQ := bx_new w15 #[.int .i64 0, .int .i64 3, .int .i64 0, .int .i64 0, .string ⟨#[]⟩, .slice Aq es.length cq] 29
        have BQ : Below w15.heap.size w15 (w15.alloc (.cells #[.int .i64 0, .int .i64 3, .int .i64 0, .int .i64 0, .string ⟨#[]⟩, .slice Aq es.length cq] 29)) := (Below.refl _ _).alloc (Nat.le_refl _) _
        generalize World.alloc w15 _ = w16 at XQ BQ ⊢
        have X16 : Bx w16 (M + 1) (pgA (.slice Ap es.length cp)) 29 := X15.below BQ (by have := X15.lt; omega)
        have Xm16 := Xm15.below BQ (by have := Xm15.lt; omega)
        have HOm16 := Lib.hid (HOm15.out.below BQ)
        have HE16 := Lib.hid (HE5.out.below BQ)
        have B16 := B15.trans (BQ.mono B15.size)
        clear X15 Xm15 HOm15 HE5 BQ B15
        generalize w15.heap.size = Q at *
        obtain ⟨_, _, _, _, _, p5⟩ := X16.six
        obtain ⟨_, _, _, _, _, q5⟩ := XQ.six
        go_upto_region 18 with (fail)
        have XL := bx_new w16 #[.string ⟨#[]⟩, .int .i64 0, .bool false] 32
        have BL : Below w16.heap.size w16 (w16.alloc (.cells #[.string ⟨#[]⟩, .int .i64 0, .bool false] 32)) := (Below.refl _ _).alloc (Nat.le_refl _) _
        generalize World.alloc w16 _ = w17 at XL BL ⊢
        clear p5 q5 X16
        obtain ⟨LB, hLB⟩ : ∃ LB, LB = w16.heap.size := ⟨_, rfl⟩
        rw [← hLB] at XL BL
        rw [← hLB]
        as_aux_lemma =>
        go_wp2_with fail
        go_loopw [14] (fun v wr => LpR w16 LB es v wr) (fun v _ => es.length - (intOf v).toNat)
        case atStart => exact ⟨0, z32, Nat.zero_le _, rfl, XL, fun h => absurd h (Nat.lt_irrefl 0), BL⟩
        case round =>
          clear XL BL
          have HLB := Lib.hid hLB
          clear hLB
          obtain ⟨i, x, hi, rfl, Xl, hx, hB⟩ := hrel
          have HX := Lib.hid hx
          have hB' : Below w16.heap.size w16 wr := HLB.out ▸ hB
          have HB := Lib.hid hB
          have XQr := XQ.below hB' XQ.lt
          have Xmr := Xm16.below hB' Xm16.lt
          have HOr := Lib.hid (HOm16.out.below hB')
          have HEr := Lib.hid (HE16.out.below hB')
          clear hx hB hB'
          obtain ⟨_, _, _, _, _, p5⟩ := XQr.six
          by_cases hlt : i < es.length
          · have hlt' : (i : Int) < (es.length : Int) := by omega
            have hi0 : (0 : Int) ≤ (i : Int) := by omega
            obtain ⟨e, he⟩ : ∃ y, es[i]? = some y := ⟨es[i], by simp [hlt]⟩
            obtain ⟨Ar, cr, hv, _, _, hC⟩ := HEr.out
            obtain ⟨rfl, rfl⟩ : Aq = Ar ∧ cq = cr := by injection hv with h1 _ h3; exact ⟨h1, h3⟩
            obtain ⟨ad, hA, a0, a1, a2⟩ := at_T43 hC (i : Int) hi0 hlt'
            rw [rdE he, Int.toNat_natCast] at a0 a1 a2
            subst hA
            obtain ⟨⟨yk, z⟩, hy, ht, hok, hk⟩ := HD.out i e he
            rw [hk] at a0 hy ht
            have HEi := Lib.hid he
            have HT := Lib.hid ht
            have HY := Lib.hid hy
            have HOK := Lib.hid hok
            clear hC hv he hy ht hok
            go_wp2_with fail
            refine (keyget_c HOK.out wr).mono ?_
            rintro _ u1 ⟨v1, rfl, hv1, hb1⟩
            have HB1 := Lib.hid (HB.out.trans (hb1.mono (HLB.out ▸ HB.out.size : LB ≤ wr.heap.size)))
            have Xl1 := Xl.below hb1 Xl.lt
            have XQ1 := XQr.below hb1 XQr.lt
            have Xm1 := Xmr.below hb1 Xmr.lt
            have HO1 := Lib.hid (HOr.out.below hb1)
            have HV1 := Lib.hid hv1
            have b0 := old hb1 a0
            obtain ⟨A1, c1, rfl, _⟩ := hv1
            obtain ⟨_, _, _, _, _, q5⟩ := XQ1.six
            clear p5 a0 a1 a2 hb1 Xl XQr Xmr HOr HEr HB
            go_wp2_with fail
            refine (mget_c (e := ⟨yk, z⟩) (keyOf z) Xm1 HO1.out HGD.out.1 (by omega) HT.out HY.out).mono ?_
            rintro _ u2 ⟨rfl, hb2⟩
            have HB2 := Lib.hid (HB1.out.trans (hb2.mono (HLB.out ▸ HB1.out.size : LB ≤ u1.heap.size)))
            have Xl2 := Xl1.below hb2 Xl1.lt
            have HV2 := Lib.hid (HV1.out.below hb2)
            clear q5 b0 hb2 Xl1 XQ1 Xm1 HO1 HV1 HB1 HT HY
            go_upto_region 23 with (fail)
            have X3 := bx_new u2 #[.string z.f0, .int .i64 z.f1, .bool z.f2] 32
            have B3 : Below u2.heap.size u2 (u2.alloc (.cells #[.string z.f0, .int .i64 z.f1, .bool z.f2] 32)) := (Below.refl _ _).alloc (Nat.le_refl _) _
            generalize World.alloc u2 _ = u3 at X3 B3 ⊢
            have HB3 := Lib.hid (HB2.out.trans (B3.mono (HLB.out ▸ HB2.out.size : LB ≤ u2.heap.size)))
            have Xl3 := Xl2.below B3 Xl2.lt
            have HV3 := Lib.hid (HV2.out.below B3)
            generalize u2.heap.size = V at *
            clear Xl2 HV2 B3 HB2
            obtain ⟨Av, cv, hv, hC⟩ := HV3.out
            obtain ⟨rfl, rfl⟩ : A1 = Av ∧ c1 = cv := by injection hv with h1 _ h3; exact ⟨h1, h3⟩
            obtain ⟨av, hAv, c0, c1', c2⟩ := at_T32 hC 0 (by decide) (by simp)
            have c1 := c1'
            subst hAv
            simp only [show rd_T32 [z] 0 = z from rfl, Int.toNat_zero, Nat.zero_mul, addr0] at c0 c1 c2
            obtain ⟨d0, d1, d2⟩ := X3.three
            obtain ⟨l0, l1, l2⟩ := Xl3.three
            clear hC hv c1'
            rcases Nat.eq_zero_or_pos i with h0 | h0
            · have h0' : ¬ (0 : Int) < (i : Int) := by omega
              as_aux_lemma =>
              refine wp_region_quiet (C := fun w' => Below u3.heap.size u3 w') (by kernel_rfl) (by kernel_rfl) (Below.refl _ _).drew ?_
              simp only [List.toList_toArray]
              repeat (first
                | go_big_quiet_skip
                | (go_big_quiet_want
                   refine quiet_of (v := ?_) (fun wv hwv => ?_) ?_
                   rotate_left
                   · have q0 := old hwv c0
                     have q1 := old hwv c1
                     have q2 := old hwv c2
                     have q3 := old hwv d0
                     have q4 := old hwv d1
                     have q5 := old hwv d2
                     have q6 := old hwv l0
                     have q7 := old hwv l1
                     have q8 := old hwv l2
                     go_simp
                     first | done | ((with_reducible refine (K1 wv hwv).mono ?_); rintro _ _ ⟨rfl, hb⟩; (refine ⟨?_, hwv.trans (hb.mono hwv.size)⟩; rfl)) | rfl | exact ⟨rfl, rfl⟩
                   (try simp only [Act.put, List.setIfInBounds_toArray, List.set_cons_zero, List.set_cons_succ])
                   go_big_quiet_on))
              refine wpQuiet_nil ?_
              intro u4 hu4
              have HB4 := Lib.hid (HB3.out.trans (hu4.mono (Nat.le_of_lt Xl3.lt)))
              have Xl4 := Xl3.below hu4 Xl3.lt
              have e0 := old hu4 c0
              have e1 := old hu4 c1
              have e2 := old hu4 c2
              have f0 := Xl4.free 0
              have f1 := Xl4.free 1
              have f2 := Xl4.free 2
              obtain ⟨m0, m1, m2⟩ := Xl4.three
              clear c0 c1 c2 d0 d1 d2 l0 l1 l2 hu4 X3 Xl3 HV3 HB3
              have HX5 : Hid (Bx (((u4.setCell ⟨LB, 0, none⟩ (.string z.f0)).setCell ⟨LB, 1, none⟩ (.int .i64 z.f1)).setCell ⟨LB, 2, none⟩ (.bool z.f2)) LB #[.string z.f0, .int .i64 z.f1, .bool z.f2] 32) := ((Xl4.set 0 (.string z.f0)).set 1 (.int .i64 z.f1)).set 2 (.bool z.f2)
              have HB5 : Hid (Below LB w16 (((u4.setCell ⟨LB, 0, none⟩ (.string z.f0)).setCell ⟨LB, 1, none⟩ (.int .i64 z.f1)).setCell ⟨LB, 2, none⟩ (.bool z.f2))) := ((HB4.out.setCell (p := ⟨LB, 0, none⟩) (Nat.le_refl _) _).setCell (p := ⟨LB, 1, none⟩) (Nat.le_refl _) _).setCell (p := ⟨LB, 2, none⟩) (Nat.le_refl _) _
              go_wp2_with fail
              refine ⟨⟨i + 1, z, by omega, by go_num, HX5.out, fun _ => ⟨HOK.out, fun e' he' => ?_⟩, HB5.out⟩, ?_⟩
              · rw [← hk]
                exact HLs.out i e e' HEi.out he'
              · simp only [intOf]
                omega
            · obtain ⟨hx1, hx2⟩ := HX.out h0
              have h0' : (0 : Int) < (i : Int) := by omega
              have hls := hx2 e HEi.out
              rw [hk] at hls
              have K1 := fun (wv : World) (hwv : Below u3.heap.size u3 wv) => keycmp_c hx1 HOK.out hls wv
              as_aux_lemma =>
              refine wp_region_quiet (C := fun w' => Below u3.heap.size u3 w') (by kernel_rfl) (by kernel_rfl) (Below.refl _ _).drew ?_
              simp only [List.toList_toArray]
              repeat (first
                | go_big_quiet_skip
                | (go_big_quiet_want
                   refine quiet_of (v := ?_) (fun wv hwv => ?_) ?_
                   rotate_left
                   · have q0 := old hwv c0
                     have q1 := old hwv c1
                     have q2 := old hwv c2
                     have q3 := old hwv d0
                     have q4 := old hwv d1
                     have q5 := old hwv d2
                     have q6 := old hwv l0
                     have q7 := old hwv l1
                     have q8 := old hwv l2
                     go_simp
                     first | done | ((with_reducible refine (K1 wv hwv).mono ?_); rintro _ _ ⟨rfl, hb⟩; (refine ⟨?_, hwv.trans (hb.mono hwv.size)⟩; rfl)) | rfl | exact ⟨rfl, rfl⟩
                   (try simp only [Act.put, List.setIfInBounds_toArray, List.set_cons_zero, List.set_cons_succ])
                   go_big_quiet_on))
              refine wpQuiet_nil ?_
              intro u4 hu4
              have HB4 := Lib.hid (HB3.out.trans (hu4.mono (Nat.le_of_lt Xl3.lt)))
              have Xl4 := Xl3.below hu4 Xl3.lt
              have e0 := old hu4 c0
              have e1 := old hu4 c1
              have e2 := old hu4 c2
              have f0 := Xl4.free 0
              have f1 := Xl4.free 1
              have f2 := Xl4.free 2
              obtain ⟨m0, m1, m2⟩ := Xl4.three
              clear c0 c1 c2 d0 d1 d2 l0 l1 l2 hu4 X3 Xl3 HV3 HB3
              have HX5 : Hid (Bx (((u4.setCell ⟨LB, 0, none⟩ (.string z.f0)).setCell ⟨LB, 1, none⟩ (.int .i64 z.f1)).setCell ⟨LB, 2, none⟩ (.bool z.f2)) LB #[.string z.f0, .int .i64 z.f1, .bool z.f2] 32) := ((Xl4.set 0 (.string z.f0)).set 1 (.int .i64 z.f1)).set 2 (.bool z.f2)
              have HB5 : Hid (Below LB w16 (((u4.setCell ⟨LB, 0, none⟩ (.string z.f0)).setCell ⟨LB, 1, none⟩ (.int .i64 z.f1)).setCell ⟨LB, 2, none⟩ (.bool z.f2))) := ((HB4.out.setCell (p := ⟨LB, 0, none⟩) (Nat.le_refl _) _).setCell (p := ⟨LB, 1, none⟩) (Nat.le_refl _) _).setCell (p := ⟨LB, 2, none⟩) (Nat.le_refl _) _
              go_wp2_with fail
              refine ⟨⟨i + 1, z, by omega, by go_num, HX5.out, fun _ => ⟨HOK.out, fun e' he' => ?_⟩, HB5.out⟩, ?_⟩
              · rw [← hk]
                exact HLs.out i e e' HEi.out he'
              · simp only [intOf]
                omega
          · have hlt' : ¬ (i : Int) < (es.length : Int) := by omega
            go_wp2_with fail
            go_ret
            exact ⟨rfl, B16.trans (HB.out.mono (HLB.out ▸ B16.size : w.heap.size ≤ LB))⟩
    · have hlt' : ¬ (i : Int) < (l.length : Int) := by omega
      have hin : i ≤ l.length := by omega
      have hi12 : i ≤ 12 := by omega
      have HG := Lib.hid (mapOf_good l i hin)
      clear hB hO hlt hc12 hcl hi hl hC
      generalize mapOf (l.take i) = m at *
      have hml : m.length ≤ 12 := Nat.le_trans HG.out.2 hi12
      have HGD := Lib.hid HG.out.1
      clear HG hi12 hin
      go_upto_region 12 with (fail)
      as_aux_lemma =>
      go_wp2_with fail
      refine (all_c Xm HO.out (by omega)).mono ?_
      rintro _ w12 ⟨q, v2, rfl, Xq, hq, HO2, hb12⟩
      have X12 := Xp.below hb12 Xp.lt
      have Xm12 := Xm.below hb12 Xm.lt
      have HOm12 := Lib.hid (HO.out.below hb12)
      have hB12 := HB.out.trans (hb12.mono HB.out.size)
      have hpl := Xp.lt
      have hwl := hb12.size
      have HOq := Lib.hid HO2
      clear HO2 Xm Xp HO
      go_wp2_with fail
      have HK := Lib.hid (good_keys HGD.out)
      have HI := Lib.hid (foldE_inv m (by omega) HK.out)
      refine (each1_c (base := w12.heap.size) X12 (Kd.R_nil _ _ _ _ _) Xq HOq.out (fun g hg => ⟨own_lt HOq.out g hg, by have := own_base HOq.out g hg; omega⟩) X12.lt (Nat.le_refl _) (by omega) HK.out).mono ?_
      rintro _ w13 ⟨rfl, s', X13, HO13, but13⟩
      have B13 : Below w.heap.size w w13 := hB12.trans (but13.below (D := w.heap.size) hP hB12.size)
      have Xm13 := but13.bx Xm12 Xm12.lt (by omega)
      have HOm13 := Lib.hid (HOm12.out.but but13 (fun g hg => ⟨own_lt HOm12.out g hg, by have := own_base HOm12.out g hg; omega⟩))
      have HOe := Lib.hid HO13
      clear HO13 but13 Xm12 HOm12 X12 hB12 Xq HOq HK hq hb12 hwl
      have HD := Lib.hid (fold_there HGD.out)
      have HLs := Lib.hid (fun (i : Nat) (a b : E) (ha : (foldE m)[i]? = some a) (hb : (foldE m)[i + 1]? = some b) => foldE_lss HGD.out ha hb)
      generalize foldE m = es at *
      have h9 : sizes es ≤ 489 := HI.out.1
      have hel : es.length ≤ 100 := by have := HI.out.2.1; omega
      as_aux_lemma =>
      obtain ⟨p0, p1, p2, p3, p4, p5⟩ := X13.six
      go_wp2_with fail
      refine (encode_c 0 3 (by decide) (by decide) HI.out.2.2.2 h9 (OwE.rd HOe.out) (laid_below HLd.out B13)).mono ?_
      rintro _ w14 ⟨rfl, hb14⟩
      have B14 := B13.trans (hb14.mono B13.size)
      have X14 := X13.below hb14 X13.lt
      have Xm14 := Xm13.below hb14 Xm13.lt
      have HOm14 := Lib.hid (HOm13.out.below hb14)
      obtain ⟨Ap, cp, rfl, _⟩ := OwE.rd HOe.out
      clear p0 p1 p2 p3 p4 p5 X13 Xm13 HOm13 HOe hb14
      as_aux_lemma =>
      go_wp2_with fail
      refine (decode_c 0 3 (by decide) (by decide) HI.out.2.2.2 h9 (laid_below HLd.out B14)).mono ?_
      rintro _ w15 ⟨s5, rfl, HO5, hb15⟩
      have B15 := B14.trans (hb15.mono B14.size)
      have X15 := X14.below hb15 X14.lt
      have Xm15 := Xm14.below hb15 Xm14.lt
      have HOm15 := Lib.hid (HOm14.out.below hb15)
      have HE5 := Lib.hid (OwE.rd HO5)
      obtain ⟨Aq, cq, rfl, _⟩ := OwE.rd HO5
      clear X14 Xm14 HOm14 hb15 HO5 B14
      unfold pgV
      go_upto_region 15 with (fail)
      have XQ := bx_new w15 #[.int .i64 0, .int .i64 3, .int .i64 0, .int .i64 0, .string ⟨#[]⟩, .slice Aq es.length cq] 29
      have BQ : Below w15.heap.size w15 (w15.alloc (.cells #[.int .i64 0, .int .i64 3, .int .i64 0, .int .i64 0, .string ⟨#[]⟩, .slice Aq es.length cq] 29)) := (Below.refl _ _).alloc (Nat.le_refl _) _
      generalize World.alloc w15 _ = w16 at XQ BQ ⊢
      have X16 : Bx w16 (M + 1) (pgA (.slice Ap es.length cp)) 29 := X15.below BQ (by have := X15.lt; omega)
      have Xm16 := Xm15.below BQ (by have := Xm15.lt; omega)
      have HOm16 := Lib.hid (HOm15.out.below BQ)
      have HE16 := Lib.hid (HE5.out.below BQ)
      have B16 := B15.trans (BQ.mono B15.size)
      clear X15 Xm15 HOm15 HE5 BQ B15
      generalize w15.heap.size = Q at *
      obtain ⟨_, _, _, _, _, p5⟩ := X16.six
      obtain ⟨_, _, _, _, _, q5⟩ := XQ.six
      go_upto_region 18 with (fail)
      have XL := bx_new w16 #[.string ⟨#[]⟩, .int .i64 0, .bool false] 32
      have BL : Below w16.heap.size w16 (w16.alloc (.cells #[.string ⟨#[]⟩, .int .i64 0, .bool false] 32)) := (Below.refl _ _).alloc (Nat.le_refl _) _
      generalize World.alloc w16 _ = w17 at XL BL ⊢
      clear p5 q5 X16
      obtain ⟨LB, hLB⟩ : ∃ LB, LB = w16.heap.size := ⟨_, rfl⟩
      rw [← hLB] at XL BL
      rw [← hLB]
      as_aux_lemma =>
      go_wp2_with fail
      go_loopw [14] (fun v wr => LpR w16 LB es v wr) (fun v _ => es.length - (intOf v).toNat)
      case atStart => exact ⟨0, z32, Nat.zero_le _, rfl, XL, fun h => absurd h (Nat.lt_irrefl 0), BL⟩
      case round =>
        clear XL BL
        have HLB := Lib.hid hLB
        clear hLB
        obtain ⟨i, x, hi, rfl, Xl, hx, hB⟩ := hrel
        have HX := Lib.hid hx
        have hB' : Below w16.heap.size w16 wr := HLB.out ▸ hB
        have HB := Lib.hid hB
        have XQr := XQ.below hB' XQ.lt
        have Xmr := Xm16.below hB' Xm16.lt
        have HOr := Lib.hid (HOm16.out.below hB')
        have HEr := Lib.hid (HE16.out.below hB')
        clear hx hB hB'
        obtain ⟨_, _, _, _, _, p5⟩ := XQr.six
        by_cases hlt : i < es.length
        · have hlt' : (i : Int) < (es.length : Int) := by omega
          have hi0 : (0 : Int) ≤ (i : Int) := by omega
          obtain ⟨e, he⟩ : ∃ y, es[i]? = some y := ⟨es[i], by simp [hlt]⟩
          obtain ⟨Ar, cr, hv, _, _, hC⟩ := HEr.out
          obtain ⟨rfl, rfl⟩ : Aq = Ar ∧ cq = cr := by injection hv with h1 _ h3; exact ⟨h1, h3⟩
          obtain ⟨ad, hA, a0, a1, a2⟩ := at_T43 hC (i : Int) hi0 hlt'
          rw [rdE he, Int.toNat_natCast] at a0 a1 a2
          subst hA
          obtain ⟨⟨yk, z⟩, hy, ht, hok, hk⟩ := HD.out i e he
          rw [hk] at a0 hy ht
          have HEi := Lib.hid he
          have HT := Lib.hid ht
          have HY := Lib.hid hy
          have HOK := Lib.hid hok
          clear hC hv he hy ht hok
          go_wp2_with fail
          refine (keyget_c HOK.out wr).mono ?_
          rintro _ u1 ⟨v1, rfl, hv1, hb1⟩
          have HB1 := Lib.hid (HB.out.trans (hb1.mono (HLB.out ▸ HB.out.size : LB ≤ wr.heap.size)))
          have Xl1 := Xl.below hb1 Xl.lt
          have XQ1 := XQr.below hb1 XQr.lt
          have Xm1 := Xmr.below hb1 Xmr.lt
          have HO1 := Lib.hid (HOr.out.below hb1)
          have HV1 := Lib.hid hv1
          have b0 := old hb1 a0
          obtain ⟨A1, c1, rfl, _⟩ := hv1
          obtain ⟨_, _, _, _, _, q5⟩ := XQ1.six
          clear p5 a0 a1 a2 hb1 Xl XQr Xmr HOr HEr HB
          go_wp2_with fail
          refine (mget_c (e := ⟨yk, z⟩) (keyOf z) Xm1 HO1.out HGD.out.1 (by omega) HT.out HY.out).mono ?_
          rintro _ u2 ⟨rfl, hb2⟩
          have HB2 := Lib.hid (HB1.out.trans (hb2.mono (HLB.out ▸ HB1.out.size : LB ≤ u1.heap.size)))
          have Xl2 := Xl1.below hb2 Xl1.lt
          have HV2 := Lib.hid (HV1.out.below hb2)
          clear q5 b0 hb2 Xl1 XQ1 Xm1 HO1 HV1 HB1 HT HY
          go_upto_region 23 with (fail)
          have X3 := bx_new u2 #[.string z.f0, .int .i64 z.f1, .bool z.f2] 32
          have B3 : Below u2.heap.size u2 (u2.alloc (.cells #[.string z.f0, .int .i64 z.f1, .bool z.f2] 32)) := (Below.refl _ _).alloc (Nat.le_refl _) _
          generalize World.alloc u2 _ = u3 at X3 B3 ⊢
          have HB3 := Lib.hid (HB2.out.trans (B3.mono (HLB.out ▸ HB2.out.size : LB ≤ u2.heap.size)))
          have Xl3 := Xl2.below B3 Xl2.lt
          have HV3 := Lib.hid (HV2.out.below B3)
          generalize u2.heap.size = V at *
          clear Xl2 HV2 B3 HB2
          obtain ⟨Av, cv, hv, hC⟩ := HV3.out
          obtain ⟨rfl, rfl⟩ : A1 = Av ∧ c1 = cv := by injection hv with h1 _ h3; exact ⟨h1, h3⟩
          obtain ⟨av, hAv, c0, c1', c2⟩ := at_T32 hC 0 (by decide) (by simp)
          have c1 := c1'
          subst hAv
          simp only [show rd_T32 [z] 0 = z from rfl, Int.toNat_zero, Nat.zero_mul, addr0] at c0 c1 c2
          obtain ⟨d0, d1, d2⟩ := X3.three
          obtain ⟨l0, l1, l2⟩ := Xl3.three
          clear hC hv c1'
          rcases Nat.eq_zero_or_pos i with h0 | h0
          · have h0' : ¬ (0 : Int) < (i : Int) := by omega
            as_aux_lemma =>
            refine wp_region_quiet (C := fun w' => Below u3.heap.size u3 w') (by kernel_rfl) (by kernel_rfl) (Below.refl _ _).drew ?_
            simp only [List.toList_toArray]
            repeat (first
              | go_big_quiet_skip
              | (go_big_quiet_want
                 refine quiet_of (v := ?_) (fun wv hwv => ?_) ?_
                 rotate_left
                 · have q0 := old hwv c0
                   have q1 := old hwv c1
                   have q2 := old hwv c2
                   have q3 := old hwv d0
                   have q4 := old hwv d1
                   have q5 := old hwv d2
                   have q6 := old hwv l0
                   have q7 := old hwv l1
                   have q8 := old hwv l2
                   go_simp
                   first | done | ((with_reducible refine (K1 wv hwv).mono ?_); rintro _ _ ⟨rfl, hb⟩; (refine ⟨?_, hwv.trans (hb.mono hwv.size)⟩; rfl)) | rfl | exact ⟨rfl, rfl⟩
                 (try simp only [Act.put, List.setIfInBounds_toArray, List.set_cons_zero, List.set_cons_succ])
                 go_big_quiet_on))
            refine wpQuiet_nil ?_
            intro u4 hu4
            have HB4 := Lib.hid (HB3.out.trans (hu4.mono (Nat.le_of_lt Xl3.lt)))
            have Xl4 := Xl3.below hu4 Xl3.lt
            have e0 := old hu4 c0
            have e1 := old hu4 c1
            have e2 := old hu4 c2
            have f0 := Xl4.free 0
            have f1 := Xl4.free 1
            have f2 := Xl4.free 2
            obtain ⟨m0, m1, m2⟩ := Xl4.three
            clear c0 c1 c2 d0 d1 d2 l0 l1 l2 hu4 X3 Xl3 HV3 HB3
            have HX5 : Hid (Bx (((u4.setCell ⟨LB, 0, none⟩ (.string z.f0)).setCell ⟨LB, 1, none⟩ (.int .i64 z.f1)).setCell ⟨LB, 2, none⟩ (.bool z.f2)) LB #[.string z.f0, .int .i64 z.f1, .bool z.f2] 32) := ((Xl4.set 0 (.string z.f0)).set 1 (.int .i64 z.f1)).set 2 (.bool z.f2)
            have HB5 : Hid (Below LB w16 (((u4.setCell ⟨LB, 0, none⟩ (.string z.f0)).setCell ⟨LB, 1, none⟩ (.int .i64 z.f1)).setCell ⟨LB, 2, none⟩ (.bool z.f2))) := ((HB4.out.setCell (p := ⟨LB, 0, none⟩) (Nat.le_refl _) _).setCell (p := ⟨LB, 1, none⟩) (Nat.le_refl _) _).setCell (p := ⟨LB, 2, none⟩) (Nat.le_refl _) _
            go_wp2_with fail
            refine ⟨⟨i + 1, z, by omega, by go_num, HX5.out, fun _ => ⟨HOK.out, fun e' he' => ?_⟩, HB5.out⟩, ?_⟩
            · rw [← hk]
              exact HLs.out i e e' HEi.out he'
            · simp only [intOf]
              omega
          · obtain ⟨hx1, hx2⟩ := HX.out h0
            have h0' : (0 : Int) < (i : Int) := by omega
            have hls := hx2 e HEi.out
            rw [hk] at hls
            have K1 := fun (wv : World) (hwv : Below u3.heap.size u3 wv) => keycmp_c hx1 HOK.out hls wv
            as_aux_lemma =>
            refine wp_region_quiet (C := fun w' => Below u3.heap.size u3 w') (by kernel_rfl) (by kernel_rfl) (Below.refl _ _).drew ?_
            simp only [List.toList_toArray]
            repeat (first
              | go_big_quiet_skip
              | (go_big_quiet_want
                 refine quiet_of (v := ?_) (fun wv hwv => ?_) ?_
                 rotate_left
                 · have q0 := old hwv c0
                   have q1 := old hwv c1
                   have q2 := old hwv c2
                   have q3 := old hwv d0
                   have q4 := old hwv d1
                   have q5 := old hwv d2
                   have q6 := old hwv l0
                   have q7 := old hwv l1
                   have q8 := old hwv l2
                   go_simp
                   first | done | ((with_reducible refine (K1 wv hwv).mono ?_); rintro _ _ ⟨rfl, hb⟩; (refine ⟨?_, hwv.trans (hb.mono hwv.size)⟩; rfl)) | rfl | exact ⟨rfl, rfl⟩
                 (try simp only [Act.put, List.setIfInBounds_toArray, List.set_cons_zero, List.set_cons_succ])
                 go_big_quiet_on))
            refine wpQuiet_nil ?_
            intro u4 hu4
            have HB4 := Lib.hid (HB3.out.trans (hu4.mono (Nat.le_of_lt Xl3.lt)))
            have Xl4 := Xl3.below hu4 Xl3.lt
            have e0 := old hu4 c0
            have e1 := old hu4 c1
            have e2 := old hu4 c2
            have f0 := Xl4.free 0
            have f1 := Xl4.free 1
            have f2 := Xl4.free 2
            obtain ⟨m0, m1, m2⟩ := Xl4.three
            clear c0 c1 c2 d0 d1 d2 l0 l1 l2 hu4 X3 Xl3 HV3 HB3
            have HX5 : Hid (Bx (((u4.setCell ⟨LB, 0, none⟩ (.string z.f0)).setCell ⟨LB, 1, none⟩ (.int .i64 z.f1)).setCell ⟨LB, 2, none⟩ (.bool z.f2)) LB #[.string z.f0, .int .i64 z.f1, .bool z.f2] 32) := ((Xl4.set 0 (.string z.f0)).set 1 (.int .i64 z.f1)).set 2 (.bool z.f2)
            have HB5 : Hid (Below LB w16 (((u4.setCell ⟨LB, 0, none⟩ (.string z.f0)).setCell ⟨LB, 1, none⟩ (.int .i64 z.f1)).setCell ⟨LB, 2, none⟩ (.bool z.f2))) := ((HB4.out.setCell (p := ⟨LB, 0, none⟩) (Nat.le_refl _) _).setCell (p := ⟨LB, 1, none⟩) (Nat.le_refl _) _).setCell (p := ⟨LB, 2, none⟩) (Nat.le_refl _) _
            go_wp2_with fail
            refine ⟨⟨i + 1, z, by omega, by go_num, HX5.out, fun _ => ⟨HOK.out, fun e' he' => ?_⟩, HB5.out⟩, ?_⟩
            · rw [← hk]
              exact HLs.out i e e' HEi.out he'
            · simp only [intOf]
              omega
        · have hlt' : ¬ (i : Int) < (es.length : Int) := by omega
          go_wp2_with fail
          go_ret
          exact ⟨rfl, B16.trans (HB.out.mono (HLB.out ▸ B16.size : w.heap.size ≤ LB))⟩
end TP
end Go.Proofs.YtfaabbimbjegmaaDoor
