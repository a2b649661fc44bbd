/-
  The law's own maker of nodes.
-/
import Derived.Test.YtldmhfpgcflplaaNdRSp
import Derived.Test.YtldmhfpgcflplaaNdTuP
import Derived.Test.YtldmhfpgcflplaaNdOpen
import Derived.RegionTactic
import Derived.BigRegion
set_option linter.unusedVariables false
set_option linter.unusedSimpArgs false
namespace Go.Proofs.Ytldmhfpgcflplaa
open Go Go.RowKit Go.Proofs.Ytldmhfpgcflplaa.PA Go.Proofs.YtldmhfpgcflplaaW.PrintWords NdP
attribute [local go_sem] min_80 min_120

def cutB80 (s : ByteArray) : ByteArray := s.extract 0 (cutN s.size 80)
def cutB120 (s : ByteArray) : ByteArray := s.extract 0 (cutN s.size 120)
/-- An entry cut to its size. -/
def mdE (e : Ent) : Ent := ⟨cutB80 e.k, cutB120 e.v, e.m⟩
/-- The page of some entries. -/
def mdG (x : Rw) (l : List Ent) : Pg := ⟨5, 3, x.level, x.right, cutB80 x.high, l⟩
def mdS (x : Rw) (l : List Ent) (e : Ent) : List Ent := if x.tidy = true then (if (ins (mdG x l) e).2 = 0 then (ins (mdG x l) e).1.es else l) else l ++ [e]
def mdL (x : Rw) : Nat → List Ent
  | 0 => []
  | i + 1 => match x.es[i]? with
    | some e => mdS x (mdL x i) (mdE e)
    | none => mdL x i
/-- The node that is made. -/
def mdP (x : Rw) : Pg := mdG x (mdL x (cutN x.es.length 60))
theorem mdL_succ {x : Rw} {i : Nat} {e : Ent} (h : x.es[i]? = some e) : mdL x (i + 1) = mdS x (mdL x i) (mdE e) := by
  show (match x.es[i]? with | some e => mdS x (mdL x i) (mdE e) | none => mdL x i) = _
  rw [h]
theorem cutB80_size (s : ByteArray) : (cutB80 s).size ≤ 80 := by
  unfold cutB80
  rw [ByteArray.size_extract]
  have := cutN_le' s.size 80
  omega
theorem cutB120_size (s : ByteArray) : (cutB120 s).size ≤ 120 := by
  unfold cutB120
  rw [ByteArray.size_extract]
  have := cutN_le' s.size 120
  omega
theorem ins_no {p : Pg} {e : Ent} (h : (ins p e).2 ≠ 0) : (ins p e).1 = zero := by
  unfold ins at h ⊢
  by_cases h1 : 64 < e.k.size ∨ 100 < e.v.size ∨ covers p e.k = false
  · rw [if_pos h1]
  rw [if_neg h1] at h ⊢
  by_cases h2 : there p.es e.k = true
  · rw [if_pos h2]
  rw [if_neg h2] at h ⊢
  by_cases h3 : free p < (size e : Int)
  · rw [if_pos h3]
  · rw [if_neg h3] at h
    exact absurd rfl h
theorem ins_yes {p : Pg} {e : Ent} (h : (ins p e).2 = 0) : (ins p e).1 = { p with es := p.es.take (place p.es e.k) ++ e :: p.es.drop (place p.es e.k) } := by
  obtain ⟨_, _, _, _, _, h6⟩ := ins_ok (p := p) (e := e) (q := (ins p e).1) (by rw [← h])
  exact h6
theorem mdL_len (x : Rw) : ∀ i, (mdL x i).length ≤ i
  | 0 => Nat.le_refl _
  | i + 1 => by
    have h := mdL_len x i
    cases he : x.es[i]? with
    | none =>
      have : mdL x (i + 1) = mdL x i := by
        show (match x.es[i]? with | some e => mdS x (mdL x i) (mdE e) | none => mdL x i) = _
        rw [he]
      rw [this]
      omega
    | some e =>
      rw [mdL_succ he]
      unfold mdS
      split
      · split
        · rename_i h2
          rw [ins_yes h2]
          show ((mdL x i).take _ ++ mdE e :: (mdL x i).drop _).length ≤ _
          have hp := place_le (mdL x i) (mdE e).k
          simp only [List.length_append, List.length_cons, List.length_take, List.length_drop]
          have h3 : place (mdG x (mdL x i)).es (mdE e).k = place (mdL x i) (mdE e).k := rfl
          rw [h3]
          omega
        · omega
      · rw [List.length_append, List.length_cons, List.length_nil]
        omega
theorem mdL_mem (x : Rw) : ∀ i, ∀ e ∈ mdL x i, e.k.size ≤ 80 ∧ e.v.size ≤ 120
  | 0, e, h => by cases h
  | i + 1, y, h => by
    cases he : x.es[i]? with
    | none =>
      have : mdL x (i + 1) = mdL x i := by
        show (match x.es[i]? with | some e => mdS x (mdL x i) (mdE e) | none => mdL x i) = _
        rw [he]
      rw [this] at h
      exact mdL_mem x i y h
    | some e =>
      have hz : (mdE e).k.size ≤ 80 ∧ (mdE e).v.size ≤ 120 := ⟨cutB80_size _, cutB120_size _⟩
      rw [mdL_succ he] at h
      unfold mdS at h
      split at h
      · split at h
        · rename_i h2
          rw [ins_yes h2] at h
          rcases mem_ins.1 h with rfl | h
          · exact hz
          · exact mdL_mem x i y h
        · exact mdL_mem x i y h
      · rcases List.mem_append.1 h with h | h
        · exact mdL_mem x i y h
        · simp only [List.mem_singleton] at h
          subst h
          exact hz
theorem mdL_small (x : Rw) {i : Nat} (h : i ≤ 60) : Small (mdL x i) :=
  ⟨by have := mdL_len x i; omega, fun e he => by have := mdL_mem x i e he; omega⟩
def mdR (x : Rw) (w w1 : World) (b : Nat) (v6 : Value) (wr : World) : Prop := ∃ (i : Nat) (s : Value), i ≤ cutN x.es.length 60 ∧ v6 = .int .i64 i ∧ Bx wr b #[.int .i64 5, .int .i64 3, .int .i64 x.level, .int .i64 x.right, .string (cutB80 x.high), s] 31 ∧ OwQ wr w1.heap.size s (mdL x i) ∧ Below (w.heap.size + 1 + 1 + 1) w1 wr
def md2R (x : Rw) (wr wo : World) (L : List Ent) (v11 : Value) (wq : World) : Prop := ∃ (k : Nat) (s : Value), k ≤ L.length ∧ v11 = .int .i64 k ∧ Bx wq wr.heap.size #[.int .i64 5, .int .i64 3, .int .i64 x.level, .int .i64 x.right, .string (cutB80 x.high), s] 28 ∧ OwN wq wo.heap.size s (L.take k) ∧ Below wr.heap.size wo wq
theorem md_boxes (w : World) (c0 c1 c2 c3 : Array Value) (t0 t1 t2 t3 : Nat) :
    Bx ((((w.alloc (.cells c0 t0 (0, 0))).alloc (.cells c1 t1 (0, 0))).alloc (.cells c2 t2 (0, 0))).alloc (.cells c3 t3 (0, 0))) w.heap.size c0 t0 ∧ Bx ((((w.alloc (.cells c0 t0 (0, 0))).alloc (.cells c1 t1 (0, 0))).alloc (.cells c2 t2 (0, 0))).alloc (.cells c3 t3 (0, 0))) (w.heap.size + 1) c1 t1 ∧
    Bx ((((w.alloc (.cells c0 t0 (0, 0))).alloc (.cells c1 t1 (0, 0))).alloc (.cells c2 t2 (0, 0))).alloc (.cells c3 t3 (0, 0))) (w.heap.size + 1 + 1) c2 t2 ∧ Bx ((((w.alloc (.cells c0 t0 (0, 0))).alloc (.cells c1 t1 (0, 0))).alloc (.cells c2 t2 (0, 0))).alloc (.cells c3 t3 (0, 0))) (w.heap.size + 1 + 1 + 1) c3 t3 ∧
    Below w.heap.size w ((((w.alloc (.cells c0 t0 (0, 0))).alloc (.cells c1 t1 (0, 0))).alloc (.cells c2 t2 (0, 0))).alloc (.cells c3 t3 (0, 0))) := by
  obtain ⟨h0, h1, h2, h3, _⟩ := Fr3.start w c0 t0 c1 t1 c2 t2
  exact ⟨bx_old h1 _, bx_old h2 _, bx_old h3 _, bx_at (bx_new _ _ _) (by simp), h0.alloc h0.size _⟩
theorem own_setQ1 {w : World} {base b : Nat} {s : Value} {l : List Ent} {cs : Array Value} (h : OwQ w base s l) (hb : Bx w b cs 31) (i : Nat) (u : Value) : OwQ (w.setCell ⟨b, i, none⟩ u) base s l :=
  Kd.R_set h hb (by decide) i u
theorem own_set6Q {w : World} {base b : Nat} {s : Value} {l : List Ent} {a0 a1 a2 a3 a4 a5 : Value} (h : OwQ w base s l) (hb : Bx w b #[a0, a1, a2, a3, a4, a5] 31) (v0 v1 v2 v3 v4 v5 : Value) :
    OwQ ((((((w.setCell ⟨b, 0, none⟩ v0).setCell ⟨b, 1, none⟩ v1).setCell ⟨b, 2, none⟩ v2).setCell ⟨b, 3, none⟩ v3).setCell ⟨b, 4, none⟩ v4).setCell ⟨b, 5, none⟩ v5) base s l :=
  own_setQ1 (own_setQ1 (own_setQ1 (own_setQ1 (own_setQ1 (own_setQ1 h hb 0 v0) (hb.set 0 v0) 1 v1) ((hb.set 0 v0).set 1 v1) 2 v2) (((hb.set 0 v0).set 1 v1).set 2 v2) 3 v3) ((((hb.set 0 v0).set 1 v1).set 2 v2).set 3 v3) 4 v4) (((((hb.set 0 v0).set 1 v1).set 2 v2).set 3 v3).set 4 v4) 5 v5
theorem store_pageQ {W W' : World} {b : Nat} {a0 a1 a2 a3 a4 a5 v0 v1 v2 v3 v4 v5 : Value} {o : Obj} (X : Bx W b #[a0, a1, a2, a3, a4, a5] 31)
    (hW : ((((((W.setCell ⟨b, 0, none⟩ v0).setCell ⟨b, 1, none⟩ v1).setCell ⟨b, 2, none⟩ v2).setCell ⟨b, 3, none⟩ v3).setCell ⟨b, 4, none⟩ v4).setCell ⟨b, 5, none⟩ v5).alloc o = W') :
    Bx W' b #[v0, v1, v2, v3, v4, v5] 31 ∧ (∀ B, B ≤ b → Below B W W') ∧ (∀ base s l, OwQ W base s l → OwQ W' base s l) := by
  subst hW
  refine ⟨bx_old (X.set6 rfl) _, fun B hB => ?_, fun base s l h => ?_⟩
  · have h1 := bel_set6 (v0 := v0) (v1 := v1) (v2 := v2) (v3 := v3) (v4 := v4) (v5 := v5) (Below.refl B W) hB rfl
    refine h1.alloc ?_ o
    have := X.lt
    have := h1.size
    omega
  · exact Kd.R_below (own_set6Q h X v0 v1 v2 v3 v4 v5) ((Below.refl _ _).alloc (Nat.le_refl _) o)
theorem md_end {w W : World} {b c t t' : Nat} {a0 a1 a2 a3 a4 a5 b0 b1 b2 b3 b4 b5 u0 u1 u2 u3 u4 u5 v0 v1 v2 v3 v4 v5 : Value} (hne : b < c) (Xa : Bx w b #[u0, u1, u2, u3, u4, u5] t) (Xb : Bx w c #[v0, v1, v2, v3, v4, v5] t')
    (hW : ((((((((((((w.setCell ⟨b, 0, none⟩ a0).setCell ⟨b, 1, none⟩ a1).setCell ⟨b, 2, none⟩ a2).setCell ⟨b, 3, none⟩ a3).setCell ⟨b, 4, none⟩ a4).setCell ⟨b, 5, none⟩ a5).setCell ⟨c, 0, none⟩ b0).setCell ⟨c, 1, none⟩ b1).setCell ⟨c, 2, none⟩ b2).setCell ⟨c, 3, none⟩ b3).setCell ⟨c, 4, none⟩ b4).setCell ⟨c, 5, none⟩ b5) = W) :
    Bx W b #[a0, a1, a2, a3, a4, a5] t ∧ Bx W c #[b0, b1, b2, b3, b4, b5] t' ∧ (∀ B, B ≤ b → B ≤ c → Below B w W) ∧ (∀ base s l, b < base → c < base → OwN w base s l → OwN W base s l) ∧ (∀ base s l, b < base → c < base → OwQ w base s l → OwQ W base s l) := by
  obtain ⟨h1, h2, h3⟩ := two_store (by omega) (by omega) Xa Xb hW
  refine ⟨h1, h2, h3, fun base s l hb hc h => ?_, fun base s l hb hc h => ?_⟩
  · exact (h.set6 (Below.refl _ _) hb rfl).set6 (Below.refl _ _) hc hW
  · exact (h.set6 (Below.refl _ _) hb rfl).set6 (Below.refl _ _) hc hW
theorem five {w : World} {b t : Nat} {a0 a1 a2 a3 a4 : Value} (h : Bx w b #[a0, a1, a2, a3, a4] t) : w.cell? ⟨b, 0, none⟩ = some a0 ∧ w.cell? ⟨b, 1, none⟩ = some a1 ∧ w.cell? ⟨b, 2, none⟩ = some a2 ∧ w.cell? ⟨b, 3, none⟩ = some a3 ∧ w.cell? ⟨b, 4, none⟩ = some a4 :=
  ⟨h.cell 0, h.cell 1, h.cell 2, h.cell 3, h.cell 4⟩
set_option maxRecDepth 100000 in
set_option maxHeartbeats 3200000 in
theorem made_o (w : World) (x : Rw) (A : Option Addr) (c : Nat) (hm : x.es.length ≤ 9223372036854775807) (hr : RdN w (.slice A x.es.length c) x.es) : Calls Try.prog 9 #[rwV x (.slice A x.es.length c)] w fun r w' =>
    ∃ va vb, r = .returned (.tuple #[pgV (mdP x) va, pgV (mdP x) vb]) ∧ OwN w' w.heap.size va (mdP x).es ∧ OwQ w' w.heap.size vb (mdP x).es ∧ Below w.heap.size w w' := by
  have HR := Lib.hid hr
  clear hr
  have hcx : ((cutN x.high.size 80 : Nat) : Int) ≤ (x.high.size : Int) := by have := cutN_le x.high.size 80; omega
  have hcx0 : (0 : Int) ≤ ((cutN x.high.size 80 : Nat) : Int) := by omega
  unfold rwV
  go_enter Try.func9, Try.ntmps9
  go_wp2_with fail
  have Y0 := md_boxes w #[.int .i64 x.level, .int .i64 x.right, .string x.high, .slice A x.es.length c, .bool x.tidy] #[.int .i64 0, .int .i64 0, .int .i64 0, .int .i64 0, .string ⟨#[]⟩, .slice none 0 0] #[.int .i64 0, .int .i64 0, .int .i64 0, .int .i64 0, .string ⟨#[]⟩, .slice none 0 0] #[.int .i64 5, .int .i64 3, .int .i64 x.level, .int .i64 x.right, .string (cutB80 x.high), .slice none 0 0] 24 28 31 31
  change _ ∧ _ ∧ _ ∧ _ ∧ _ at Y0
  unfold cutB80 at Y0
  generalize World.alloc _ _ = w1 at Y0 ⊢
  obtain ⟨Y0, Y1, Y2, Y3, hb1⟩ := Y0
  have HB1 := Lib.hid hb1
  have HB1L : Hid (w.heap.size + 1 + 1 + 1 < w1.heap.size) := Y3.lt
  clear hb1
  go_loopw [6] (fun v6 wr => mdR x w w1 (w.heap.size + 1 + 1 + 1) v6 wr) (fun i _ => x.es.length - (intOf i).toNat)
  case atStart => exact ⟨0, _, Nat.zero_le _, rfl, Y3, Kd.R_nil _ _ _ _ _, Below.refl _ _⟩
  case round =>
    obtain ⟨i, s, hi, rfl, X5, hO, hbw⟩ := hrel
    unfold cutB80 at X5
    have Z0 := Y0.below hbw (by omega)
    by_cases hlt : i < x.es.length
    rotate_left
    · have hlt' : ¬ (i : Int) < (x.es.length : Int) := by omega
      have HN : Hid (i = cutN x.es.length 60) := by unfold Hid cutN; unfold cutN at hi; omega
      have HP : Hid (mdP x = mdG x (mdL x i)) := by unfold Hid mdP; rw [← HN.out]
      have HLEN : Hid ((mdL x i).length ≤ 60) := by have := mdL_len x i; unfold Hid; unfold cutN at hi; omega
      obtain ⟨As, cs, rfl, _⟩ := hO.rd
      have HO := Lib.hid hO
      have HB3 := Lib.hid hbw
      clear hi hO hbw
      generalize mdL x i = L at *
      obtain ⟨z0, z1, z2, z3, z4⟩ := five Z0
      obtain ⟨p0, p1, p2, p3, p4, p5⟩ := X5.six
      have hlw : w.heap.size < wr.heap.size := Z0.lt
      have hlx : w.heap.size + 1 + 1 + 1 < wr.heap.size := X5.lt
      go_wp2_with fail
      obtain ⟨wb, rfl⟩ : ∃ wb, wb = wr := ⟨_, rfl⟩
      have hal := (Below.refl wb.heap.size wb).alloc (Nat.le_refl _) (.cells #[.int .i64 5, .int .i64 3, .int .i64 x.level, .int .i64 x.right, .string (x.high.extract 0 (cutN x.high.size 80)), .slice none 0 0] 28)
      have Xa := bx_new wb #[.int .i64 5, .int .i64 3, .int .i64 x.level, .int .i64 x.right, .string (x.high.extract 0 (cutN x.high.size 80)), .slice none 0 0] 28
      generalize World.alloc wb _ = wo at hal Xa ⊢
      have HAL := Lib.hid hal
      have HLX : Hid (w.heap.size + 1 + 1 + 1 < wb.heap.size) := hlx
      have HLO : Hid (wb.heap.size < wo.heap.size) := Xa.lt
      clear hal hlx hlw z0 z1 z2 z3 z4 p0 p1 p2 p3 p4 p5 hlt'
      go_loopw [11] (fun v11 wr => md2R x wb wo L v11 wr) (fun i _ => L.length - (intOf i).toNat)
      case atStart => exact ⟨0, _, Nat.zero_le _, rfl, Xa, Kd.R_nil _ _ _ _ _, Below.refl _ _⟩
      case round =>
        obtain ⟨k, s, hk, rfl, Xk, hO2, hb2⟩ := hrel
        unfold cutB80 at Xk
        obtain ⟨M, hM⟩ : ∃ M, M = L.take k := ⟨_, rfl⟩
        rw [← hM] at hO2
        have HM := Lib.hid hM
        clear hM
        obtain ⟨Aa, ca, rfl, _⟩ := hO2.rd
        have HO2 := Lib.hid hO2
        have hb3 := HAL.out.trans hb2
        have HB4 := Lib.hid hb3
        have X5k := X5.below hb3 (by have := HLX.out; omega)
        have HOk := Lib.hid (Kd.R_below HO.out hb3)
        have HBK := Lib.hid (HB3.out.trans (hb3.mono (Nat.le_of_lt HLX.out)))
        have hxa : wb.heap.size < wr.heap.size := Xk.lt
        have hx5 : w.heap.size + 1 + 1 + 1 < wb.heap.size := HLX.out
        clear hO2 hb3
        obtain ⟨q0, q1, q2, q3, q4, q5⟩ := Xk.six
        obtain ⟨p0, p1, p2, p3, p4, p5⟩ := X5k.six
        by_cases hk2 : k < L.length
        · have hk3 : (k : Int) < (L.length : Int) := by omega
          have hk0 : (0 : Int) ≤ (k : Int) := by omega
          obtain ⟨e, he⟩ : ∃ y, L[k]? = some y := ⟨L[k], by simp [hk2]⟩
          obtain ⟨ad, hA, a0, a1, a2⟩ := at_T56 (qC_of_rd (OwQ.rd HOk.out)) (k : Int) (by omega) (by rw [List.length_map]; exact hk3)
          rw [rd56 he, Int.toNat_natCast] at a0 a1 a2
          change wr.cell? _ = some (Value.string e.k) at a0
          change wr.cell? _ = some (Value.string e.v) at a1
          change wr.cell? _ = some (Value.bool e.m) at a2
          subst hA
          have HE := Lib.hid he
          clear he
          go_wp2_with fail
          refine Ty.wp_region_ty 8 (by kernel_rfl) (by kernel_rfl) ?_
          simp only [List.take_succ_cons, List.take_zero, List.drop_succ_cons, List.drop_zero]
          refine Ty.pure_ ?_ (fun _ => by rfl) (fun vs wv hb => ?_) ?_
          rotate_left
          · have hb : Below wr.heap.size wr wv := (Below.refl wr.heap.size wr).drew.trans hb
            obtain ⟨q0, q1, q2, q3, q4, q5⟩ := (Xk.below hb hxa).six
            go_simp
            first | done | rfl
          simp only [Act.put, List.setIfInBounds_toArray, List.set_cons_zero, List.set_cons_succ, List.nil_append, List.cons_append, List.length_nil, List.length_cons, Nat.zero_add]
          refine Ty.pure_ ?_ (fun _ => by rfl) (fun vs wv hb => ?_) ?_
          rotate_left
          · have hb : Below wr.heap.size wr wv := (Below.refl wr.heap.size wr).drew.trans hb
            obtain ⟨q0, q1, q2, q3, q4, q5⟩ := (Xk.below hb hxa).six
            go_simp
            first | done | rfl
          simp only [Act.put, List.setIfInBounds_toArray, List.set_cons_zero, List.set_cons_succ, List.nil_append, List.cons_append, List.length_nil, List.length_cons, Nat.zero_add]
          refine Ty.pure_ ?_ (fun _ => by rfl) (fun vs wv hb => ?_) ?_
          rotate_left
          · have hb : Below wr.heap.size wr wv := (Below.refl wr.heap.size wr).drew.trans hb
            skip
            go_simp
            first | done | rfl
          simp only [Act.put, List.setIfInBounds_toArray, List.set_cons_zero, List.set_cons_succ, List.nil_append, List.cons_append, List.length_nil, List.length_cons, Nat.zero_add]
          refine Ty.pure_ ?_ (fun _ => by rfl) (fun vs wv hb => ?_) ?_
          rotate_left
          · have hb : Below wr.heap.size wr wv := (Below.refl wr.heap.size wr).drew.trans hb
            obtain ⟨p0, p1, p2, p3, p4, p5⟩ := (X5k.below hb X5k.lt).six
            go_simp
            first | done | rfl
          simp only [Act.put, List.setIfInBounds_toArray, List.set_cons_zero, List.set_cons_succ, List.nil_append, List.cons_append, List.length_nil, List.length_cons, Nat.zero_add]
          refine Ty.pure_ ?_ (fun _ => by rfl) (fun vs wv hb => ?_) ?_
          rotate_left
          · have hb : Below wr.heap.size wr wv := (Below.refl wr.heap.size wr).drew.trans hb
            skip
            go_simp
            first | done | rfl
          simp only [Act.put, List.setIfInBounds_toArray, List.set_cons_zero, List.set_cons_succ, List.nil_append, List.cons_append, List.length_nil, List.length_cons, Nat.zero_add]
          refine Ty.pure_ ?_ (fun _ => by rfl) (fun vs wv hb => ?_) ?_
          rotate_left
          · have hb : Below wr.heap.size wr wv := (Below.refl wr.heap.size wr).drew.trans hb
            skip
            go_simp
            first | done | rfl
          simp only [Act.put, List.setIfInBounds_toArray, List.set_cons_zero, List.set_cons_succ, List.nil_append, List.cons_append, List.length_nil, List.length_cons, Nat.zero_add]
          refine Ty.pure_ ?_ (fun _ => by rfl) (fun vs wv hb => ?_) ?_
          rotate_left
          · have hb : Below wr.heap.size wr wv := (Below.refl wr.heap.size wr).drew.trans hb
            have a0 := old hb a0; have a1 := old hb a1; have a2 := old hb a2
            go_simp
            first | done | rfl
          simp only [Act.put, List.setIfInBounds_toArray, List.set_cons_zero, List.set_cons_succ, List.nil_append, List.cons_append, List.length_nil, List.length_cons, Nat.zero_add]
          refine Ty.call_ (fun v w' => ∃ b, v = .slice (some ⟨b, 0, none⟩) 1 1 ∧ wr.heap.size ≤ b ∧ Bx w' b #[.string e.k, .string e.v, .bool e.m] 44) (fun v w w' hb ⟨b, h1, h2, h3⟩ => ⟨b, h1, h2, h3.below hb h3.lt⟩) (fun _ => by rfl) (fun vs wv hb hd => ?_) ?_
          · unfold Ty.tyAt
            go_simp
            exact ⟨(Below.refl _ _).alloc (Nat.le_refl _) _, wv.heap.size, rfl, hb.size, bx_new _ _ _⟩
          simp only [Act.put, List.setIfInBounds_toArray, List.set_cons_zero, List.set_cons_succ, List.nil_append, List.cons_append, List.length_nil, List.length_cons, Nat.zero_add]
          intro vs wz hbz hG hAp
          clear hAp
          obtain ⟨bn, e7, l7, x7⟩ := hG 7 _ rfl
          clear hG
          simp only [e7]
          clear e7 vs
          have hbz : Below wr.heap.size wr wz := (Below.refl wr.heap.size wr).drew.trans hbz
          have Xkz := Xk.below hbz hxa
          obtain ⟨q0', q1', q2', q3', q4', q5'⟩ := Xkz.six
          obtain ⟨g0, g1, g2', g3, g4, g5⟩ := Xkz.six_free
          have HOz := Lib.hid (Kd.R_below HO2.out hbz)
          have HRn : Hid (Kd.C k44 wz (some ⟨bn, 0, none⟩) 1 [c44 e]) := ⟨rfl, by decide, fun _ => ⟨_, rfl, fun j p hj => by
            obtain rfl : j = 0 := by
              rcases Nat.eq_zero_or_pos j with h | h
              · exact h
              · rw [List.getElem?_eq_none (by simp; omega)] at hj; cases hj
            obtain rfl : c44 e = p := by injection hj
            exact ⟨[.string e.k, .string e.v, .bool e.m], rfl, k44_mk wz (c44 e), fun i u hu => by
              have h1 := x7.cell i
              have h2 : Addr.add ⟨bn, 0, none⟩ (0 * k44.sz + i) = ⟨bn, i, none⟩ := by rw [Addr.add_lit]; simp
              rw [h2, h1]
              simpa using hu⟩⟩⟩
          obtain ⟨M2, hM2⟩ : ∃ M, M = L.take (k + 1) := ⟨_, rfl⟩
          have HM2 := Lib.hid hM2
          have HTK : Hid (M.map c44 ++ [c44 e] = M2.map c44) := by unfold Hid; rw [HM.out, hM2, take_one HE.out, List.map_append]; rfl
          clear hM2
          have HLK : Hid (M.length ≤ 60) := by have := HLEN.out; unfold Hid; rw [HM.out, List.length_take]; omega
          have HLZ : Hid (wo.heap.size ≤ wz.heap.size) := Nat.le_trans hb2.size hbz.size
          go_wp2_with (first | (at_builtin; refine Kd.R_append_rows k44 (w0 := wz) (W := wz) wo.heap.size rfl (.tmp 88) (.tmp 94) 26 44 _ 40 rfl Try.underlying26 info44 rfl (by decide) (by omega) (.slice Aa M.length ca) _ [c44 e] (some ⟨bn, 0, none⟩) 1 _ (fun _ => True) (fun _ => False) rfl rfl HOz.out HRn.out (fun x cs h => K44_M _ _ _ h) (fun _ h => h.elim) (fun _ _ => trivial) (Below.refl _ _) HLZ.out (by rw [List.length_map]; have := HLK.out; omega) ?_; intro v4 w4 hO4 hb4 hg4 ha4; clear hg4 ha4; rw [HTK.out] at hO4; have X4 := Xkz.below hb4 HLO.out; obtain ⟨r0, r1, r2, r3, r4, r5⟩ := X4.six; obtain ⟨k0, k1, k2, k3, k4, k5⟩ := X4.six_free; obtain ⟨A4, c4, rfl, _⟩ := OwN.rd hO4) | fail)
          have hbe := (hb2.trans (hbz.mono (Nat.le_of_lt hxa))).trans (hb4.mono (Nat.le_of_lt HLO.out))
          have hsx : wb.heap.size ≤ wb.heap.size := Nat.le_refl _
          have hL := HLEN.out
          go_roundw
          case rel => exact ⟨k + 1, _, hk2, rt_next hk2 (Nat.le_trans hL (by decide)), X4.set 5 _, (by rw [← HM2.out]; exact own_set1 hO4 X4 5 _), hbe.setCell hsx _⟩
          case measure => exact rt_measure hk2 (Nat.le_trans hL (by decide))
        · have hkl : k = L.length := by omega
          have hk3 : ¬ (k : Int) < (L.length : Int) := by omega
          have HKL := Lib.hid hkl
          have Z1 := Y1.below HBK.out (by omega)
          have Z2 := Y2.below HBK.out (by omega)
          have HMM : Hid (M = L) := by unfold Hid; rw [HM.out, hkl, List.take_length]
          go_wp2_with fail
          obtain ⟨r0, r1, r2, r3, r4, r5⟩ := Bx.six Z1
          obtain ⟨s0, s1, s2, s3, s4, s5⟩ := Bx.six Z2
          obtain ⟨rf0, rf1, rf2, rf3, rf4, rf5⟩ := Bx.six_free Z1
          obtain ⟨sf0, sf1, sf2, sf3, sf4, sf5⟩ := Bx.six_free Z2
          have n1 : ¬ wb.heap.size = w.heap.size + 1 := by omega
          have n2 : ¬ wb.heap.size = w.heap.size + 1 + 1 := by omega
          have n3 : ¬ w.heap.size + 1 + 1 + 1 = w.heap.size + 1 := by omega
          have n4 : ¬ w.heap.size + 1 + 1 + 1 = w.heap.size + 1 + 1 := by omega
          have n5 : ¬ w.heap.size + 1 = w.heap.size + 1 + 1 := by omega
          go_region
          go_wp2_with fail
          have hON := HO2.out
          rw [HMM.out] at hON
          have hMl : M.length = L.length := by rw [HMM.out]
          rw [hMl]
          rw [hMl] at *
          have hOQ := HOk.out
          have hbl0 : w.heap.size + 1 < wo.heap.size := by have := HLO.out; have := HLX.out; omega
          have hbl1 : w.heap.size + 1 + 1 < wo.heap.size := by have := HLO.out; have := HLX.out; omega
          have hbm0 : w.heap.size + 1 < w1.heap.size := by have := HB1L.out; omega
          have hbm1 : w.heap.size + 1 + 1 < w1.heap.size := by have := HB1L.out; omega
          have hbel0 := HB1.out.trans (HBK.out.mono (by omega))
          generalize hW : World.setCell _ _ _ = W
          obtain ⟨V1, V2, hbel, honN, honQ⟩ := md_end (by omega) Z1 Z2 hW
          have gN := honN _ _ _ hbl0 hbl1 hON
          have gQ := honQ _ _ _ hbm0 hbm1 hOQ
          have hbE := hbel0.trans (hbel w.heap.size (by omega) (by omega))
          clear hW hbel honN honQ
          obtain ⟨x0, x1, x2, x3, x4, x5⟩ := Bx.six V1
          obtain ⟨y0, y1, y2, y3, y4, y5⟩ := Bx.six V2
          refine bodyPost_ret (v := .tuple #[.agg #[.int .i64 5, .int .i64 3, .int .i64 x.level, .int .i64 x.right, .string (x.high.extract 0 (cutN x.high.size 80)), .slice Aa L.length ca], .agg #[.int .i64 5, .int .i64 3, .int .i64 x.level, .int .i64 x.right, .string (x.high.extract 0 (cutN x.high.size 80)), .slice As L.length cs]]) (by simp [results, Try.results9, go_sem, x0, x1, x2, x3, x4, x5, y0, y1, y2, y3, y4, y5]) rfl ?_
          refine ⟨.slice Aa L.length ca, .slice As L.length cs, ?_, ?_, ?_, hbE.drew⟩
          · rw [HP.out]; rfl
          · rw [HP.out]; exact Kd.R_lower gN (by omega)
          · rw [HP.out]; exact Kd.R_lower gQ (by omega)
    by_cases h60 : i < 60
    rotate_left
    · have hlt' : (i : Int) < (x.es.length : Int) := by omega
      have h60' : ¬ (i : Int) < 60 := by omega
      have HN : Hid (i = cutN x.es.length 60) := by unfold Hid cutN; unfold cutN at hi; omega
      have HP : Hid (mdP x = mdG x (mdL x i)) := by unfold Hid mdP; rw [← HN.out]
      have HLEN : Hid ((mdL x i).length ≤ 60) := by have := mdL_len x i; unfold Hid; unfold cutN at hi; omega
      obtain ⟨As, cs, rfl, _⟩ := hO.rd
      have HO := Lib.hid hO
      have HB3 := Lib.hid hbw
      clear hi hO hbw
      generalize mdL x i = L at *
      obtain ⟨z0, z1, z2, z3, z4⟩ := five Z0
      obtain ⟨p0, p1, p2, p3, p4, p5⟩ := X5.six
      have hlw : w.heap.size < wr.heap.size := Z0.lt
      have hlx : w.heap.size + 1 + 1 + 1 < wr.heap.size := X5.lt
      go_wp2_with fail
      obtain ⟨wb, rfl⟩ : ∃ wb, wb = wr := ⟨_, rfl⟩
      have hal := (Below.refl wb.heap.size wb).alloc (Nat.le_refl _) (.cells #[.int .i64 5, .int .i64 3, .int .i64 x.level, .int .i64 x.right, .string (x.high.extract 0 (cutN x.high.size 80)), .slice none 0 0] 28)
      have Xa := bx_new wb #[.int .i64 5, .int .i64 3, .int .i64 x.level, .int .i64 x.right, .string (x.high.extract 0 (cutN x.high.size 80)), .slice none 0 0] 28
      generalize World.alloc wb _ = wo at hal Xa ⊢
      have HAL := Lib.hid hal
      have HLX : Hid (w.heap.size + 1 + 1 + 1 < wb.heap.size) := hlx
      have HLO : Hid (wb.heap.size < wo.heap.size) := Xa.lt
      clear hal hlx hlw z0 z1 z2 z3 z4 p0 p1 p2 p3 p4 p5 hlt'
      go_loopw [11] (fun v11 wr => md2R x wb wo L v11 wr) (fun i _ => L.length - (intOf i).toNat)
      case atStart => exact ⟨0, _, Nat.zero_le _, rfl, Xa, Kd.R_nil _ _ _ _ _, Below.refl _ _⟩
      case round =>
        obtain ⟨k, s, hk, rfl, Xk, hO2, hb2⟩ := hrel
        unfold cutB80 at Xk
        obtain ⟨M, hM⟩ : ∃ M, M = L.take k := ⟨_, rfl⟩
        rw [← hM] at hO2
        have HM := Lib.hid hM
        clear hM
        obtain ⟨Aa, ca, rfl, _⟩ := hO2.rd
        have HO2 := Lib.hid hO2
        have hb3 := HAL.out.trans hb2
        have HB4 := Lib.hid hb3
        have X5k := X5.below hb3 (by have := HLX.out; omega)
        have HOk := Lib.hid (Kd.R_below HO.out hb3)
        have HBK := Lib.hid (HB3.out.trans (hb3.mono (Nat.le_of_lt HLX.out)))
        have hxa : wb.heap.size < wr.heap.size := Xk.lt
        have hx5 : w.heap.size + 1 + 1 + 1 < wb.heap.size := HLX.out
        clear hO2 hb3
        obtain ⟨q0, q1, q2, q3, q4, q5⟩ := Xk.six
        obtain ⟨p0, p1, p2, p3, p4, p5⟩ := X5k.six
        by_cases hk2 : k < L.length
        · have hk3 : (k : Int) < (L.length : Int) := by omega
          have hk0 : (0 : Int) ≤ (k : Int) := by omega
          obtain ⟨e, he⟩ : ∃ y, L[k]? = some y := ⟨L[k], by simp [hk2]⟩
          obtain ⟨ad, hA, a0, a1, a2⟩ := at_T56 (qC_of_rd (OwQ.rd HOk.out)) (k : Int) (by omega) (by rw [List.length_map]; exact hk3)
          rw [rd56 he, Int.toNat_natCast] at a0 a1 a2
          change wr.cell? _ = some (Value.string e.k) at a0
          change wr.cell? _ = some (Value.string e.v) at a1
          change wr.cell? _ = some (Value.bool e.m) at a2
          subst hA
          have HE := Lib.hid he
          clear he
          go_wp2_with fail
          refine Ty.wp_region_ty 8 (by kernel_rfl) (by kernel_rfl) ?_
          simp only [List.take_succ_cons, List.take_zero, List.drop_succ_cons, List.drop_zero]
          refine Ty.pure_ ?_ (fun _ => by rfl) (fun vs wv hb => ?_) ?_
          rotate_left
          · have hb : Below wr.heap.size wr wv := (Below.refl wr.heap.size wr).drew.trans hb
            obtain ⟨q0, q1, q2, q3, q4, q5⟩ := (Xk.below hb hxa).six
            go_simp
            first | done | rfl
          simp only [Act.put, List.setIfInBounds_toArray, List.set_cons_zero, List.set_cons_succ, List.nil_append, List.cons_append, List.length_nil, List.length_cons, Nat.zero_add]
          refine Ty.pure_ ?_ (fun _ => by rfl) (fun vs wv hb => ?_) ?_
          rotate_left
          · have hb : Below wr.heap.size wr wv := (Below.refl wr.heap.size wr).drew.trans hb
            obtain ⟨q0, q1, q2, q3, q4, q5⟩ := (Xk.below hb hxa).six
            go_simp
            first | done | rfl
          simp only [Act.put, List.setIfInBounds_toArray, List.set_cons_zero, List.set_cons_succ, List.nil_append, List.cons_append, List.length_nil, List.length_cons, Nat.zero_add]
          refine Ty.pure_ ?_ (fun _ => by rfl) (fun vs wv hb => ?_) ?_
          rotate_left
          · have hb : Below wr.heap.size wr wv := (Below.refl wr.heap.size wr).drew.trans hb
            skip
            go_simp
            first | done | rfl
          simp only [Act.put, List.setIfInBounds_toArray, List.set_cons_zero, List.set_cons_succ, List.nil_append, List.cons_append, List.length_nil, List.length_cons, Nat.zero_add]
          refine Ty.pure_ ?_ (fun _ => by rfl) (fun vs wv hb => ?_) ?_
          rotate_left
          · have hb : Below wr.heap.size wr wv := (Below.refl wr.heap.size wr).drew.trans hb
            obtain ⟨p0, p1, p2, p3, p4, p5⟩ := (X5k.below hb X5k.lt).six
            go_simp
            first | done | rfl
          simp only [Act.put, List.setIfInBounds_toArray, List.set_cons_zero, List.set_cons_succ, List.nil_append, List.cons_append, List.length_nil, List.length_cons, Nat.zero_add]
          refine Ty.pure_ ?_ (fun _ => by rfl) (fun vs wv hb => ?_) ?_
          rotate_left
          · have hb : Below wr.heap.size wr wv := (Below.refl wr.heap.size wr).drew.trans hb
            skip
            go_simp
            first | done | rfl
          simp only [Act.put, List.setIfInBounds_toArray, List.set_cons_zero, List.set_cons_succ, List.nil_append, List.cons_append, List.length_nil, List.length_cons, Nat.zero_add]
          refine Ty.pure_ ?_ (fun _ => by rfl) (fun vs wv hb => ?_) ?_
          rotate_left
          · have hb : Below wr.heap.size wr wv := (Below.refl wr.heap.size wr).drew.trans hb
            skip
            go_simp
            first | done | rfl
          simp only [Act.put, List.setIfInBounds_toArray, List.set_cons_zero, List.set_cons_succ, List.nil_append, List.cons_append, List.length_nil, List.length_cons, Nat.zero_add]
          refine Ty.pure_ ?_ (fun _ => by rfl) (fun vs wv hb => ?_) ?_
          rotate_left
          · have hb : Below wr.heap.size wr wv := (Below.refl wr.heap.size wr).drew.trans hb
            have a0 := old hb a0; have a1 := old hb a1; have a2 := old hb a2
            go_simp
            first | done | rfl
          simp only [Act.put, List.setIfInBounds_toArray, List.set_cons_zero, List.set_cons_succ, List.nil_append, List.cons_append, List.length_nil, List.length_cons, Nat.zero_add]
          refine Ty.call_ (fun v w' => ∃ b, v = .slice (some ⟨b, 0, none⟩) 1 1 ∧ wr.heap.size ≤ b ∧ Bx w' b #[.string e.k, .string e.v, .bool e.m] 44) (fun v w w' hb ⟨b, h1, h2, h3⟩ => ⟨b, h1, h2, h3.below hb h3.lt⟩) (fun _ => by rfl) (fun vs wv hb hd => ?_) ?_
          · unfold Ty.tyAt
            go_simp
            exact ⟨(Below.refl _ _).alloc (Nat.le_refl _) _, wv.heap.size, rfl, hb.size, bx_new _ _ _⟩
          simp only [Act.put, List.setIfInBounds_toArray, List.set_cons_zero, List.set_cons_succ, List.nil_append, List.cons_append, List.length_nil, List.length_cons, Nat.zero_add]
          intro vs wz hbz hG hAp
          clear hAp
          obtain ⟨bn, e7, l7, x7⟩ := hG 7 _ rfl
          clear hG
          simp only [e7]
          clear e7 vs
          have hbz : Below wr.heap.size wr wz := (Below.refl wr.heap.size wr).drew.trans hbz
          have Xkz := Xk.below hbz hxa
          obtain ⟨q0', q1', q2', q3', q4', q5'⟩ := Xkz.six
          obtain ⟨g0, g1, g2', g3, g4, g5⟩ := Xkz.six_free
          have HOz := Lib.hid (Kd.R_below HO2.out hbz)
          have HRn : Hid (Kd.C k44 wz (some ⟨bn, 0, none⟩) 1 [c44 e]) := ⟨rfl, by decide, fun _ => ⟨_, rfl, fun j p hj => by
            obtain rfl : j = 0 := by
              rcases Nat.eq_zero_or_pos j with h | h
              · exact h
              · rw [List.getElem?_eq_none (by simp; omega)] at hj; cases hj
            obtain rfl : c44 e = p := by injection hj
            exact ⟨[.string e.k, .string e.v, .bool e.m], rfl, k44_mk wz (c44 e), fun i u hu => by
              have h1 := x7.cell i
              have h2 : Addr.add ⟨bn, 0, none⟩ (0 * k44.sz + i) = ⟨bn, i, none⟩ := by rw [Addr.add_lit]; simp
              rw [h2, h1]
              simpa using hu⟩⟩⟩
          obtain ⟨M2, hM2⟩ : ∃ M, M = L.take (k + 1) := ⟨_, rfl⟩
          have HM2 := Lib.hid hM2
          have HTK : Hid (M.map c44 ++ [c44 e] = M2.map c44) := by unfold Hid; rw [HM.out, hM2, take_one HE.out, List.map_append]; rfl
          clear hM2
          have HLK : Hid (M.length ≤ 60) := by have := HLEN.out; unfold Hid; rw [HM.out, List.length_take]; omega
          have HLZ : Hid (wo.heap.size ≤ wz.heap.size) := Nat.le_trans hb2.size hbz.size
          go_wp2_with (first | (at_builtin; refine Kd.R_append_rows k44 (w0 := wz) (W := wz) wo.heap.size rfl (.tmp 88) (.tmp 94) 26 44 _ 40 rfl Try.underlying26 info44 rfl (by decide) (by omega) (.slice Aa M.length ca) _ [c44 e] (some ⟨bn, 0, none⟩) 1 _ (fun _ => True) (fun _ => False) rfl rfl HOz.out HRn.out (fun x cs h => K44_M _ _ _ h) (fun _ h => h.elim) (fun _ _ => trivial) (Below.refl _ _) HLZ.out (by rw [List.length_map]; have := HLK.out; omega) ?_; intro v4 w4 hO4 hb4 hg4 ha4; clear hg4 ha4; rw [HTK.out] at hO4; have X4 := Xkz.below hb4 HLO.out; obtain ⟨r0, r1, r2, r3, r4, r5⟩ := X4.six; obtain ⟨k0, k1, k2, k3, k4, k5⟩ := X4.six_free; obtain ⟨A4, c4, rfl, _⟩ := OwN.rd hO4) | fail)
          have hbe := (hb2.trans (hbz.mono (Nat.le_of_lt hxa))).trans (hb4.mono (Nat.le_of_lt HLO.out))
          have hsx : wb.heap.size ≤ wb.heap.size := Nat.le_refl _
          have hL := HLEN.out
          go_roundw
          case rel => exact ⟨k + 1, _, hk2, rt_next hk2 (Nat.le_trans hL (by decide)), X4.set 5 _, (by rw [← HM2.out]; exact own_set1 hO4 X4 5 _), hbe.setCell hsx _⟩
          case measure => exact rt_measure hk2 (Nat.le_trans hL (by decide))
        · have hkl : k = L.length := by omega
          have hk3 : ¬ (k : Int) < (L.length : Int) := by omega
          have HKL := Lib.hid hkl
          have Z1 := Y1.below HBK.out (by omega)
          have Z2 := Y2.below HBK.out (by omega)
          have HMM : Hid (M = L) := by unfold Hid; rw [HM.out, hkl, List.take_length]
          go_wp2_with fail
          obtain ⟨r0, r1, r2, r3, r4, r5⟩ := Bx.six Z1
          obtain ⟨s0, s1, s2, s3, s4, s5⟩ := Bx.six Z2
          obtain ⟨rf0, rf1, rf2, rf3, rf4, rf5⟩ := Bx.six_free Z1
          obtain ⟨sf0, sf1, sf2, sf3, sf4, sf5⟩ := Bx.six_free Z2
          have n1 : ¬ wb.heap.size = w.heap.size + 1 := by omega
          have n2 : ¬ wb.heap.size = w.heap.size + 1 + 1 := by omega
          have n3 : ¬ w.heap.size + 1 + 1 + 1 = w.heap.size + 1 := by omega
          have n4 : ¬ w.heap.size + 1 + 1 + 1 = w.heap.size + 1 + 1 := by omega
          have n5 : ¬ w.heap.size + 1 = w.heap.size + 1 + 1 := by omega
          go_region
          go_wp2_with fail
          have hON := HO2.out
          rw [HMM.out] at hON
          have hMl : M.length = L.length := by rw [HMM.out]
          rw [hMl]
          rw [hMl] at *
          have hOQ := HOk.out
          have hbl0 : w.heap.size + 1 < wo.heap.size := by have := HLO.out; have := HLX.out; omega
          have hbl1 : w.heap.size + 1 + 1 < wo.heap.size := by have := HLO.out; have := HLX.out; omega
          have hbm0 : w.heap.size + 1 < w1.heap.size := by have := HB1L.out; omega
          have hbm1 : w.heap.size + 1 + 1 < w1.heap.size := by have := HB1L.out; omega
          have hbel0 := HB1.out.trans (HBK.out.mono (by omega))
          generalize hW : World.setCell _ _ _ = W
          obtain ⟨V1, V2, hbel, honN, honQ⟩ := md_end (by omega) Z1 Z2 hW
          have gN := honN _ _ _ hbl0 hbl1 hON
          have gQ := honQ _ _ _ hbm0 hbm1 hOQ
          have hbE := hbel0.trans (hbel w.heap.size (by omega) (by omega))
          clear hW hbel honN honQ
          obtain ⟨x0, x1, x2, x3, x4, x5⟩ := Bx.six V1
          obtain ⟨y0, y1, y2, y3, y4, y5⟩ := Bx.six V2
          refine bodyPost_ret (v := .tuple #[.agg #[.int .i64 5, .int .i64 3, .int .i64 x.level, .int .i64 x.right, .string (x.high.extract 0 (cutN x.high.size 80)), .slice Aa L.length ca], .agg #[.int .i64 5, .int .i64 3, .int .i64 x.level, .int .i64 x.right, .string (x.high.extract 0 (cutN x.high.size 80)), .slice As L.length cs]]) (by simp [results, Try.results9, go_sem, x0, x1, x2, x3, x4, x5, y0, y1, y2, y3, y4, y5]) rfl ?_
          refine ⟨.slice Aa L.length ca, .slice As L.length cs, ?_, ?_, ?_, hbE.drew⟩
          · rw [HP.out]; rfl
          · rw [HP.out]; exact Kd.R_lower gN (by omega)
          · rw [HP.out]; exact Kd.R_lower gQ (by omega)
    obtain ⟨e, he⟩ : ∃ y, x.es[i]? = some y := ⟨x.es[i], by simp [hlt]⟩
    have hlt' : (i : Int) < (x.es.length : Int) := by omega
    have h60' : (i : Int) < 60 := by omega
    have HBW := Lib.hid (HB1.out.trans (hbw.mono (by omega)))
    obtain ⟨ad, hA, a0, a1, a2⟩ := at_T44 (kC_of_rd (HR.out.below HBW.out)) (i : Int) (by omega) (by rw [List.length_map]; exact hlt')
    rw [rd44 he, Int.toNat_natCast] at a0 a1 a2
    change wr.cell? _ = some (Value.string e.k) at a0
    change wr.cell? _ = some (Value.string e.v) at a1
    change wr.cell? _ = some (Value.bool e.m) at a2
    subst hA
    have HE := Lib.hid he
    have HO := Lib.hid hO
    have hck : ((cutN e.k.size 80 : Nat) : Int) ≤ (e.k.size : Int) := by have := cutN_le e.k.size 80; omega
    have hck0 : (0 : Int) ≤ ((cutN e.k.size 80 : Nat) : Int) := by omega
    have hcv : ((cutN e.v.size 120 : Nat) : Int) ≤ (e.v.size : Int) := by have := cutN_le e.v.size 120; omega
    have hcv0 : (0 : Int) ≤ ((cutN e.v.size 120 : Nat) : Int) := by omega
    obtain ⟨As, cs, rfl, _⟩ := hO.rd
    have hlw : w.heap.size < wr.heap.size := Z0.lt
    have hlx : w.heap.size + 1 + 1 + 1 < wr.heap.size := X5.lt
    clear he hO
    obtain ⟨z0, z1, z2, z3, z4⟩ := five Z0
    obtain ⟨p0, p1, p2, p3, p4, p5⟩ := X5.six
    obtain ⟨f0, f1, f2, f3, f4, f5⟩ := X5.six_free
    go_upto_region 7 with (fail)
    go_region
    have hal : Below wr.heap.size wr (wr.alloc (.cells #[.string (e.k.extract 0 (cutN e.k.size 80)), .string (e.v.extract 0 (cutN e.v.size 120)), .bool e.m] 56)).drew := ((Below.refl wr.heap.size wr).alloc (Nat.le_refl _) _).drew
    have E7 : Bx (wr.alloc (.cells #[.string (e.k.extract 0 (cutN e.k.size 80)), .string (e.v.extract 0 (cutN e.v.size 120)), .bool e.m] 56)).drew wr.heap.size #[.string (e.k.extract 0 (cutN e.k.size 80)), .string (e.v.extract 0 (cutN e.v.size 120)), .bool e.m] 56 := bx_new wr _ 56
    generalize World.drew (World.alloc wr _) = W1 at hal E7 ⊢
    have X6 := X5.below hal X5.lt
    have Z6 := Z0.below hal Z0.lt
    have HO6 := Lib.hid (Kd.R_below HO.out hal)
    have HB6 := Lib.hid (hbw.trans (hal.mono (Nat.le_of_lt hlx)))
    have HL6 : Hid (w1.heap.size ≤ W1.heap.size) := Nat.le_trans hbw.size hal.size
    clear a0 a1 a2 z0 z1 z2 z3 z4 p0 p1 p2 p3 p4 p5 f0 f1 f2 f3 f4 f5 HO hck hck0 hcv hcv0 hal X5 Z0 hbw hlw hlx
    obtain ⟨z0, z1, z2, z3, z4⟩ := five Z6
    obtain ⟨p0, p1, p2, p3, p4, p5⟩ := X6.six
    obtain ⟨f0, f1, f2, f3, f4, f5⟩ := X6.six_free
    obtain ⟨e0, e1, e2⟩ := E7.three
    have hlx : w.heap.size + 1 + 1 + 1 < W1.heap.size := X6.lt
    have hle := E7.lt
    have HI1 : Hid (i + 1 ≤ cutN x.es.length 60) := by unfold Hid cutN; omega
    have hmd : enV (mdE e) = .agg #[.string (e.k.extract 0 (cutN e.k.size 80)), .string (e.v.extract 0 (cutN e.v.size 120)), .bool e.m] := rfl
    by_cases htd : x.tidy = true
    rotate_left
    · have htd' : x.tidy = false := by simpa using htd
      have HS : Hid (mdL x (i + 1) = mdL x i ++ [mdE e]) := by unfold Hid; rw [mdL_succ HE.out]; unfold mdS; rw [if_neg htd]
      rw [htd'] at z4
      have HLEN : Hid ((mdL x i).length ≤ 60) := by have := mdL_len x i; unfold Hid; omega
      clear htd htd' hmd
      go_wp2_with (first | (at_builtin; refine Kd.R_append k56 (w0 := W1) (W := W1) w1.heap.size rfl (.tmp 69) (.tmp 71) 29 56 _ 40 rfl Try.underlying29 info56 rfl (by decide) (by omega) (.slice As (mdL x i).length cs) _ (c56 (mdE e)) [.string (e.k.extract 0 (cutN e.k.size 80)), .string (e.v.extract 0 (cutN e.v.size 120)), .bool e.m] (fun _ => True) (fun _ => False) rfl rfl (k56_mkM _ _ _ (c56 (mdE e))) (fun _ h => h.elim) (fun _ _ => trivial) HO6.out (Below.refl _ _) HL6.out (by rw [List.length_map]; have := HLEN.out; omega) ?_; intro v3 w3 hO3 hb3 hg3 ha3; clear hg3 ha3; have X7 := X6.below hb3 (by have := HB1L.out; omega); obtain ⟨q0, q1, q2, q3, q4, q5⟩ := X7.six; obtain ⟨g0, g1, g2', g3, g4, g5⟩ := X7.six_free; have hO4 : OwQ w3 w1.heap.size v3 (mdL x (i + 1)) := (by unfold OwQ; rw [HS.out, List.map_append]; exact hO3); obtain ⟨A3, c3, rfl, _⟩ := hO4.rd) | fail)
      have hbe := HB6.out.trans (hb3.mono (Nat.le_of_lt HB1L.out))
      have hsx : w.heap.size + 1 + 1 + 1 ≤ w.heap.size + 1 + 1 + 1 := Nat.le_refl _
      go_roundw
      case rel => exact ⟨i + 1, _, HI1.out, by go_num, X7.set 5 _, own_setQ1 hO4 X7 5 _, hbe.setCell hsx _⟩
      case measure => simp [intOf]; omega
    · rw [htd] at z4
      have HS : Hid (mdL x (i + 1) = if (ins (mdG x (mdL x i)) (mdE e)).2 = 0 then (ins (mdG x (mdL x i)) (mdE e)).1.es else mdL x i) := by unfold Hid; rw [mdL_succ HE.out]; unfold mdS; rw [if_pos htd]
      have HLEN : Hid ((mdL x i).length ≤ 60) := by have := mdL_len x i; unfold Hid; omega
      obtain ⟨q, m, hins⟩ : ∃ q m, ins (mdG x (mdL x i)) (mdE e) = (q, m) := ⟨_, _, rfl⟩
      have HINS := Lib.hid hins
      clear htd hmd
      go_wp2_with fail
      refine (rinsert_c (mdG x (mdL x i)) (mdE e) W1 (mdL_small x (by omega)) (Nat.le_trans HLEN.out (by decide)) (Nat.le_trans (cutB80_size _) (by decide)) (OwQ.rd HO6.out)).mono ?_
      rw [hins]
      clear hins
      rintro _ w3 ⟨v3, rfl, hO3, hb3⟩
      change OwQ w3 W1.heap.size v3 q.es at hO3
      have X7 := X6.below hb3 X6.lt
      have HO7 := Lib.hid (Kd.R_below HO6.out hb3)
      have HB7 := Lib.hid (HB6.out.trans (hb3.mono (Nat.le_of_lt hlx)))
      have hl7 : w.heap.size + 1 + 1 + 1 < w3.heap.size := X7.lt
      have HL7 : Hid (w1.heap.size ≤ W1.heap.size) := HL6.out
      obtain ⟨A3, c3, rfl, _⟩ := hO3.rd
      clear HO6 HB6 hb3 p0 p1 p2 p3 p4 p5 f0 f1 f2 f3 f4 f5
      obtain ⟨p0, p1, p2, p3, p4, p5⟩ := X7.six
      obtain ⟨f0, f1, f2, f3, f4, f5⟩ := X7.six_free
      by_cases hz : m = 0
      · have hq : q = mdG x q.es := by
          have h1 := ins_yes (p := mdG x (mdL x i)) (e := mdE e) (by rw [HINS.out]; exact hz)
          rw [HINS.out] at h1
          have h2 : q = _ := h1
          rw [h2]
          rfl
        have HS2 : Hid (mdL x (i + 1) = q.es) := by unfold Hid; rw [HS.out, HINS.out]; exact if_pos hz
        generalize q.es = L at hq hO3 HS2
        subst hq
        subst hz
        have hpv : pgV (mdG x L) (.slice A3 L.length c3) = .agg #[.int .i64 5, .int .i64 3, .int .i64 x.level, .int .i64 x.right, .string (x.high.extract 0 (cutN x.high.size 80)), .slice A3 L.length c3] := rfl
        rw [hpv]
        clear hpv
        go_wp2_with fail
        generalize hW4 : World.alloc (World.setCell _ _ _) _ = W4
        obtain ⟨X8, hbel, hown⟩ := store_pageQ X7 hW4
        have HO8 : OwQ W4 w1.heap.size (.slice A3 L.length c3) (mdL x (i + 1)) := by rw [HS2.out]; exact hown _ _ _ (Kd.R_lower hO3 HL7.out)
        have HB8 := HB7.out.trans (hbel _ (Nat.le_refl _))
        clear hW4 hbel hown
        go_roundw
        case rel => exact ⟨i + 1, _, HI1.out, by go_num, X8, HO8, HB8⟩
        case measure => simp [intOf]; omega
      · have hq : q = zero := by
          have h1 := ins_no (p := mdG x (mdL x i)) (e := mdE e) (by rw [HINS.out]; exact hz)
          rw [HINS.out] at h1
          exact h1
        have HS2 : Hid (mdL x (i + 1) = mdL x i) := by unfold Hid; rw [HS.out, HINS.out]; exact if_neg hz
        clear HINS
        subst hq
        have hz1 : (m == 0) = false := by simp [hz]
        have hz2 : ¬ m = 0 := hz
        have hpv : pgV zero (.slice A3 zero.es.length c3) = .agg #[.int .i64 0, .int .i64 0, .int .i64 0, .int .i64 0, .string ⟨#[]⟩, .slice A3 0 c3] := rfl
        rw [hpv]
        clear hpv
        go_wp2_with fail
        have hal := (Below.refl w3.heap.size w3).alloc (Nat.le_refl _) (.cells #[.int .i64 0, .int .i64 0, .int .i64 0, .int .i64 0, .string ⟨#[]⟩, .slice A3 0 c3] 31)
        have X8 := X7.below hal X7.lt
        have HO8 := Kd.R_below HO7.out hal
        have HB8 := HB7.out.trans (hal.mono (Nat.le_of_lt hl7))
        go_roundw
        case rel => exact ⟨i + 1, _, HI1.out, by go_num, X8, (by rw [HS2.out]; exact HO8), HB8⟩
        case measure => simp [intOf]; omega
theorem made_c (w : World) (x : Rw) (A : Option Addr) (c : Nat) (hm : x.es.length ≤ 9223372036854775807) (hr : RdN w (.slice A x.es.length c) x.es) : Calls Try.prog 9 #[rwV x (.slice A x.es.length c)] w fun r w' =>
    ∃ va vb, r = .returned (.tuple #[pgV (mdP x) va, pgV (mdP x) vb]) ∧ RdN w' va (mdP x).es ∧ RdQ w' vb (mdP x).es ∧ Below w.heap.size w w' :=
  (made_o w x A c hm hr).mono fun r w' ⟨va, vb, hx, ha, hb, hbe⟩ => ⟨va, vb, hx, ha.rd, hb.rd, hbe⟩
end Go.Proofs.Ytldmhfpgcflplaa
