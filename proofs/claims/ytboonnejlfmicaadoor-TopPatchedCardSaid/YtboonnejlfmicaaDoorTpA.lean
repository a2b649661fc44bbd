/-
  The contract of Apply.
-/
import Derived.Test.YtboonnejlfmicaaDoorTpP
import Derived.Lib.LazyBuf
import Derived.Laws.IdiomStrings
import Derived.Lib.SmallJoins
set_option linter.unusedVariables false
set_option linter.unusedSimpArgs false
namespace Go.Proofs.YtboonnejlfmicaaDoor
open Go Go.RowKit Go.Proofs.YtboonnejlfmicaaDoor.PA Go.Proofs.YtboonnejlfmicaaDoor.SB Go.Proofs.YtboonnejlfmicaaDoorW.PrintWords
namespace TP
/-- Bytes in a row. -/
structure Row (D : List UInt8) (g : Nat) (wr : World) : Prop where
  cell : ∀ j (hj : j < D.length), wr.cell? ⟨g, j, none⟩ = some (.int .u8 (D[j].toNat : Int))
  free : ∀ j, j < D.length → wr.frozen? ⟨g, j, none⟩ = false
  lt : g < wr.heap.size
theorem row_start (w : World) (T : ByteArray) : Row T.data.toList w.heap.size (Lib.bytesWorld w 5 T) := by
  have hT : T.size ≤ grownCap w T.size 0 5 := grownCap_ge _ _ _ _
  refine ⟨fun j hj => ?_, fun j hj => ?_, by rw [Lib.bytesWorld_size]; omega⟩
  · rw [SB.sizeL] at hj
    rw [Lib.bytesWorld_cell w 5 T j hj, List.getD_eq_getElem?_getD, List.getElem?_eq_getElem (by rw [SB.sizeL]; exact hj)]
    rfl
  · rw [SB.sizeL] at hj
    have h := Lib.bytesWorld_at_new w 5 T
    unfold World.frozen?
    simp only [h]
    have hs : T.size ≤ (Lib.bytesCells w 5 T).size := by simp [Lib.bytesCells]
    simp
    omega
theorem Row.below {D : List UInt8} {g : Nat} {wr w' : World} (h : Row D g wr) (hb : Below wr.heap.size wr w') : Row D g w' :=
  ⟨fun j hj => (hb.cell (p := ⟨g, j, none⟩) h.lt).trans (h.cell j hj), fun j hj => by
    have := hb.block g h.lt
    have h2 := h.free j hj
    unfold World.frozen? at h2 ⊢
    rw [this]
    exact h2, Nat.lt_of_lt_of_le h.lt hb.size⟩
def cellsOf (d : ByteArray) : List Value := d.data.toList.map fun x => Value.int .u8 (x.toNat : Int)
theorem cellsOf_length (d : ByteArray) : (cellsOf d).length = d.size := by unfold cellsOf; rw [List.length_map, SB.sizeL]
theorem size_setCells (g : Nat) : ∀ (vs : List Value) (o : Nat) (w : World), (w.setCells g o vs).heap.size = w.heap.size
  | [], _, _ => rfl
  | v :: r, o, w => by
    show ((w.setCell ⟨g, o, none⟩ v).setCells g (o + 1) r).heap.size = _
    rw [size_setCells g r]
    simp
theorem row_step {D : List UInt8} {g : Nat} {wr : World} {p : Pc} (h : Row D g wr) (hp : p.1 + p.2.size ≤ D.length) : Row (one D p) g (wr.setCells g p.1 (cellsOf p.2)) := by
  have hl := one_length hp
  have hin : ∀ j, j < (cellsOf p.2).length → (wr.cell? ⟨g, p.1 + j, none⟩).isSome = true := fun j hj => by
    rw [cellsOf_length] at hj
    rw [h.cell (p.1 + j) (by omega)]
    rfl
  refine ⟨fun j hj => ?_, fun j hj => by rw [World.frozen?_setCells]; exact h.free j (by omega), by rw [size_setCells]; exact h.lt⟩
  rw [hl] at hj
  by_cases hm : p.1 ≤ j ∧ j < p.1 + p.2.size
  · have h1 := World.cell?_setCells_in g (cellsOf p.2) p.1 wr hin (j - p.1) (by rw [cellsOf_length]; omega)
    rw [show p.1 + (j - p.1) = j by omega] at h1
    rw [h1]
    have e : (one D p)[j]'(by rw [hl]; exact hj) = p.2.data.toList[j - p.1]'(by rw [SB.sizeL]; omega) := by
      simp only [one]
      rw [List.getElem_append_left (by rw [List.length_append, List.length_take, SB.sizeL]; omega), List.getElem_append_right (by rw [List.length_take]; omega)]
      congr 1
      rw [List.length_take]
      omega
    rw [e]
    simp [cellsOf]
  · rw [World.cell?_setCells_out g _ _ _ _ (fun _ _ => by rw [cellsOf_length]; show j < p.1 ∨ _ ≤ j; omega), h.cell j hj]
    have e : (one D p)[j]'(by rw [hl]; exact hj) = D[j]'hj := by
      simp only [one]
      by_cases hlo : j < p.1
      · rw [List.getElem_append_left (by rw [List.length_append, List.length_take, SB.sizeL]; omega), List.getElem_append_left (by rw [List.length_take]; omega), List.getElem_take]
      · rw [List.getElem_append_right (by rw [List.length_append, List.length_take, SB.sizeL]; omega), List.getElem_drop]
        congr 1
        rw [List.length_append, List.length_take, SB.sizeL]
        omega
    rw [e]
theorem okP_last {N : Nat} {l : List Pc} (h : okP N 0 l) (hl : 0 < l.length) : ∃ p, l[l.length - 1]? = some p ∧ p.1 + p.2.size ≤ N := by
  have : l.length - 1 < l.length := by omega
  exact ⟨l[l.length - 1], List.getElem?_eq_getElem this, okP_at h (List.getElem?_eq_getElem this)⟩
theorem okP_pos {N : Nat} : ∀ {l : List Pc} {e i : Nat} {p : Pc}, okP N e l → l[i]? = some p → 0 < p.2.size
  | q :: l, e, 0, p, h, hp => by
    simp at hp
    subst hp
    exact h.1
  | q :: l, e, i + 1, p, h, hp => okP_pos h.2.2.2 (by simpa using hp)
  | [], e, i, p, h, hp => by simp at hp
def ApR (s : ByteArray) (g : Nat) (l : List Pc) (w0 : World) (v : Value) (wr : World) : Prop :=
  ∃ i : Nat, i ≤ l.length ∧ v = .int .i64 i ∧ Below w0.heap.size w0 wr ∧ Row (app s.data.toList (l.take i)) g wr
theorem end_c (p : Pc) (N : Nat) (hN : N ≤ 65535) (h : p.1 + p.2.size ≤ N) (w : World) : Calls Tryd.prog 26 #[.agg #[.int .i64 p.1, .string p.2]] w fun e w' => e = .returned (.int .i64 ((p.1 + p.2.size : Nat) : Int)) ∧ Below w.heap.size w w' := by
  refine patch_Piece_end.calls p.1 p.2 _ w ?_
  unfold patch_Piece_end.f
  rw [show wrap64 ((p.1 : Int) + (p.2.size : Int)) = ((p.1 + p.2.size : Nat) : Int) by unfold wrap64; omega]
set_option maxHeartbeats 4000000 in
set_option maxRecDepth 100000 in
theorem apply_c {w : World} {v : Value} (s : ByteArray) {l : List Pc} {N : Nat} (hN : N ≤ 65535) (hs : s.size = N) (hok : okP N 0 l) (hr : RdP w v l) :
    Calls Tryd.prog 12 #[.string s, v] w fun e w' => e = .returned (.tuple #[.string ⟨(app s.data.toList l).toArray⟩, .int .i64 0]) ∧ Below w.heap.size w w' := by
  subst hs
  have hlen := okP_len (Nat.zero_le _) hok
  have hcv := fun W : World => Lib.run_convert_string_bytes (P := Tryd.prog) W 9 52 5 s Tryd.underlying9 Tryd.underlying52 Tryd.underlying5
  have HR := Lib.hid hr
  obtain ⟨A, c, rfl, hc, hm, hC⟩ := hr
  by_cases h0 : 0 < l.length
  · obtain ⟨q, hq, hqN⟩ := okP_last hok h0
    have h0' : (0 : Int) < (l.length : Int) := by omega
    go_enter Tryd.func12, Tryd.ntmps12
    go_wp2_with fail
    refine (rightP_c hN hok HR.out).mono ?_
    rintro _ w1 ⟨rfl, hb1⟩
    have hw1 : wrap64 ((l.length : Int) - 1) = ((l.length - 1 : Nat) : Int) := by unfold wrap64; omega
    have hi0 : (0 : Int) ≤ ((l.length - 1 : Nat) : Int) := by omega
    have hi1 : ((l.length - 1 : Nat) : Int) < (l.length : Int) := by omega
    obtain ⟨ad, hA, a0, a1⟩ := at_T65 (Kd.C_below hC hb1) ((l.length - 1 : Nat) : Int) hi0 (by rw [List.length_map]; exact hi1)
    rw [rdP hq, Int.toNat_natCast] at a0 a1
    change w1.cell? _ = some (Value.int .i64 q.1) at a0
    change w1.cell? _ = some (Value.string q.2) at a1
    subst hA
    go_wp2_with fail
    refine (end_c q s.size hN hqN w1).mono ?_
    rintro _ w3 ⟨rfl, hb3⟩
    have hle : ¬ (s.size : Int) < ((q.1 + q.2.size : Nat) : Int) := by omega
    go_wp2_with fail
    have hB3 := hb1.trans (hb3.mono hb1.size)
    have hRow := row_start w3 s
    have hB4 : Below w.heap.size w (Lib.bytesWorld w3 5 s) := hB3.trans (Go.Joins.below_bytesWorld _ w3 5 s hB3.size)
    have hcap : s.size ≤ grownCap w3 s.size 0 5 := grownCap_ge _ _ _ _
    have hg : w.heap.size ≤ (w3).heap.size := hB3.size
    generalize grownCap w3 s.size 0 5 = cap at hcap ⊢
    generalize Lib.bytesWorld w3 5 s = w4 at hRow hB4 ⊢
    generalize (w3).heap.size = g at hRow hg ⊢
    clear hB3
    go_loopw [31] (fun v wr => ApR s g l w v wr) (fun v _ => l.length - (intOf v).toNat)
    case atStart => exact ⟨0, Nat.zero_le _, rfl, hB4, by simpa [app] using hRow⟩
    case round =>
      clear hRow hB4
      obtain ⟨i, hi, rfl, hB, hRw⟩ := hrel
      by_cases hlt : i < l.length
      · have hlt' : (i : Int) < (l.length : Int) := by omega
        have hi0 : (0 : Int) ≤ (i : Int) := by omega
        obtain ⟨p, hp⟩ : ∃ y, l[i]? = some y := ⟨l[i], by simp [hlt]⟩
        obtain ⟨ad, hA, a0, a1⟩ := at_T65 (Kd.C_below hC hB) (i : Int) hi0 (by rw [List.length_map]; exact hlt')
        rw [rdP hp, Int.toNat_natCast] at a0 a1
        change wr.cell? _ = some (Value.int .i64 p.1) at a0
        change wr.cell? _ = some (Value.string p.2) at a1
        (first | subst hA | (injection hA with hA; subst hA))
        go_upto_region 9 with (fail)
        have X := bx_new wr #[.int .i64 p.1, .string p.2] 65
        have hb5 : Below wr.heap.size wr (wr.alloc (.cells #[.int .i64 p.1, .string p.2] 65)) := (Below.refl _ _).alloc (Nat.le_refl _) _
        generalize World.alloc wr _ = w5 at X hb5 ⊢
        have hpN := okP_at hok hp
        have HP := Lib.hid hp
        have hps : 0 < p.2.size := okP_pos hok hp
        have q2 : p.1 ≤ s.size := by omega
        have q4 : ¬ cap = p.1 := by omega
        have hli : (app s.data.toList (l.take i)).length = s.size := by rw [app_length (e := 0) (by rw [SB.sizeL]; exact okP_take i hok), SB.sizeL]
        clear hp
        as_aux_lemma =>
        refine QT.wp_region_quiet_tail (C := fun w' => Below w5.heap.size w5 w') 6 (by kernel_rfl) (by kernel_rfl) (Below.refl _ _).drew ?_
        simp only [List.take_succ_cons, List.take_zero, List.drop_succ_cons, List.drop_zero]
        repeat (first
          | go_big_quiet_skip
          | (go_big_quiet_want
             refine quiet_of (v := ?_) (fun wv hwv => ?_) ?_
             rotate_left
             · obtain ⟨c0, c1⟩ := (X.below hwv X.lt).two
               go_simp
               first | done | rfl | exact ⟨rfl, rfl⟩
             (try simp only [Act.put, List.setIfInBounds_toArray, List.set_cons_zero, List.set_cons_succ])
             go_big_quiet_on))
        refine wpQuiet_nil ?_
        intro wz hwz
        have hbz : Below wr.heap.size wr wz := hb5.trans (hwz.mono hb5.size)
        have hRz := hRw.below hbz
        have hcp := run_copy_string (P := Tryd.prog) wz 52 9 3 5 g p.1 (s.size - p.1) (cap - p.1) p.2 Tryd.underlying52 Tryd.sizeOf5 (by omega) (fun j hj => by rw [hRz.cell (p.1 + j) (by omega)]; rfl) (fun j hj => hRz.free (p.1 + j) (by omega))
        change _ = Result.ok _ (wz.setCells g p.1 (cellsOf p.2)) at hcp
        have hRn : Hid (Row (app s.data.toList (l.take (i + 1))) g (wz.setCells g p.1 (cellsOf p.2))) := by
          unfold Hid
          rw [take_one HP.out, app_snoc]
          exact row_step hRz (by rw [hli]; exact hpN)
        have hBn : Hid (Below w.heap.size w (wz.setCells g p.1 (cellsOf p.2))) := below_setCells hg _ _ _ (hB.trans (hbz.mono hB.size))
        generalize wz.setCells g p.1 (cellsOf p.2) = w6 at hcp hRn hBn
        go_wp2_with fail
        go_roundw
        case rel => exact ⟨i + 1, hlt, by go_num, hBn.out, hRn.out⟩
        case measure => exact rt_measure hlt (rt_small hi hlen hN)
      · have hlt' : ¬ (i : Int) < (l.length : Int) := by omega
        have hil : i = l.length := by omega
        subst hil
        rw [List.take_length] at hRw
        have hli : (app s.data.toList l).length = s.size := by rw [app_length (e := 0) (by rw [SB.sizeL]; exact hok), SB.sizeL]
        have hbk := run_convert_bytes_back (P := Tryd.prog) wr 52 9 5 ⟨g, 0, none⟩ cap (app s.data.toList l) Tryd.underlying52 Tryd.underlying5 Tryd.underlying9 (fun j hj => by
          rw [show (⟨g, 0, none⟩ : Addr).add j = ⟨g, j, none⟩ by rw [Addr.add_lit]; simp]
          exact hRw.cell j hj)
        rw [hli] at hbk
        go_wp2_with fail
        go_ret2
        exact ⟨rfl, hB⟩
  · have h0' : ¬ (0 : Int) < (l.length : Int) := by omega
    go_enter Tryd.func12, Tryd.ntmps12
    go_wp2_with fail
    refine (rightP_c hN hok HR.out).mono ?_
    rintro _ w1 ⟨rfl, hb1⟩
    go_wp2_with fail
    have hB3 := hb1
    have hRow := row_start w1 s
    have hB4 : Below w.heap.size w (Lib.bytesWorld w1 5 s) := hB3.trans (Go.Joins.below_bytesWorld _ w1 5 s hB3.size)
    have hcap : s.size ≤ grownCap w1 s.size 0 5 := grownCap_ge _ _ _ _
    have hg : w.heap.size ≤ (w1).heap.size := hB3.size
    generalize grownCap w1 s.size 0 5 = cap at hcap ⊢
    generalize Lib.bytesWorld w1 5 s = w4 at hRow hB4 ⊢
    generalize (w1).heap.size = g at hRow hg ⊢
    clear hB3
    go_loopw [31] (fun v wr => ApR s g l w v wr) (fun v _ => l.length - (intOf v).toNat)
    case atStart => exact ⟨0, Nat.zero_le _, rfl, hB4, by simpa [app] using hRow⟩
    case round =>
      clear hRow hB4
      obtain ⟨i, hi, rfl, hB, hRw⟩ := hrel
      by_cases hlt : i < l.length
      · exact absurd hlt (by omega)
      · have hlt' : ¬ (i : Int) < (l.length : Int) := by omega
        have hil : i = l.length := by omega
        subst hil
        rw [List.take_length] at hRw
        have hli : (app s.data.toList l).length = s.size := by rw [app_length (e := 0) (by rw [SB.sizeL]; exact hok), SB.sizeL]
        have hbk := run_convert_bytes_back (P := Tryd.prog) wr 52 9 5 ⟨g, 0, none⟩ cap (app s.data.toList l) Tryd.underlying52 Tryd.underlying5 Tryd.underlying9 (fun j hj => by
          rw [show (⟨g, 0, none⟩ : Addr).add j = ⟨g, j, none⟩ by rw [Addr.add_lit]; simp]
          exact hRw.cell j hj)
        rw [hli] at hbk
        go_wp2_with fail
        go_ret2
        exact ⟨rfl, hB⟩
end TP
end Go.Proofs.YtboonnejlfmicaaDoor
