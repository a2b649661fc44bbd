/-
  The program's Insert.
-/
import Derived.Test.YtldmhfpgcflplaaNdAdd
set_option linter.unusedVariables false
set_option linter.unusedSimpArgs false
namespace Go.Proofs.Ytldmhfpgcflplaa
open Go Go.RowKit Go.Proofs.Ytldmhfpgcflplaa.PA Go.Proofs.YtldmhfpgcflplaaW.PrintWords NdP

/-- What is answered: a page and an error's number. -/
def PgPost (w : World) (r : Pg × Int) (x : Ending) (w' : World) : Prop := ∃ v, x = .returned (.tuple #[pgV r.1 v, .int .i64 r.2]) ∧ OwN w' w.heap.size v r.1.es ∧ Below w.heap.size w w'
theorem PgPost.zero {w w' : World} (n : Int) (h : Below w.heap.size w w') : PgPost w (NdP.zero, n) (.returned (.tuple #[.agg #[.int .i64 0, .int .i64 0, .int .i64 0, .int .i64 0, .string ⟨#[]⟩, .slice none 0 0], .int .i64 n])) w' := ⟨_, rfl, Kd.R_nil _ _ _ _ _, h⟩

def Bx (w : World) (b : Nat) (cs : Array Value) (t : Nat) : Prop := w.heap[b]? = some (.cells cs t (0, 0))
theorem Bx.cell {w : World} {b t : Nat} {cs : Array Value} (h : Bx w b cs t) (i : Nat) : w.cell? ⟨b, i, none⟩ = cs[i]? := blk_cell h i
theorem Bx.free {w : World} {b t : Nat} {cs : Array Value} (h : Bx w b cs t) (i : Nat) : w.frozen? ⟨b, i, none⟩ = false := blk_frozen h i
theorem Bx.below {w w' : World} {b t B : Nat} {cs : Array Value} (h : Bx w b cs t) (hb : Below B w w') (hB : b < B) : Bx w' b cs t := (hb.block b hB).trans h
theorem Bx.lt {w : World} {b t : Nat} {cs : Array Value} (h : Bx w b cs t) : b < w.heap.size := blk_lt h
theorem Bx.six {w : World} {b t : Nat} {a0 a1 a2 a3 a4 a5 : Value} (h : Bx w b #[a0, a1, a2, a3, a4, a5] t) : w.cell? ⟨b, 0, none⟩ = some a0 ∧ w.cell? ⟨b, 1, none⟩ = some a1 ∧ w.cell? ⟨b, 2, none⟩ = some a2 ∧ w.cell? ⟨b, 3, none⟩ = some a3 ∧ w.cell? ⟨b, 4, none⟩ = some a4 ∧ w.cell? ⟨b, 5, none⟩ = some a5 :=
  ⟨h.cell 0, h.cell 1, h.cell 2, h.cell 3, h.cell 4, h.cell 5⟩
theorem Bx.three {w : World} {b t : Nat} {a0 a1 a2 : Value} (h : Bx w b #[a0, a1, a2] t) : w.cell? ⟨b, 0, none⟩ = some a0 ∧ w.cell? ⟨b, 1, none⟩ = some a1 ∧ w.cell? ⟨b, 2, none⟩ = some a2 :=
  ⟨h.cell 0, h.cell 1, h.cell 2⟩
theorem Bx.six_free {w : World} {b t : Nat} {a0 a1 a2 a3 a4 a5 : Value} (h : Bx w b #[a0, a1, a2, a3, a4, a5] t) : w.frozen? ⟨b, 0, none⟩ = false ∧ w.frozen? ⟨b, 1, none⟩ = false ∧ w.frozen? ⟨b, 2, none⟩ = false ∧ w.frozen? ⟨b, 3, none⟩ = false ∧ w.frozen? ⟨b, 4, none⟩ = false ∧ w.frozen? ⟨b, 5, none⟩ = false :=
  ⟨h.free 0, h.free 1, h.free 2, h.free 3, h.free 4, h.free 5⟩
theorem bx_new (w : World) (cs : Array Value) (t : Nat) : Bx (w.alloc (.cells cs t (0, 0))) w.heap.size cs t := heap_alloc_new w _
theorem bx_old {w : World} {b t : Nat} {cs : Array Value} (h : Bx w b cs t) (o : Obj) : Bx (w.alloc o) b cs t := ((Below.refl w.heap.size w).alloc (Nat.le_refl _) o |>.block b h.lt).trans h
theorem bx_at {w : World} {b b' t : Nat} {cs : Array Value} (h : Bx w b cs t) (e : b = b') : Bx w b' cs t := e ▸ h

theorem OwN.set6 {w W : World} {base b : Nat} {s : Value} {l : List Ent} {v0 v1 v2 v3 v4 v5 : Value} {w7 : World} (h : OwN w base s l) (hb : Below w.heap.size w w7) (hlt : b < base)
    (hW : (((((w7.setCell ⟨b, 0, none⟩ v0).setCell ⟨b, 1, none⟩ v1).setCell ⟨b, 2, none⟩ v2).setCell ⟨b, 3, none⟩ v3).setCell ⟨b, 4, none⟩ v4).setCell ⟨b, 5, none⟩ v5 = W) : OwN W base s l := by
  subst hW
  refine Kd.R_mono (Kd.R_move (Kd.R_bound h) (fun k hk => ?_)) (fun _ _ => trivial)
  have hne : k ≠ b := by have := hk.2.1; omega
  rw [Below.heap_setCell _ _ _ _ hne, Below.heap_setCell _ _ _ _ hne, Below.heap_setCell _ _ _ _ hne, Below.heap_setCell _ _ _ _ hne, Below.heap_setCell _ _ _ _ hne, Below.heap_setCell _ _ _ _ hne]
  exact hb.block k hk.2.2.1

/-- Three boxes made by a call. -/
def Fr3 (w w1 : World) (cs0 : Array Value) (t0 : Nat) (cs1 : Array Value) (t1 : Nat) (cs2 : Array Value) (t2 : Nat) : Prop :=
  Below w.heap.size w w1 ∧ Bx w1 w.heap.size cs0 t0 ∧ Bx w1 (w.heap.size + 1) cs1 t1 ∧ Bx w1 (w.heap.size + 1 + 1) cs2 t2 ∧ w.heap.size + 1 + 1 < w1.heap.size
theorem Fr3.start (w : World) (cs0 : Array Value) (t0 : Nat) (cs1 : Array Value) (t1 : Nat) (cs2 : Array Value) (t2 : Nat) : Fr3 w (((w.alloc (.cells cs0 t0 (0, 0))).alloc (.cells cs1 t1 (0, 0))).alloc (.cells cs2 t2 (0, 0))) cs0 t0 cs1 t1 cs2 t2 := by
  refine ⟨?_, bx_old (bx_old (bx_new _ _ _) _) _, bx_old (bx_at (bx_new _ _ _) (by simp)) _, bx_at (bx_new _ _ _) (by simp), by simp⟩
  exact (((Below.refl w.heap.size w).alloc (Nat.le_refl _) _).alloc (by simp <;> omega) _).alloc (by simp <;> omega) _
section
variable {w w1 w2 : World} {cs0 cs1 cs2 : Array Value} {t0 t1 t2 : Nat}
theorem Fr3.below (h : Fr3 w w1 cs0 t0 cs1 t1 cs2 t2) (hb : Below w1.heap.size w1 w2) : Fr3 w w2 cs0 t0 cs1 t1 cs2 t2 := by
  obtain ⟨h0, h1, h2, h3, h4⟩ := h
  exact ⟨h0.trans (hb.mono h0.size), h1.below hb h1.lt, h2.below hb h2.lt, h3.below hb h3.lt, Nat.lt_of_lt_of_le h4 hb.size⟩
theorem Fr3.alloc (h : Fr3 w w1 cs0 t0 cs1 t1 cs2 t2) (o : Obj) : Fr3 w (w1.alloc o) cs0 t0 cs1 t1 cs2 t2 := h.below ((Below.refl _ _).alloc (Nat.le_refl _) o)
theorem Fr3.drew (h : Fr3 w w1 cs0 t0 cs1 t1 cs2 t2) : Fr3 w w1.drew cs0 t0 cs1 t1 cs2 t2 := h.below (Below.refl _ _).drew
theorem Fr3.bel (h : Fr3 w w1 cs0 t0 cs1 t1 cs2 t2) : Below w.heap.size w w1 := h.1
theorem Fr3.b0 (h : Fr3 w w1 cs0 t0 cs1 t1 cs2 t2) : Bx w1 w.heap.size cs0 t0 := h.2.1
theorem Fr3.b1 (h : Fr3 w w1 cs0 t0 cs1 t1 cs2 t2) : Bx w1 (w.heap.size + 1) cs1 t1 := h.2.2.1
theorem Fr3.b2 (h : Fr3 w w1 cs0 t0 cs1 t1 cs2 t2) : Bx w1 (w.heap.size + 1 + 1) cs2 t2 := h.2.2.2.1
end

theorem RdN.alloc3 {w : World} {s : Value} {l : List Ent} {a b c : Obj} (h : RdN w s l) : RdN (((w.alloc a).alloc b).alloc c) s l :=
  h.below ((((Below.refl w.heap.size w).alloc (Nat.le_refl _) _).alloc (by simp) _).alloc (by simp; omega) _)
theorem Bx.set {w : World} {b t : Nat} {cs : Array Value} (h : Bx w b cs t) (i : Nat) (u : Value) : Bx (w.setCell ⟨b, i, none⟩ u) b (cs.setIfInBounds i u) t := blk_set h i u
theorem Bx.set6 {w W : World} {b t : Nat} {a0 a1 a2 a3 a4 a5 v0 v1 v2 v3 v4 v5 : Value} (h : Bx w b #[a0, a1, a2, a3, a4, a5] t)
    (hW : (((((w.setCell ⟨b, 0, none⟩ v0).setCell ⟨b, 1, none⟩ v1).setCell ⟨b, 2, none⟩ v2).setCell ⟨b, 3, none⟩ v3).setCell ⟨b, 4, none⟩ v4).setCell ⟨b, 5, none⟩ v5 = W) : Bx W b #[v0, v1, v2, v3, v4, v5] t := by
  subst hW
  exact (((((h.set 0 v0).set 1 v1).set 2 v2).set 3 v3).set 4 v4).set 5 v5
theorem bel_set6 {B : Nat} {w0 w W : World} {b : Nat} {v0 v1 v2 v3 v4 v5 : Value} (h : Below B w0 w) (hb : B ≤ b)
    (hW : (((((w.setCell ⟨b, 0, none⟩ v0).setCell ⟨b, 1, none⟩ v1).setCell ⟨b, 2, none⟩ v2).setCell ⟨b, 3, none⟩ v3).setCell ⟨b, 4, none⟩ v4).setCell ⟨b, 5, none⟩ v5 = W) : Below B w0 W := by
  subst hW
  exact (((((h.setCell hb v0).setCell hb v1).setCell hb v2).setCell hb v3).setCell hb v4).setCell hb v5


def pzV : Array Value := #[.int .i64 0, .int .i64 0, .int .i64 0, .int .i64 0, .string ⟨#[]⟩, .slice none 0 0]

theorem nine {w w1 : World} {a0 a1 a2 a3 a4 a5 b0 b1 b2 : Value} {t0 t1 : Nat} {cs2 : Array Value} {t2 : Nat} (h : Fr3 w w1 #[a0, a1, a2, a3, a4, a5] t0 #[b0, b1, b2] t1 cs2 t2) :
    w1.cell? ⟨w.heap.size, 0, none⟩ = some a0 ∧ w1.cell? ⟨w.heap.size, 1, none⟩ = some a1 ∧ w1.cell? ⟨w.heap.size, 2, none⟩ = some a2 ∧ w1.cell? ⟨w.heap.size, 3, none⟩ = some a3 ∧ w1.cell? ⟨w.heap.size, 4, none⟩ = some a4 ∧ w1.cell? ⟨w.heap.size, 5, none⟩ = some a5 ∧
      w1.cell? ⟨w.heap.size + 1, 0, none⟩ = some b0 ∧ w1.cell? ⟨w.heap.size + 1, 1, none⟩ = some b1 ∧ w1.cell? ⟨w.heap.size + 1, 2, none⟩ = some b2 :=
  ⟨h.b0.cell 0, h.b0.cell 1, h.b0.cell 2, h.b0.cell 3, h.b0.cell 4, h.b0.cell 5, h.b1.cell 0, h.b1.cell 1, h.b1.cell 2⟩
theorem nine_alloc {w w1 : World} {o : Obj} {a0 a1 a2 a3 a4 a5 b0 b1 b2 : Value} {t0 t1 : Nat} {cs2 : Array Value} {t2 : Nat} (h : Fr3 w w1 #[a0, a1, a2, a3, a4, a5] t0 #[b0, b1, b2] t1 cs2 t2) :
    (w1.alloc o).cell? ⟨w.heap.size, 0, none⟩ = some a0 ∧ (w1.alloc o).cell? ⟨w.heap.size, 1, none⟩ = some a1 ∧ (w1.alloc o).cell? ⟨w.heap.size, 2, none⟩ = some a2 ∧ (w1.alloc o).cell? ⟨w.heap.size, 3, none⟩ = some a3 ∧ (w1.alloc o).cell? ⟨w.heap.size, 4, none⟩ = some a4 ∧ (w1.alloc o).cell? ⟨w.heap.size, 5, none⟩ = some a5 ∧
      (w1.alloc o).cell? ⟨w.heap.size + 1, 0, none⟩ = some b0 ∧ (w1.alloc o).cell? ⟨w.heap.size + 1, 1, none⟩ = some b1 ∧ (w1.alloc o).cell? ⟨w.heap.size + 1, 2, none⟩ = some b2 :=
  nine (h.below ((Below.refl _ _).alloc (Nat.le_refl _) o))
theorem Bx.far {w : World} {b t : Nat} {cs : Array Value} (h : Bx w b cs t) {p : Addr} (hp : b ≠ p.block) (u : Value) : Bx (w.setCell p u) b cs t := blk_far h hp u
theorem Bx.far6 {w : World} {g b t : Nat} {cs : Array Value} (h : Bx w g cs t) (hb : g ≠ b) (v0 v1 v2 v3 v4 v5 : Value) :
    Bx ((((((w.setCell ⟨b, 0, none⟩ v0).setCell ⟨b, 1, none⟩ v1).setCell ⟨b, 2, none⟩ v2).setCell ⟨b, 3, none⟩ v3).setCell ⟨b, 4, none⟩ v4).setCell ⟨b, 5, none⟩ v5) g cs t :=
  (((((h.far hb v0).far hb v1).far hb v2).far hb v3).far hb v4).far hb v5
theorem Fr3.set6 {w w1 : World} {cs0 cs1 : Array Value} {t0 t1 t2 : Nat} {a0 a1 a2 a3 a4 a5 : Value} (h : Fr3 w w1 cs0 t0 cs1 t1 #[a0, a1, a2, a3, a4, a5] t2) (v0 v1 v2 v3 v4 v5 : Value) :
    Fr3 w ((((((w1.setCell ⟨w.heap.size + 1 + 1, 0, none⟩ v0).setCell ⟨w.heap.size + 1 + 1, 1, none⟩ v1).setCell ⟨w.heap.size + 1 + 1, 2, none⟩ v2).setCell ⟨w.heap.size + 1 + 1, 3, none⟩ v3).setCell ⟨w.heap.size + 1 + 1, 4, none⟩ v4).setCell ⟨w.heap.size + 1 + 1, 5, none⟩ v5) cs0 t0 cs1 t1 #[v0, v1, v2, v3, v4, v5] t2 :=
  ⟨bel_set6 h.bel (by omega) rfl, h.b0.far6 (by omega) _ _ _ _ _ _, h.b1.far6 (by omega) _ _ _ _ _ _, h.b2.set6 rfl, by simpa using h.2.2.2.2⟩
set_option maxRecDepth 100000 in
set_option maxHeartbeats 1600000 in
theorem insert_c (p : Pg) (e : Ent) {s : Value} (w : World) (hS : Sorted p.es) (hs : Small p.es) (hh : p.high.size ≤ 1000) (hr : RdN w s p.es) : Calls Try.prog 17 #[pgV p s, enV e] w (PgPost w (ins p e)) := by
  by_cases h1 : 64 < e.k.size
  · have HI : ins p e = (zero, 1) := by unfold ins; rw [if_pos (Or.inl h1)]
    rw [HI]
    clear HI
    obtain ⟨A, c, rfl, _⟩ := hr
    have h1' : (64 : Int) < (e.k.size : Int) := by omega
    unfold pgV enV
    go_enter Try.func17, Try.ntmps17
    go_wp2_with fail
    refine bodyPost_ret (v := .tuple #[.agg #[.int .i64 0, .int .i64 0, .int .i64 0, .int .i64 0, .string ⟨#[]⟩, .slice none 0 0], .int .i64 1]) (by simp [results, Try.results17, go_sem]) rfl (PgPost.zero _ ?_)
    repeat (first | exact Below.refl _ _ | assumption | refine Below.drew ?_ | refine Below.setCell ?_ (by simp <;> omega) _ | refine Below.alloc ?_ (by simp <;> omega) _)
  by_cases h2 : 100 < e.v.size
  · have HI : ins p e = (zero, 1) := by unfold ins; rw [if_pos (Or.inr (Or.inl h2))]
    rw [HI]
    clear HI
    obtain ⟨A, c, rfl, _⟩ := hr
    have h1' : ¬ (64 : Int) < (e.k.size : Int) := by omega
    have h2' : (100 : Int) < (e.v.size : Int) := by omega
    unfold pgV enV
    go_enter Try.func17, Try.ntmps17
    go_wp2_with fail
    refine bodyPost_ret (v := .tuple #[.agg #[.int .i64 0, .int .i64 0, .int .i64 0, .int .i64 0, .string ⟨#[]⟩, .slice none 0 0], .int .i64 1]) (by simp [results, Try.results17, go_sem]) rfl (PgPost.zero _ ?_)
    repeat (first | exact Below.refl _ _ | assumption | refine Below.drew ?_ | refine Below.setCell ?_ (by simp <;> omega) _ | refine Below.alloc ?_ (by simp <;> omega) _)
  have h1' : ¬ (64 : Int) < (e.k.size : Int) := by omega
  have h2' : ¬ (100 : Int) < (e.v.size : Int) := by omega
  have HR := Lib.hid hr
  obtain ⟨A, c, rfl, hc, hm, hC⟩ := hr
  have HC := Lib.hid hC
  clear hC
  unfold pgV enV
  go_enter Try.func17, Try.ntmps17
  go_wp2_with fail
  refine (covers_c (p := p) HR.out.alloc3).mono ?_
  rintro _ w1 ⟨rfl, hb1⟩
  have F1 := (Fr3.start w _ _ _ _ _ _).below hb1
  obtain ⟨c0, c1, c2, c3, c4, c5⟩ := F1.b0.six
  obtain ⟨e0, e1, e2⟩ := F1.b1.three
  obtain ⟨r0, r1, r2, r3, r4, r5⟩ := F1.b2.six
  obtain ⟨f0, f1, f2, f3, f4, f5⟩ := F1.b2.six_free
  cases hcv : covers p e.k
  · have HI : ins p e = (zero, 1) := by unfold ins; rw [if_pos (Or.inr (Or.inr hcv))]
    clear hcv
    go_wp2_with fail
    generalize hW : World.setCell _ _ _ = W
    have hbl := bel_set6 F1.bel (by omega) hW
    obtain ⟨x0, x1, x2, x3, x4, x5⟩ := (F1.b2.set6 hW).six
    refine bodyPost_ret (v := .tuple #[.agg #[.int .i64 0, .int .i64 0, .int .i64 0, .int .i64 0, .string ⟨#[]⟩, .slice none 0 0], .int .i64 1]) (by simp [results, Try.results17, go_sem, x0, x1, x2, x3, x4, x5]) rfl ?_
    rw [HI]
    exact PgPost.zero _ hbl
  have hcov : covers p e.k = true := hcv
  clear hcv
  go_wp2_with fail
  refine (find_c (p := p) hS hs.1 (HR.out.alloc3.below hb1)).mono ?_
  rintro _ w2 ⟨rfl, hb2⟩
  have F2 := F1.below hb2
  clear c0 c1 c2 c3 c4 c5 e0 e1 e2 r0 r1 r2 r3 r4 r5 f0 f1 f2 f3 f4 f5
  obtain ⟨c0, c1, c2, c3, c4, c5⟩ := F2.b0.six
  obtain ⟨e0, e1, e2⟩ := F2.b1.three
  obtain ⟨r0, r1, r2, r3, r4, r5⟩ := F2.b2.six
  obtain ⟨f0, f1, f2, f3, f4, f5⟩ := F2.b2.six_free
  cases hth : there p.es e.k
  rotate_left
  · have HI : ins p e = (zero, 12) := by unfold ins; rw [if_neg (by simp [h1, h2, hcov]), if_pos hth]
    clear hth
    go_wp2_with fail
    generalize hW : World.setCell _ _ _ = W
    have hbl := bel_set6 F2.bel (by omega) hW
    obtain ⟨x0, x1, x2, x3, x4, x5⟩ := (F2.b2.set6 hW).six
    refine bodyPost_ret (v := .tuple #[.agg #[.int .i64 0, .int .i64 0, .int .i64 0, .int .i64 0, .string ⟨#[]⟩, .slice none 0 0], .int .i64 12]) (by simp [results, Try.results17, go_sem, x0, x1, x2, x3, x4, x5]) rfl ?_
    rw [HI]
    exact PgPost.zero _ hbl
  go_wp2_with fail
  have F2d := F2.drew
  have HR2 := Lib.hid ((HR.out.alloc3.below hb1).below hb2)
  go_region_held3 (fun w' => w'.cell? ⟨w.heap.size, 0, none⟩ = some (.int .i64 p.lsn) ∧ w'.cell? ⟨w.heap.size, 1, none⟩ = some (.int .i64 p.kind) ∧ w'.cell? ⟨w.heap.size, 2, none⟩ = some (.int .i64 p.level) ∧ w'.cell? ⟨w.heap.size, 3, none⟩ = some (.int .i64 p.right) ∧ w'.cell? ⟨w.heap.size, 4, none⟩ = some (.string p.high) ∧ w'.cell? ⟨w.heap.size, 5, none⟩ = some (.slice A p.es.length c) ∧
      w'.cell? ⟨w.heap.size + 1, 0, none⟩ = some (.string e.k) ∧ w'.cell? ⟨w.heap.size + 1, 1, none⟩ = some (.string e.v) ∧ w'.cell? ⟨w.heap.size + 1, 2, none⟩ = some (.bool e.m)) (first | exact nine (by assumption))
    (first | (go_at_call 16; refine (free_c (p := p) hs hh (RdN.below HR2.out (Below.refl _ _).drew)).mono ?_; rintro e w3 ⟨rfl, hb3⟩; have F3 := F2.drew.below hb3) | (go_at_call 19; refine (size_c (e := e) (by omega)).mono ?_; rintro e w4 ⟨rfl, hb4⟩; have F4 := F3.below hb4))
  have HL := Lib.hid hs.1
  have HP := Lib.hid (place_le p.es e.k)
  by_cases hf : free p < (size e : Int)
  · have HI : ins p e = (zero, 8) := by unfold ins; rw [if_neg (by simp [h1, h2, hcov]), if_neg (by simp [hth]), if_pos hf]
    clear hth
    obtain ⟨f0, f1, f2, f3, f4, f5⟩ := F4.b2.six_free
    obtain ⟨r0, r1, r2, r3, r4, r5⟩ := F4.b2.six
    go_wp2_with fail
    generalize hW : World.setCell _ _ _ = W
    have hbl := bel_set6 F4.bel (by omega) hW
    obtain ⟨x0, x1, x2, x3, x4, x5⟩ := (F4.b2.set6 hW).six
    refine bodyPost_ret (v := .tuple #[.agg #[.int .i64 0, .int .i64 0, .int .i64 0, .int .i64 0, .string ⟨#[]⟩, .slice none 0 0], .int .i64 8]) (by simp [results, Try.results17, go_sem, x0, x1, x2, x3, x4, x5]) rfl ?_
    rw [HI]
    exact PgPost.zero _ hbl
  have HI : ins p e = ({ p with es := p.es.take (place p.es e.k) ++ e :: p.es.drop (place p.es e.k) }, 0) := by unfold ins; rw [if_neg (by simp [h1, h2, hcov]), if_neg (by simp [hth]), if_neg hf]
  clear hth
  have F4d := F4.drew
  have HC4 := Lib.hid (Kd.C_below HC.out F4d.bel)
  have HCt := Lib.hid (C_take44 _ HP.out HC4.out)
  have HCd := Lib.hid (C_drop44 _ HP.out hc HC4.out)
  have hl1 : (p.es.take (place p.es e.k)).length = place p.es e.k := by rw [List.length_take]; have := HP.out; omega
  have HL1 := Lib.hid hl1
  clear hl1
  generalize hn : place p.es e.k = n at *
  have hcd := HCd.out
  clear HCd
  by_cases hcn : c = n
  · rw [if_pos hcn] at hcd
    have HCd := Lib.hid hcd
    clear hcd
    obtain rfl : n = c := hcn.symm
    have hn0 : (0 : Int) ≤ (n : Int) := by omega
    have hn1 : (n : Int) ≤ (p.es.length : Int) := by have := HP.out; omega
    have hn2 : (n : Int) ≤ (n : Int) := by omega
    go_wp2_with fail
    obtain ⟨L, hL⟩ : ∃ L, L = p.es.take n ++ [e] ++ p.es.drop n := ⟨_, rfl⟩
    have HLL := Lib.hid hL
    clear hL
    go_region_held3 (fun w' => w'.cell? ⟨w.heap.size, 0, none⟩ = some (.int .i64 p.lsn) ∧ w'.cell? ⟨w.heap.size, 1, none⟩ = some (.int .i64 p.kind) ∧ w'.cell? ⟨w.heap.size, 2, none⟩ = some (.int .i64 p.level) ∧ w'.cell? ⟨w.heap.size, 3, none⟩ = some (.int .i64 p.right) ∧ w'.cell? ⟨w.heap.size, 4, none⟩ = some (.string p.high) ∧ w'.cell? ⟨w.heap.size, 5, none⟩ = some (.slice A p.es.length n) ∧
        w'.cell? ⟨w.heap.size + 1, 0, none⟩ = some (.string e.k) ∧ w'.cell? ⟨w.heap.size + 1, 1, none⟩ = some (.string e.v) ∧ w'.cell? ⟨w.heap.size + 1, 2, none⟩ = some (.bool e.m)) (first | with_reducible exact nine F7 | with_reducible exact nine F6 | with_reducible exact nine F5 | with_reducible exact nine F4d | with_reducible exact nine (Fr3.drew (Fr3.alloc F4 _)) | exact nine (Fr3.set6 F7 _ _ _ _ _ _))
      (first
        | (refine step_append_full_N (W := w4.drew) (by rfl) (.tmp 48) (.tmp 50) rfl (l := p.es.take n) e (by rw [HL1.out]; rfl) rfl (by rw [HL1.out]; have := HL.out; have := HP.out; omega) HCt.out ?_; intro v5 w5 hO5 hb5; have F5 := F4d.below hb5)
        | (refine step_append_rows_N (w0 := w4.drew) (W := w5) (by rfl) (.tmp 51) (.tmp 55) rfl (m := p.es.drop n) (by rw [List.length_drop]; try (have := HP.out; omega)) rfl rfl hO5 (by rw [List.length_append, HL1.out, List.length_drop]; have := HL.out; have := HP.out; simp; omega) (Kd.C_below HCd.out hb5) hb5 ?_; intro v6 w6 hO6 hb6; rw [← HLL.out] at hO6; have F6 := F4d.below hb6; obtain ⟨A6, c6, hv6, hc6⟩ := hO6.rd; subst hv6)
        | (go_at_call 27; refine (with_c p w6 (HR.out.below F6.bel) hO6.rd).mono ?_; rintro _ w7 ⟨rfl, hb7⟩; have F7 := F6.below hb7; unfold pgV; obtain ⟨f0, f1, f2, f3, f4, f5⟩ := F7.b2.six_free; obtain ⟨r0, r1, r2, r3, r4, r5⟩ := F7.b2.six; skip))
    go_wp2_with fail
    generalize hW : World.setCell _ _ _ = W
    have hR6 : OwN W w.heap.size (.slice A6 L.length c6) L := Kd.R_lower (hO6.set6 hb7 (by have := F4d.2.2.2.2; omega) hW) F4d.bel.size
    have hbl := bel_set6 F7.bel (by omega) hW
    obtain ⟨x0, x1, x2, x3, x4, x5⟩ := (F7.b2.set6 hW).six
    refine bodyPost_ret (v := .tuple #[.agg #[.int .i64 p.lsn, .int .i64 p.kind, .int .i64 p.level, .int .i64 p.right, .string p.high, .slice A6 L.length c6], .int .i64 0]) (by simp [results, Try.results17, go_sem, x0, x1, x2, x3, x4, x5]) rfl ?_
    rw [HI]
    refine ⟨_, rfl, ?_, hbl⟩
    have hee : p.es.take n ++ e :: p.es.drop n = L := by rw [HLL.out]; simp
    show OwN W w.heap.size _ (p.es.take n ++ e :: p.es.drop n)
    rw [hee]
    exact hR6
  · rw [if_neg hcn] at hcd
    have HCd := Lib.hid hcd
    clear hcd
    have hn0 : (0 : Int) ≤ (n : Int) := by omega
    have hn1 : (n : Int) ≤ (p.es.length : Int) := by have := HP.out; omega
    have hn2 : (n : Int) ≤ (c : Int) := by have := HP.out; omega
    go_wp2_with fail
    obtain ⟨L, hL⟩ : ∃ L, L = p.es.take n ++ [e] ++ p.es.drop n := ⟨_, rfl⟩
    have HLL := Lib.hid hL
    clear hL
    go_region_held3 (fun w' => w'.cell? ⟨w.heap.size, 0, none⟩ = some (.int .i64 p.lsn) ∧ w'.cell? ⟨w.heap.size, 1, none⟩ = some (.int .i64 p.kind) ∧ w'.cell? ⟨w.heap.size, 2, none⟩ = some (.int .i64 p.level) ∧ w'.cell? ⟨w.heap.size, 3, none⟩ = some (.int .i64 p.right) ∧ w'.cell? ⟨w.heap.size, 4, none⟩ = some (.string p.high) ∧ w'.cell? ⟨w.heap.size, 5, none⟩ = some (.slice A p.es.length c) ∧
        w'.cell? ⟨w.heap.size + 1, 0, none⟩ = some (.string e.k) ∧ w'.cell? ⟨w.heap.size + 1, 1, none⟩ = some (.string e.v) ∧ w'.cell? ⟨w.heap.size + 1, 2, none⟩ = some (.bool e.m)) (first | with_reducible exact nine F7 | with_reducible exact nine F6 | with_reducible exact nine F5 | with_reducible exact nine F4d | with_reducible exact nine (Fr3.drew (Fr3.alloc F4 _)) | exact nine (Fr3.set6 F7 _ _ _ _ _ _))
      (first
        | (refine step_append_full_N (W := w4.drew) (by rfl) (.tmp 48) (.tmp 50) rfl (l := p.es.take n) e (by rw [HL1.out]; rfl) rfl (by rw [HL1.out]; have := HL.out; have := HP.out; omega) HCt.out ?_; intro v5 w5 hO5 hb5; have F5 := F4d.below hb5)
        | (refine step_append_rows_N (w0 := w4.drew) (W := w5) (by rfl) (.tmp 51) (.tmp 55) rfl (m := p.es.drop n) (by rw [List.length_drop]; try (have := HP.out; omega)) rfl rfl hO5 (by rw [List.length_append, HL1.out, List.length_drop]; have := HL.out; have := HP.out; simp; omega) (Kd.C_below HCd.out hb5) hb5 ?_; intro v6 w6 hO6 hb6; rw [← HLL.out] at hO6; have F6 := F4d.below hb6; obtain ⟨A6, c6, hv6, hc6⟩ := hO6.rd; subst hv6)
        | (go_at_call 27; refine (with_c p w6 (HR.out.below F6.bel) hO6.rd).mono ?_; rintro _ w7 ⟨rfl, hb7⟩; have F7 := F6.below hb7; unfold pgV; obtain ⟨f0, f1, f2, f3, f4, f5⟩ := F7.b2.six_free; obtain ⟨r0, r1, r2, r3, r4, r5⟩ := F7.b2.six; skip))
    go_wp2_with fail
    generalize hW : World.setCell _ _ _ = W
    have hR6 : OwN W w.heap.size (.slice A6 L.length c6) L := Kd.R_lower (hO6.set6 hb7 (by have := F4d.2.2.2.2; omega) hW) F4d.bel.size
    have hbl := bel_set6 F7.bel (by omega) hW
    obtain ⟨x0, x1, x2, x3, x4, x5⟩ := (F7.b2.set6 hW).six
    refine bodyPost_ret (v := .tuple #[.agg #[.int .i64 p.lsn, .int .i64 p.kind, .int .i64 p.level, .int .i64 p.right, .string p.high, .slice A6 L.length c6], .int .i64 0]) (by simp [results, Try.results17, go_sem, x0, x1, x2, x3, x4, x5]) rfl ?_
    rw [HI]
    refine ⟨_, rfl, ?_, hbl⟩
    have hee : p.es.take n ++ e :: p.es.drop n = L := by rw [HLL.out]; simp
    show OwN W w.heap.size _ (p.es.take n ++ e :: p.es.drop n)
    rw [hee]
    exact hR6
end Go.Proofs.Ytldmhfpgcflplaa
