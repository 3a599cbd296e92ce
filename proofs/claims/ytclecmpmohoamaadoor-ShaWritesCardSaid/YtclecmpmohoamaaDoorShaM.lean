/- The program's block. (Printed by gen_shal.py.) -/
import Derived.Test.YtclecmpmohoamaaDoorShaQ
namespace Go.Proofs.YtclecmpmohoamaaDoor
open Go.RowKit
set_option linter.unusedVariables false
set_option linter.unusedSimpArgs false

def four'_64 (w : World) (a b c d e f g h : Nat) : World := (((w.alloc (.cells #[.int .u64 a, .int .u64 b, .int .u64 c, .int .u64 d, .int .u64 e, .int .u64 f, .int .u64 g, .int .u64 h] 53)).alloc (.cells #[.int .i64 64, .int .i64 80, .int .i64 28, .int .i64 34, .int .i64 39, .int .i64 14, .int .i64 18, .int .i64 41, .int .i64 1, .int .i64 8, .int .i64 7, .int .i64 19, .int .i64 61, .int .i64 6] 58)).alloc (.cells #[.int .u64 0, .int .u64 0, .int .u64 0, .int .u64 0, .int .u64 0, .int .u64 0, .int .u64 0, .int .u64 0] 53)).alloc (.cells #[.int .u64 0, .int .u64 0, .int .u64 0, .int .u64 0, .int .u64 0, .int .u64 0, .int .u64 0, .int .u64 0, .int .u64 0, .int .u64 0, .int .u64 0, .int .u64 0, .int .u64 0, .int .u64 0, .int .u64 0, .int .u64 0] 74)
theorem four_64 (w : World) (a b c d e f g h : Nat) : (four'_64 w a b c d e f g h).heap[w.heap.size]? = some (.cells #[.int .u64 a, .int .u64 b, .int .u64 c, .int .u64 d, .int .u64 e, .int .u64 f, .int .u64 g, .int .u64 h] 53 (0, 0)) ∧
    (four'_64 w a b c d e f g h).heap[w.heap.size + 1]? = some (.cells #[.int .i64 64, .int .i64 80, .int .i64 28, .int .i64 34, .int .i64 39, .int .i64 14, .int .i64 18, .int .i64 41, .int .i64 1, .int .i64 8, .int .i64 7, .int .i64 19, .int .i64 61, .int .i64 6] 58 (0, 0)) ∧ (four'_64 w a b c d e f g h).heap[w.heap.size + 1 + 1]? = some (.cells #[.int .u64 0, .int .u64 0, .int .u64 0, .int .u64 0, .int .u64 0, .int .u64 0, .int .u64 0, .int .u64 0] 53 (0, 0)) ∧
    (four'_64 w a b c d e f g h).heap[w.heap.size + 1 + 1 + 1]? = some (.cells #[.int .u64 0, .int .u64 0, .int .u64 0, .int .u64 0, .int .u64 0, .int .u64 0, .int .u64 0, .int .u64 0, .int .u64 0, .int .u64 0, .int .u64 0, .int .u64 0, .int .u64 0, .int .u64 0, .int .u64 0, .int .u64 0] 74 (0, 0)) ∧ (four'_64 w a b c d e f g h).heap.size = w.heap.size + 1 + 1 + 1 + 1 ∧ Below w.heap.size w (four'_64 w a b c d e f g h) := by
  unfold four'_64
  refine ⟨?_, ?_, ?_, ?_, by simp, ?_⟩
  · rw [Below.heap_alloc _ _ _ (by simp only [szAlloc]; omega), Below.heap_alloc _ _ _ (by simp only [szAlloc]; omega), Below.heap_alloc _ _ _ (by simp only [szAlloc]; omega)]
    exact heap_alloc_new w _
  · rw [Below.heap_alloc _ _ _ (by simp only [szAlloc]; omega), Below.heap_alloc _ _ _ (by simp only [szAlloc]; omega)]
    have := heap_alloc_new (w.alloc (.cells #[.int .u64 a, .int .u64 b, .int .u64 c, .int .u64 d, .int .u64 e, .int .u64 f, .int .u64 g, .int .u64 h] 53)) (.cells #[.int .i64 64, .int .i64 80, .int .i64 28, .int .i64 34, .int .i64 39, .int .i64 14, .int .i64 18, .int .i64 41, .int .i64 1, .int .i64 8, .int .i64 7, .int .i64 19, .int .i64 61, .int .i64 6] 58)
    rwa [szAlloc] at this
  · rw [Below.heap_alloc _ _ _ (by simp)]
    have := heap_alloc_new ((w.alloc (.cells #[.int .u64 a, .int .u64 b, .int .u64 c, .int .u64 d, .int .u64 e, .int .u64 f, .int .u64 g, .int .u64 h] 53)).alloc (.cells #[.int .i64 64, .int .i64 80, .int .i64 28, .int .i64 34, .int .i64 39, .int .i64 14, .int .i64 18, .int .i64 41, .int .i64 1, .int .i64 8, .int .i64 7, .int .i64 19, .int .i64 61, .int .i64 6] 58)) (.cells #[.int .u64 0, .int .u64 0, .int .u64 0, .int .u64 0, .int .u64 0, .int .u64 0, .int .u64 0, .int .u64 0] 53)
    rwa [szAlloc, szAlloc] at this
  · have := heap_alloc_new (((w.alloc (.cells #[.int .u64 a, .int .u64 b, .int .u64 c, .int .u64 d, .int .u64 e, .int .u64 f, .int .u64 g, .int .u64 h] 53)).alloc (.cells #[.int .i64 64, .int .i64 80, .int .i64 28, .int .i64 34, .int .i64 39, .int .i64 14, .int .i64 18, .int .i64 41, .int .i64 1, .int .i64 8, .int .i64 7, .int .i64 19, .int .i64 61, .int .i64 6] 58)).alloc (.cells #[.int .u64 0, .int .u64 0, .int .u64 0, .int .u64 0, .int .u64 0, .int .u64 0, .int .u64 0, .int .u64 0] 53)) (.cells #[.int .u64 0, .int .u64 0, .int .u64 0, .int .u64 0, .int .u64 0, .int .u64 0, .int .u64 0, .int .u64 0, .int .u64 0, .int .u64 0, .int .u64 0, .int .u64 0, .int .u64 0, .int .u64 0, .int .u64 0, .int .u64 0] 74)
    rwa [szAlloc, szAlloc, szAlloc] at this
  · exact ((((Below.refl _ _).alloc (Nat.le_refl _) _).alloc (by simp only [szAlloc]; omega) _).alloc (by simp only [szAlloc]; omega) _).alloc (by simp only [szAlloc]; omega) _
structure Bl_64 (w : World) (gk gr gw : Nat) (v : S8) (ws : List Nat) (wr : World) : Prop where
  bv : wr.heap[w.heap.size]? = some (.cells #[.int .u64 v.a, .int .u64 v.b, .int .u64 v.c, .int .u64 v.d, .int .u64 v.e, .int .u64 v.f, .int .u64 v.g, .int .u64 v.h] 53 (0, 0))
  bk : wr.heap[gk]? = some (.cells #[.int .i64 64, .int .i64 80, .int .i64 28, .int .i64 34, .int .i64 39, .int .i64 14, .int .i64 18, .int .i64 41, .int .i64 1, .int .i64 8, .int .i64 7, .int .i64 19, .int .i64 61, .int .i64 6] 58 (0, 0))
  br : wr.heap[gr]? = some (.cells #[.int .u64 0, .int .u64 0, .int .u64 0, .int .u64 0, .int .u64 0, .int .u64 0, .int .u64 0, .int .u64 0] 53 (0, 0))
  bw : wr.heap[gw]? = some (.cells (ws.map fun x => Value.int .u64 (x : Nat)).toArray 74 (0, 0))
  sz : gw < wr.heap.size
  bel : Below w.heap.size w wr
theorem Bl_64.cell {w wr : World} {gk gr gw : Nat} {v : S8} {i : Nat} {p : List UInt8} (h : Bl_64 w gk gr gw v (cws K64 p i) wr) {j : Nat} (hj : j < 16) : wr.cell? ⟨gw, j, none⟩ = some (.int .u64 (cw 8 p i j : Nat)) := by
  refine cell_blk h.bw j ?_
  simp [cws, List.getElem?_range hj, K64]
theorem Bl_64.set {w wr : World} {gk gr gw : Nat} {v : S8} {ws : List Nat} (h : Bl_64 w gk gr gw v ws wr) (l1 : w.heap.size < gk) (l2 : gk < gr) (l3 : gr < gw) (j x : Nat) : Bl_64 w gk gr gw v (ws.set j x) (wr.setCell ⟨gw, j, none⟩ (.int .u64 x)) := by
  refine ⟨?_, ?_, ?_, ?_, ?_, ?_⟩
  · rw [Below.heap_setCell _ _ _ _ (by show w.heap.size ≠ gw; omega)]; exact h.bv
  · rw [Below.heap_setCell _ _ _ _ (by show gk ≠ gw; omega)]; exact h.bk
  · rw [Below.heap_setCell _ _ _ _ (by show gr ≠ gw; omega)]; exact h.br
  · rw [heap_set h.bw]; simp [List.map_set]
  · have := h.sz; simpa [World.setCell] using this
  · exact h.bel.setCell (by show w.heap.size ≤ gw; omega) _
structure B2_64 (w : World) (gk gr gw gs : Nat) (v : S8) (ws : List Nat) (s : S8) (wr : World) : Prop where
  bl : Bl_64 w gk gr gw v ws wr
  bs : wr.heap[gs]? = some (.cells #[.int .u64 s.a, .int .u64 s.b, .int .u64 s.c, .int .u64 s.d, .int .u64 s.e, .int .u64 s.f, .int .u64 s.g, .int .u64 s.h] 53 (0, 0))
theorem Bl_64.to {w wr wr' : World} {gk gr gw : Nat} {v : S8} {ws : List Nat} (h : Bl_64 w gk gr gw v ws wr) (l1 : w.heap.size < gk) (l2 : gk < gr) (l3 : gr < gw) {B : Nat} (hgB : gw < B) (hb : Below B wr wr') : Bl_64 w gk gr gw v ws wr' :=
  ⟨(hb.block _ (by omega)).trans h.bv, (hb.block _ (by omega)).trans h.bk, (hb.block _ (by omega)).trans h.br, (hb.block _ (by omega)).trans h.bw, Nat.lt_of_lt_of_le h.sz hb.size, h.bel.trans (hb.mono (by omega))⟩
theorem B2_64.to {w wr wr' : World} {gk gr gw gs : Nat} {v : S8} {ws : List Nat} {s : S8} (h : B2_64 w gk gr gw gs v ws s wr) (l1 : w.heap.size < gk) (l2 : gk < gr) (l3 : gr < gw) (l4 : gw < gs) {B : Nat} (hB : gs < B) (hb : Below B wr wr') : B2_64 w gk gr gw gs v ws s wr' :=
  ⟨h.bl.to l1 l2 l3 (by omega) hb, (hb.block _ (by omega)).trans h.bs⟩
theorem B2_64.put {w wr : World} {gk gr gw gs : Nat} {v : S8} {ws : List Nat} {s : S8} (h : B2_64 w gk gr gw gs v ws s wr) (l1 : w.heap.size < gk) (l2 : gk < gr) (l3 : gr < gw) (l4 : gw < gs) (s' : S8) :
    B2_64 w gk gr gw gs v ws s' (wr.setCells gs 0 [.int .u64 s'.a, .int .u64 s'.b, .int .u64 s'.c, .int .u64 s'.d, .int .u64 s'.e, .int .u64 s'.f, .int .u64 s'.g, .int .u64 s'.h]) := by
  refine ⟨h.bl.to l1 l2 l3 l4 (below_setCells (Below.refl _ _) 0 _ (Nat.le_refl _) ?_), set8 h.bs _ _ _ _ _ _ _ _⟩
  exact Nat.le_of_lt (lt_of_blk h.bs)
theorem Bl_64.news {w wr : World} {gk gr gw : Nat} {v : S8} {ws : List Nat} (h : Bl_64 w gk gr gw v ws wr) (l1 : w.heap.size < gk) (l2 : gk < gr) (l3 : gr < gw) :
    B2_64 w gk gr gw wr.heap.size v ws v ((wr.alloc (.cells #[.int .u64 0, .int .u64 0, .int .u64 0, .int .u64 0, .int .u64 0, .int .u64 0, .int .u64 0, .int .u64 0] 53)).setCells wr.heap.size 0 [.int .u64 v.a, .int .u64 v.b, .int .u64 v.c, .int .u64 v.d, .int .u64 v.e, .int .u64 v.f, .int .u64 v.g, .int .u64 v.h]) :=
  ⟨h.to l1 l2 l3 h.sz (below_setCells ((Below.refl _ _).alloc (Nat.le_refl _) _) 0 _ (Nat.le_refl _) (Nat.le_refl _)), set8 (heap_alloc_new wr _) _ _ _ _ _ _ _ _⟩
theorem B2_64.kcell {w wr : World} {gk gr gw gs : Nat} {v : S8} {ws : List Nat} {s : S8} (h : B2_64 w gk gr gw gs v ws s wr) : wr.cell? ⟨gk, 1, none⟩ = some (.int .i64 80) := cell_blk h.bl.bk 1 rfl
theorem B2_64.wcell {w wr : World} {gk gr gw gs : Nat} {v : S8} {ws : List Nat} {s : S8} (h : B2_64 w gk gr gw gs v ws s wr) {i x : Nat} (hx : ws[i]? = some x) : wr.cell? ⟨gw, i, none⟩ = some (.int .u64 (x : Nat)) := cell_blk h.bl.bw i (by simp [hx])
theorem B2_64.lt {w wr : World} {gk gr gw gs : Nat} {v : S8} {ws : List Nat} {s : S8} (h : B2_64 w gk gr gw gs v ws s wr) : gs < wr.heap.size := lt_of_blk h.bs
theorem B2_64.y {w W : World} {gk gr gw gs : Nat} {v : S8} {ws : List Nat} {s : S8} (h : B2_64 w gk gr gw gs v ws s W) (l1 : w.heap.size < gk) (l2 : gk < gr) (l3 : gr < gw) (l4 : gw < gs) (y : Bw W) : B2_64 w gk gr gw gs v ws s y.w := h.to l1 l2 l3 l4 h.lt y.h
theorem pone_64 (h r x k w d : Nat) : (d + ((((h + r) % 2 ^ 64 + x) % 2 ^ 64 + k) % 2 ^ 64 + w) % 2 ^ 64) % 2 ^ 64 = (d + (h + r + x + k + w)) % 2 ^ 64 := by
  simp only [Nat.reducePow]; omega
theorem ptwo_64 (h r x k w r2 x2 : Nat) : (((((h + r) % 2 ^ 64 + x) % 2 ^ 64 + k) % 2 ^ 64 + w) % 2 ^ 64 + (r2 + x2) % 2 ^ 64) % 2 ^ 64 = (h + r + x + k + w + (r2 + x2)) % 2 ^ 64 := by
  simp only [Nat.reducePow]; omega
theorem psum_64 (a b c d : Nat) : (d + (((a + b) % 2 ^ 64) + c) % 2 ^ 64) % 2 ^ 64 = (a + b + c + d) % 2 ^ 64 := by
  simp only [Nat.reducePow]; omega
structure B3_64 (w : World) (gr gs : Nat) (v s : S8) (i : Nat) (wr : World) : Prop where
  bv : wr.heap[w.heap.size]? = some (.cells ((mx 64 i v s).map fun x => Value.int .u64 (x : Nat)).toArray 53 (0, 0))
  br : wr.heap[gr]? = some (.cells #[.int .u64 0, .int .u64 0, .int .u64 0, .int .u64 0, .int .u64 0, .int .u64 0, .int .u64 0, .int .u64 0] 53 (0, 0))
  bs : wr.heap[gs]? = some (.cells #[.int .u64 s.a, .int .u64 s.b, .int .u64 s.c, .int .u64 s.d, .int .u64 s.e, .int .u64 s.f, .int .u64 s.g, .int .u64 s.h] 53 (0, 0))
  bel : Below w.heap.size w wr
theorem B2_64.third {w wr : World} {gk gr gw gs : Nat} {v : S8} {ws : List Nat} {s : S8} (h : B2_64 w gk gr gw gs v ws s wr) : B3_64 w gr gs v s 0 wr := ⟨h.bl.bv, h.bl.br, h.bs, h.bl.bel⟩
theorem B3_64.drewN {w wr : World} {gr gs : Nat} {v s : S8} {i : Nat} (h : B3_64 w gr gs v s i wr) (n : Nat) : B3_64 w gr gs v s i (wr.drewN n) := ⟨h.bv, h.br, h.bs, below_drewN h.bel n⟩
theorem B3_64.vcell {w wr : World} {gr gs : Nat} {v s : S8} {i : Nat} (h : B3_64 w gr gs v s i wr) (hi : i < 8) : wr.cell? ⟨w.heap.size, i, none⟩ = some (.int .u64 (v.l.getD i 0 : Nat)) :=
  cell_blk h.bv i (by simp [mx_at _ v s hi])
theorem B3_64.scell {w wr : World} {gr gs : Nat} {v s : S8} {i : Nat} (h : B3_64 w gr gs v s i wr) (hi : i < 8) : wr.cell? ⟨gs, i, none⟩ = some (.int .u64 (s.l.getD i 0 : Nat)) := by
  refine cell_blk h.bs i ?_
  rcases i with _ | _ | _ | _ | _ | _ | _ | _ | i
  all_goals first | rfl | omega
theorem B3_64.step {w wr : World} {gr gs : Nat} {v s : S8} {i gk : Nat} (h : B3_64 w gr gs v s i wr) (l1 : w.heap.size < gk) (l2 : gk < gr) (l3 : gr < gs) (hi : i < 8) :
    B3_64 w gr gs v s (i + 1) (wr.setCell ⟨w.heap.size, i, none⟩ (.int .u64 ((v.l.getD i 0 + s.l.getD i 0) % 2 ^ 64 : Nat))) := by
  refine ⟨?_, ?_, ?_, ?_⟩
  · rw [heap_set h.bv, ← mx_set 64 v s hi]; simp [List.map_set]
  · rw [Below.heap_setCell _ _ _ _ (by show gr ≠ w.heap.size; omega)]; exact h.br
  · rw [Below.heap_setCell _ _ _ _ (by show gs ≠ w.heap.size; omega)]; exact h.bs
  · exact h.bel.setCell (Nat.le_refl _) _
theorem wrapN_64 (n : Nat) : IntKind.u64.wrap (n : Int) = ((n % 2 ^ 64 : Nat) : Int) := by rw [IntKind.wrap_u64]; simp only [Nat.reducePow]; omega
theorem unot_64 (e : Nat) (he : e < 2 ^ 64) : bits .xor .u64 18446744073709551615 (e : Int) = ((2 ^ 64 - 1 - e : Nat) : Int) := by
  rw [show (18446744073709551615 : Int) = ((18446744073709551615 : Nat) : Int) from rfl, u64_xor_nat _ e (by decide) he, max_xor_64 e he]
theorem key_at_64 (t : Nat) (ht : t < 80) : K64.key[t]? = some (K64.key.getD t 0) := by
  have h : K64.key.length = 80 := by decide
  rw [List.getD_eq_getElem?_getD, List.getElem?_eq_getElem (by omega)]; rfl
theorem B2_64.drewN {w wr : World} {gk gr gw gs : Nat} {v : S8} {ws : List Nat} {s : S8} (h : B2_64 w gk gr gw gs v ws s wr) (n : Nat) : B2_64 w gk gr gw gs v ws s (wr.drewN n) := ⟨⟨h.bl.bv, h.bl.bk, h.bl.br, h.bl.bw, h.bl.sz, below_drewN h.bl.bel n⟩, h.bs⟩
theorem B2_64.set {w wr : World} {gk gr gw gs : Nat} {v : S8} {ws : List Nat} {s : S8} (h : B2_64 w gk gr gw gs v ws s wr) (l1 : w.heap.size < gk) (l2 : gk < gr) (l3 : gr < gw) (l4 : gw < gs) (j x : Nat) : B2_64 w gk gr gw gs v (ws.set j x) s (wr.setCell ⟨gw, j, none⟩ (.int .u64 x)) :=
  ⟨h.bl.set l1 l2 l3 j x, by rw [Below.heap_setCell _ _ _ _ (by show gs ≠ gw; omega)]; exact h.bs⟩
theorem Bl_64.drewN {w wr : World} {gk gr gw : Nat} {v : S8} {ws : List Nat} (h : Bl_64 w gk gr gw v ws wr) (n : Nat) : Bl_64 w gk gr gw v ws (wr.drewN n) := ⟨h.bv, h.bk, h.br, h.bw, h.sz, below_drewN h.bel n⟩

set_option maxRecDepth 20000 in
set_option maxHeartbeats 4000000 in
theorem pblock_64 (A : Option Addr) (c : Nat) (v : S8) (p : List UInt8) (w : World) (hv : v.ok 64) (hr : Rd w w.heap.size 1 A 128 (p.map B8)) (hg : Hid (∀ t k, K64.key[t]? = some k → w.cell? ⟨2, t, none⟩ = some (.int .u64 (k : Nat)))) :
    Calls Tryd.prog 39 #[w8_64 v, .slice A 128 c, .agg #[.int .i64 64, .int .i64 80, .int .i64 28, .int .i64 34, .int .i64 39, .int .i64 14, .int .i64 18, .int .i64 41, .int .i64 1, .int .i64 8, .int .i64 7, .int .i64 19, .int .i64 61, .int .i64 6], .func (.func 40) #[] #[]] w fun e w' => e = .returned (w8_64 (blk K64 v p)) ∧ Below w.heap.size w w' := by
  have hVo := Lib.hid hv
  have Hl : Hid (p.length = 128) := by unfold Hid; simpa using hr.len
  have Hr := Lib.hid hr
  clear hv hr
  unfold w8_64
  go_enter Tryd.func39, Tryd.ntmps39
  go_wp2_with fail
  obtain ⟨n1, n2, n3, n4, n5, n6⟩ := four_64 w v.a v.b v.c v.d v.e v.f v.g v.h
  obtain ⟨W, hW⟩ : ∃ W, W = four'_64 w v.a v.b v.c v.d v.e v.f v.g v.h := ⟨_, rfl⟩
  rw [← hW] at n1 n2 n3 n4 n5 n6
  unfold four'_64 at hW
  rw [← hW]
  have HW := Lib.hid hW
  clear hW
  generalize hgk : w.heap.size + 1 = gk at *
  generalize hgr : gk + 1 = gr at *
  generalize hgw : gr + 1 = gw at *
  have Hgk := Lib.hid hgk
  have Hgr := Lib.hid hgr
  have Hgw := Lib.hid hgw
  have hlg : w.heap.size < gk ∧ gk < gr ∧ gr < gw := by omega
  obtain ⟨l1, l2, l3⟩ := hlg
  have hbl : Bl_64 w gk gr gw v (cws K64 p 0) W := ⟨n1, n2, n3, by rw [cws_zero]; exact n4, by omega, n6⟩
  clear hgk hgr hgw n1 n2 n3 n4 n6 HW
  go_loopw [11, 25] (fun _ x25 wr => ∃ i : Nat, x25 = .int .i64 i ∧ i ≤ 128 ∧ Hid (Bl_64 w gk gr gw v (cws K64 p i) wr)) (fun _ x25 _ => 128 - (intOf x25).toNat)
  case atStart => exact ⟨0, rfl, by omega, hbl⟩
  case round =>
    obtain ⟨i, rfl, hi, hB⟩ := hrel
    by_cases hiS : i < 128
    · have hiS' : (i : Int) < 128 := by omega
      have hi0 : (0 : Int) ≤ i := by omega
      obtain ⟨q, hq⟩ : ∃ q, Hid (q = i / 8) := ⟨_, Lib.hid rfl⟩
      have hq16 : q < 16 := by rw [hq.out]; omega
      have hq0 : (0 : Int) ≤ (q : Int) := by omega
      have hq1 : (q : Int) < 16 := by omega
      have f1 : (i : Int) / 8 = (q : Int) := by rw [hq.out]; omega
      have f2 : (i : Int).tdiv 8 = (q : Int) := by rw [← f1, Int.tdiv_eq_ediv_of_nonneg hi0]
      obtain ⟨bp, op, y, rfl, hbp, hy, hcp⟩ := (Hr.out.below hB.out.bel).at8 (k := i) hiS
      obtain ⟨x, hx⟩ : ∃ x, Hid (x = cw 8 p i q) := ⟨_, Lib.hid rfl⟩
      have hcx : wr.cell? ⟨gw, q, none⟩ = some (.int .u64 x) := by rw [hx.out]; exact hB.out.cell hq16
      have hxb : x * 256 < 2 ^ 64 := by rw [hx.out, hq.out]; exact cw_lt_64 p i
      have hyb := y.toNat_lt
      obtain ⟨n, hn⟩ : ∃ n, Hid (n = x * 256 + y.toNat) := ⟨_, Lib.hid rfl⟩
      have f3 : bits .or .u64 ((x : Int) * 256) (y.toNat : Int) = (n : Int) := by
        rw [show (x : Int) * 256 = ((x * 256 : Nat) : Int) by omega, u64_or_nat _ _ hxb (by omega), nat_join 8 _ _ (Nat.mul_mod_left _ _) hyb, hn.out]
      have f9 : IntKind.i64.wrap ((i : Int) + 1) = ((i + 1 : Nat) : Int) := by rw [IntWalk.i64_in _ (by omega)]; omega
      have hnew : Hid ((cws K64 p i).set q n = cws K64 p (i + 1)) := by
        unfold Hid
        rw [hq.out]
        exact cws_step K64 p i n y (by decide) hy.out (by rw [hn.out, hx.out, hq.out]; rfl)
      have hfr := frozen_blk hB.out.bw q
      have hCn := Lib.hid (hB.out.drewN 1)
      go_wp2_with fail
      go_region
      go_wp2_with fail
      go_roundw
      case rel => exact ⟨i + 1, by go_num, hiS, by have := hB.out.set l1 l2 l3 q n; rw [hnew.out] at this; exact this.drewN 1⟩
      case measure => simp only [intOf]; omega
    · have hiS2 : Hid (i = 128) := (by omega : i = 128)
      have hiS' : ¬ (i : Int) < 128 := by omega
      rw [hiS2.out, cws_end K64 p 128 rfl] at hB
      obtain ⟨wq, hwq⟩ : ∃ wq, wq = wr := ⟨wr, rfl⟩
      subst hwq
      have hrv : wq.rangeAt w.heap.size 0 [.int .u64 v.a, .int .u64 v.b, .int .u64 v.c, .int .u64 v.d, .int .u64 v.e, .int .u64 v.f, .int .u64 v.g, .int .u64 v.h] := range_of hB.out.bv
      have hcb := cell_blk hB.out.bk 1 rfl
      have hB2 := Lib.hid (hB.out.news l1 l2 l3)
      have ht2 : (wq.alloc (.cells #[.int .u64 0, .int .u64 0, .int .u64 0, .int .u64 0, .int .u64 0, .int .u64 0, .int .u64 0, .int .u64 0] 53)).there wq.heap.size 0 (#[.int .u64 v.a, .int .u64 v.b, .int .u64 v.c, .int .u64 v.d, .int .u64 v.e, .int .u64 v.f, .int .u64 v.g, .int .u64 v.h] : Array Value).size := there_blk (heap_alloc_new wq _) rfl
      have hi8 : (Tryd.prog.info? 53).map (·.size) = some (#[.int .u64 v.a, .int .u64 v.b, .int .u64 v.c, .int .u64 v.d, .int .u64 v.e, .int .u64 v.f, .int .u64 v.g, .int .u64 v.h] : Array Value).size := by kernel_rfl
      have hone : (#[.int .u64 v.a, .int .u64 v.b, .int .u64 v.c, .int .u64 v.d, .int .u64 v.e, .int .u64 v.f, .int .u64 v.g, .int .u64 v.h] : Array Value).all (·.oneCell') = true := by kernel_rfl
      have hgs := hB.out.sz
      have Ht2 := Lib.hid ht2
      have Hi8 := Lib.hid hi8
      have Ho8 := Lib.hid hone
      clear ht2 hi8 hone
      obtain ⟨gs, hgs'⟩ : ∃ gs, Hid (gs = wq.heap.size) := ⟨_, Lib.hid rfl⟩
      go_wp2_with (first
        | (refine wpList_load_mid rfl 53 (.tmp 4) rfl w.heap.size 0 rfl [.int .u64 v.a, .int .u64 v.b, .int .u64 v.c, .int .u64 v.d, .int .u64 v.e, .int .u64 v.f, .int .u64 v.g, .int .u64 v.h] _ hrv Tryd.underlying53 rfl (by kernel_rfl) ?_)
        | (
           refine wpList_store_mid rfl 53 (.tmp 12) (.tmp 45) rfl wq.heap.size 0 _ rfl rfl ?_ ?_ ?_ ?_
           · exact Ht2.out
           · exact Hi8.out
           · exact Ho8.out
           generalize hwf : World.setCells _ wq.heap.size 0 _ = wf
           have Hwf := Lib.hid hwf
           clear hwf
           have hcb2 : wf.cell? ⟨gk, 1, none⟩ = some (.int .i64 80) := by rw [← Hwf.out]; exact hB2.out.kcell))
      have hB3 : Hid (B2_64 w gk gr gw gs v (first16 K64 p) v wf) := by rw [← Hwf.out, hgs'.out]; exact hB2
      rw [← hgs'.out] at hgs
      rw [← hgs'.out]
      clear hrv hcb hB2 Ht2 Hi8 Ho8 Hwf hcb2 hB
      have Hi8 : Hid ((Tryd.prog.info? 53).map (·.size) = some (#[.int .u64 v.a, .int .u64 v.b, .int .u64 v.c, .int .u64 v.d, .int .u64 v.e, .int .u64 v.f, .int .u64 v.g, .int .u64 v.h] : Array Value).size) := Lib.hid (by kernel_rfl)
      go_loopw [13, 14, 15, 16, 17, 18, 48] (fun _ _ _ _ _ _ x48 wr => ∃ (t : Nat) (s : S8) (ws : List Nat), x48 = .int .i64 t ∧ t ≤ 80 ∧ Hid (s = rnds K64 (wds K64 p) t v) ∧ Hid (s.ok 64) ∧ Hid (Wn K64 p t ws) ∧ Hid (B2_64 w gk gr gw gs v ws s wr)) (fun _ _ _ _ _ _ x48 _ => 80 - (intOf x48).toNat)
      case atStart => exact ⟨0, v, _, rfl, by omega, rfl, hVo, Wn_zero K64 p, hB3⟩
      case round =>
        obtain ⟨t, ⟨a, b, cc, d, e, f, g, h⟩, ws, rfl, ht, hs, hso, hWn, hB⟩ := hrel
        by_cases hlt : t < 80
        · have hlt' : (t : Int) < 80 := by omega
          have ht0 : (0 : Int) ≤ t := by omega
          obtain ⟨i0, hi0⟩ : ∃ n, Hid (n = t % 16) := ⟨_, Lib.hid rfl⟩
          have fi0 : (t : Int) % 16 = (i0 : Int) := by rw [hi0.out]; omega
          have fi0' : (t : Int).tmod 16 = (i0 : Int) := by rw [← fi0, Int.tmod_eq_emod_of_nonneg ht0]
          have i00 : (0 : Int) ≤ (i0 : Int) := by omega
          have i01 : (i0 : Int) < 16 := by have := hi0.out; omega
          have fi1 : i0 < 16 := by omega
          have hlt2 : t ≤ 80 := ht
          obtain ⟨t1, ht1⟩ : ∃ n, Hid (n = t + 1) := ⟨_, Lib.hid rfl⟩
          have fu1 : IntKind.i64.wrap ((t : Int) + 1) = (t1 : Int) := by rw [IntWalk.i64_in _ (by omega), ht1.out]; omega
          by_cases h16 : 15 < t
          · have h16' : (15 : Int) < t := by omega
            obtain ⟨Y0, hY0⟩ : ∃ n, Hid ((wds K64 p).getD (t - 16) 0 = n) := ⟨_, Lib.hid rfl⟩
            have ltY0 : Y0 < 2 ^ 64 := by rw [← hY0.out]; exact wds_lt (by decide) p _
            obtain ⟨Y1, hY1⟩ : ∃ n, Hid ((wds K64 p).getD (t - 15) 0 = n) := ⟨_, Lib.hid rfl⟩
            have ltY1 : Y1 < 2 ^ 64 := by rw [← hY1.out]; exact wds_lt (by decide) p _
            obtain ⟨Y9, hY9⟩ : ∃ n, Hid ((wds K64 p).getD (t - 7) 0 = n) := ⟨_, Lib.hid rfl⟩
            have ltY9 : Y9 < 2 ^ 64 := by rw [← hY9.out]; exact wds_lt (by decide) p _
            obtain ⟨Y14, hY14⟩ : ∃ n, Hid ((wds K64 p).getD (t - 2) 0 = n) := ⟨_, Lib.hid rfl⟩
            have ltY14 : Y14 < 2 ^ 64 := by rw [← hY14.out]; exact wds_lt (by decide) p _
            have fv1 : (t : Int) + 1 = (t1 : Int) := by rw [ht1.out]; omega
            obtain ⟨i1, hi1⟩ : ∃ n, Hid (n = t1 % 16) := ⟨_, Lib.hid rfl⟩
            have fi1 : (t1 : Int) % 16 = (i1 : Int) := by rw [hi1.out]; omega
            have fj1 : (t1 : Int).tmod 16 = (i1 : Int) := by rw [← fi1, Int.tmod_eq_emod_of_nonneg (by omega)]
            have fk1 : (0 : Int) ≤ (i1 : Int) := by omega
            have fl1 : (i1 : Int) < 16 := by have := hi1.out; omega
            obtain ⟨t9, ht9⟩ : ∃ n, Hid (n = t + 9) := ⟨_, Lib.hid rfl⟩
            have fu9 : IntKind.i64.wrap ((t : Int) + 9) = (t9 : Int) := by rw [IntWalk.i64_in _ (by omega), ht9.out]; omega
            have fv9 : (t : Int) + 9 = (t9 : Int) := by rw [ht9.out]; omega
            obtain ⟨i9, hi9⟩ : ∃ n, Hid (n = t9 % 16) := ⟨_, Lib.hid rfl⟩
            have fi9 : (t9 : Int) % 16 = (i9 : Int) := by rw [hi9.out]; omega
            have fj9 : (t9 : Int).tmod 16 = (i9 : Int) := by rw [← fi9, Int.tmod_eq_emod_of_nonneg (by omega)]
            have fk9 : (0 : Int) ≤ (i9 : Int) := by omega
            have fl9 : (i9 : Int) < 16 := by have := hi9.out; omega
            obtain ⟨t14, ht14⟩ : ∃ n, Hid (n = t + 14) := ⟨_, Lib.hid rfl⟩
            have fu14 : IntKind.i64.wrap ((t : Int) + 14) = (t14 : Int) := by rw [IntWalk.i64_in _ (by omega), ht14.out]; omega
            have fv14 : (t : Int) + 14 = (t14 : Int) := by rw [ht14.out]; omega
            obtain ⟨i14, hi14⟩ : ∃ n, Hid (n = t14 % 16) := ⟨_, Lib.hid rfl⟩
            have fi14 : (t14 : Int) % 16 = (i14 : Int) := by rw [hi14.out]; omega
            have fj14 : (t14 : Int).tmod 16 = (i14 : Int) := by rw [← fi14, Int.tmod_eq_emod_of_nonneg (by omega)]
            have fk14 : (0 : Int) ≤ (i14 : Int) := by omega
            have fl14 : (i14 : Int) < 16 := by have := hi14.out; omega
            obtain ⟨e1, he1⟩ : ∃ n, Hid (shi 64 Y1 (1, 8, 7) = n) := ⟨_, Lib.hid rfl⟩
            obtain ⟨e14, he14⟩ : ∃ n, Hid (shi 64 Y14 (19, 61, 6) = n) := ⟨_, Lib.hid rfl⟩
            obtain ⟨z1, hz1⟩ : ∃ n, Hid ((e1 + Y9) % 2 ^ 64 = n) := ⟨(e1 + Y9) % 2 ^ 64, Lib.hid rfl⟩
            have faz1 : IntKind.u64.wrap ((e1 : Int) + (Y9 : Int)) = (z1 : Int) := by rw [← Int.natCast_add, wrapN_64, hz1.out]
            have fbz1 : ((e1 : Int) + (Y9 : Int)) % 18446744073709551616 = (z1 : Int) := by have := faz1; rwa [IntKind.wrap_u64] at this
            have ltz1 : z1 < 2 ^ 64 := by rw [← hz1.out]; exact Nat.mod_lt _ (Nat.two_pow_pos _)
            obtain ⟨z2, hz2⟩ : ∃ n, Hid ((z1 + e14) % 2 ^ 64 = n) := ⟨(z1 + e14) % 2 ^ 64, Lib.hid rfl⟩
            have faz2 : IntKind.u64.wrap ((z1 : Int) + (e14 : Int)) = (z2 : Int) := by rw [← Int.natCast_add, wrapN_64, hz2.out]
            have fbz2 : ((z1 : Int) + (e14 : Int)) % 18446744073709551616 = (z2 : Int) := by have := faz2; rwa [IntKind.wrap_u64] at this
            have ltz2 : z2 < 2 ^ 64 := by rw [← hz2.out]; exact Nat.mod_lt _ (Nat.two_pow_pos _)
            obtain ⟨X, hX⟩ : ∃ n, Hid ((Y0 + z2) % 2 ^ 64 = n) := ⟨(Y0 + z2) % 2 ^ 64, Lib.hid rfl⟩
            have faX : IntKind.u64.wrap ((Y0 : Int) + (z2 : Int)) = (X : Int) := by rw [← Int.natCast_add, wrapN_64, hX.out]
            have fbX : ((Y0 : Int) + (z2 : Int)) % 18446744073709551616 = (X : Int) := by have := faX; rwa [IntKind.wrap_u64] at this
            have ltX : X < 2 ^ 64 := by rw [← hX.out]; exact Nat.mod_lt _ (Nat.two_pow_pos _)
            have hXw : Hid ((wds K64 p).getD t 0 = X) := by
              unfold Hid
              rw [wds_next K64 p t (by omega) hlt, hY0.out, hY1.out, hY9.out, hY14.out]
              show (shi 64 Y14 (19, 61, 6) + Y9 + shi 64 Y1 (1, 8, 7) + Y0) % 2 ^ 64 = X
              rw [he1.out, he14.out, show e14 + Y9 + e1 + Y0 = e1 + Y9 + e14 + Y0 by omega, ← psum_64, hz1.out, hz2.out, hX.out]
            have hc0 : Hid (ws[i0]? = some Y0) := by unfold Hid; rw [hi0.out, ← hY0.out]; have := hWn.out.back h16 16 (by omega) (by omega); rwa [Nat.sub_self, Nat.add_zero] at this
            have hc1 : Hid (ws[i1]? = some Y1) := by unfold Hid; rw [hi1.out, ht1.out, ← hY1.out]; exact hWn.out.back h16 15 (by omega) (by omega)
            have hc9 : Hid (ws[i9]? = some Y9) := by unfold Hid; rw [hi9.out, ht9.out, ← hY9.out]; exact hWn.out.back h16 7 (by omega) (by omega)
            have hc14 : Hid (ws[i14]? = some Y14) := by unfold Hid; rw [hi14.out, ht14.out, ← hY14.out]; exact hWn.out.back h16 2 (by omega) (by omega)
            have hcw : wr.cell? ⟨gw, i0, none⟩ = some (.int .u64 Y0) := hB.out.wcell hc0.out
            have fB := fun y : Bw wr => hB.out.y l1 l2 l3 hgs y
            have k1 : ∀ y : Bw wr, y.w.cell? ⟨gw, i1, none⟩ = some (.int .u64 Y1) := fun y => (fB y).wcell hc1.out
            have k9 : ∀ y : Bw wr, y.w.cell? ⟨gw, i9, none⟩ = some (.int .u64 Y9) := fun y => (fB y).wcell hc9.out
            have k14 : ∀ y : Bw wr, y.w.cell? ⟨gw, i14, none⟩ = some (.int .u64 Y14) := fun y => (fB y).wcell hc14.out
            have kb : ∀ y : Bw wr, y.w.cell? ⟨gk, 0, none⟩ = some (.int .i64 64) := fun y => cell_blk (fB y).bl.bk 0 rfl
            have kE : ∀ w', (∃ y : Bw wr, w' = y.w) → (Instr.loadAt 47 (.pointer (some ⟨gk, 8, none⟩))).run Tryd.prog w' = .ok (.agg #[.int .i64 1, .int .i64 8, .int .i64 7]) w' := fun w' ⟨y, hy⟩ => hy ▸ load_part [.int .i64 1, .int .i64 8, .int .i64 7] (fB y).bl.bk (by intro j v hj; (rcases j with _ | _ | _ | j <;> first | exact hj | (simp at hj))) Tryd.underlying47 rfl (by kernel_rfl)
            have kL : ∀ w', (∃ y : Bw wr, w' = y.w) → (Instr.loadAt 47 (.pointer (some ⟨gk, 11, none⟩))).run Tryd.prog w' = .ok (.agg #[.int .i64 19, .int .i64 61, .int .i64 6]) w' := fun w' ⟨y, hy⟩ => hy ▸ load_part [.int .i64 19, .int .i64 61, .int .i64 6] (fB y).bl.bk (by intro j v hj; (rcases j with _ | _ | _ | j <;> first | exact hj | (simp at hj))) Tryd.underlying47 rfl (by kernel_rfl)
            haveI : Nonempty (Bw wr) := ⟨⟨wr, Below.refl _ _⟩⟩
            clear fB
            go_wp2_with fail
            refine wp_region_bw (by kernel_rfl) (by kernel_rfl) ?_
            repeat (first
              | (go_big_quiet_want
                 refine quiet_load (.tmp 63) rfl rfl kE ?_
                 simp only [Act.put, List.setIfInBounds_toArray, List.set_cons_zero, List.set_cons_succ]
                 go_big_quiet_on)
              | (go_big_quiet_want
                 refine quiet_load (.tmp 79) rfl rfl kL ?_
                 simp only [Act.put, List.setIfInBounds_toArray, List.set_cons_zero, List.set_cons_succ]
                 go_big_quiet_on)
              | go_big_quiet_step (first
                | (go_at_call_of 53 Y1
                   rename_i y
                   refine (pshifted_64 Y1 1 8 7 e1 _ ltY1 (by omega) (by omega) (by omega) he1.out).mono ?_
                   rintro e w2 ⟨rfl, hb2⟩
                   exact ⟨rfl, ⟨w2, y.h.trans (hb2.mono y.h.size)⟩, rfl⟩)
                | (go_at_call_of 53 Y14
                   rename_i y
                   refine (pshifted_64 Y14 19 61 6 e14 _ ltY14 (by omega) (by omega) (by omega) he14.out).mono ?_
                   rintro e w2 ⟨rfl, hb2⟩
                   exact ⟨rfl, ⟨w2, y.h.trans (hb2.mono y.h.size)⟩, rfl⟩)))
            refine wpQuiet_nil ?_
            rintro _ ⟨y, rfl⟩
            obtain ⟨W1, eW1⟩ : ∃ W, W = y.w := ⟨_, rfl⟩
            have hW1 : Hid (B2_64 w gk gr gw gs v ws ⟨a, b, cc, d, e, f, g, h⟩ W1) := by rw [eW1]; exact hB.out.y l1 l2 l3 hgs y
            rw [← eW1]
            have EW1 := Lib.hid eW1
            clear eW1
            clear k1 k9 k14 kb kE kL
            have hcw1 : W1.cell? ⟨gw, i0, none⟩ = some (.int .u64 Y0) := hW1.out.wcell hc0.out
            have hfr1 := frozen_blk hW1.out.bl.bw i0
            go_wp2_with fail
            obtain ⟨ws1, hws1⟩ : ∃ l, Hid (l = ws.set i0 X) := ⟨_, Lib.hid rfl⟩
            have hWn1 : Hid (Wn K64 p t1 ws1) := by
              unfold Hid
              rw [hws1.out, ht1.out, hi0.out, ← hXw.out]
              exact hWn.out.step h16
            obtain ⟨W2, eW2⟩ : ∃ W, W = W1.setCell ⟨gw, i0, none⟩ (.int .u64 X) := ⟨_, rfl⟩
            have hW2 : Hid (B2_64 w gk gr gw gs v ws1 ⟨a, b, cc, d, e, f, g, h⟩ W2) := by rw [eW2, hws1.out]; exact hW1.out.set l1 l2 l3 hgs i0 X
            rw [← eW2]
            have EW2 := Lib.hid eW2
            clear eW2 hcw hcw1 hfr1

            have c0 : W2.cell? ⟨gs, 0, none⟩ = some (.int .u64 a) := cell_blk hW2.out.bs 0 rfl
            have c4 : W2.cell? ⟨gs, 4, none⟩ = some (.int .u64 e) := cell_blk hW2.out.bs 4 rfl
            go_quiet (fail)
            obtain ⟨W3, eW3⟩ : ∃ W, W = W2.drewN nq := ⟨_, rfl⟩
            have hW3 : Hid (B2_64 w gk gr gw gs v ws1 ⟨a, b, cc, d, e, f, g, h⟩ W3) := by rw [eW3]; exact hW2.out.drewN nq
            rw [← eW3]
            have EW3 := Lib.hid eW3
            clear eW3 c0 c4
            obtain ⟨lta, ltb, ltcc, ltd, lte, ltf, ltg, lth⟩ := hso.out
            dsimp only at lta ltb ltcc ltd lte ltf ltg lth
            obtain ⟨r1, hr1⟩ : ∃ n, Hid (tur 64 e (14, 18, 41) = n) := ⟨_, Lib.hid rfl⟩
            obtain ⟨ne, hne⟩ : ∃ n, Hid (2 ^ 64 - 1 - e = n) := ⟨2 ^ 64 - 1 - e, Lib.hid rfl⟩
            have ltne : ne < 2 ^ 64 := by rw [← hne.out]; exact Nat.lt_of_le_of_lt (Nat.sub_le _ _) (by decide)
            have fane : bits .xor .u64 18446744073709551615 (e : Int) = (ne : Int) := by rw [← hne.out]; exact unot_64 e lte
            have fbne : bits .xor .u64 (if IntKind.u64.signed = true then -1 else IntKind.u64.max) (e : Int) = (ne : Int) := fane
            obtain ⟨kk, hkk⟩ : ∃ n, Hid (K64.key.getD t 0 = n) := ⟨_, Lib.hid rfl⟩
            have hkc : Hid (w.cell? ⟨2, t, none⟩ = some (.int .u64 kk)) := hg.out t kk (by rw [← hkk.out]; exact key_at_64 t hlt)
            obtain ⟨a1, ha1⟩ : ∃ n, Hid (e &&& f = n) := ⟨_, Lib.hid rfl⟩
            have lta1 : a1 < 2 ^ 64 := by rw [← ha1.out]; exact and_lt _ lte
            have faa1 : bits .and .u64 (e : Int) (f : Int) = (a1 : Int) := by rw [u64_and_nat e f lte ltf, ha1.out]
            obtain ⟨a2, ha2⟩ : ∃ n, Hid (ne &&& g = n) := ⟨_, Lib.hid rfl⟩
            have lta2 : a2 < 2 ^ 64 := by rw [← ha2.out]; exact and_lt _ ltne
            have faa2 : bits .and .u64 (ne : Int) (g : Int) = (a2 : Int) := by rw [u64_and_nat ne g ltne ltg, ha2.out]
            obtain ⟨x1, hx1⟩ : ∃ n, Hid (a1 ^^^ a2 = n) := ⟨_, Lib.hid rfl⟩
            have ltx1 : x1 < 2 ^ 64 := by rw [← hx1.out]; exact xor_lt lta1 lta2
            have fax1 : bits .xor .u64 (a1 : Int) (a2 : Int) = (x1 : Int) := by rw [u64_xor_nat a1 a2 lta1 lta2, hx1.out]
            obtain ⟨n1, hn1⟩ : ∃ n, Hid ((h + r1) % 2 ^ 64 = n) := ⟨(h + r1) % 2 ^ 64, Lib.hid rfl⟩
            have fan1 : IntKind.u64.wrap ((h : Int) + (r1 : Int)) = (n1 : Int) := by rw [← Int.natCast_add, wrapN_64, hn1.out]
            have fbn1 : ((h : Int) + (r1 : Int)) % 18446744073709551616 = (n1 : Int) := by have := fan1; rwa [IntKind.wrap_u64] at this
            have ltn1 : n1 < 2 ^ 64 := by rw [← hn1.out]; exact Nat.mod_lt _ (Nat.two_pow_pos _)
            obtain ⟨n2, hn2⟩ : ∃ n, Hid ((n1 + x1) % 2 ^ 64 = n) := ⟨(n1 + x1) % 2 ^ 64, Lib.hid rfl⟩
            have fan2 : IntKind.u64.wrap ((n1 : Int) + (x1 : Int)) = (n2 : Int) := by rw [← Int.natCast_add, wrapN_64, hn2.out]
            have fbn2 : ((n1 : Int) + (x1 : Int)) % 18446744073709551616 = (n2 : Int) := by have := fan2; rwa [IntKind.wrap_u64] at this
            have ltn2 : n2 < 2 ^ 64 := by rw [← hn2.out]; exact Nat.mod_lt _ (Nat.two_pow_pos _)
            obtain ⟨n3, hn3⟩ : ∃ n, Hid ((n2 + kk) % 2 ^ 64 = n) := ⟨(n2 + kk) % 2 ^ 64, Lib.hid rfl⟩
            have fan3 : IntKind.u64.wrap ((n2 : Int) + (kk : Int)) = (n3 : Int) := by rw [← Int.natCast_add, wrapN_64, hn3.out]
            have fbn3 : ((n2 : Int) + (kk : Int)) % 18446744073709551616 = (n3 : Int) := by have := fan3; rwa [IntKind.wrap_u64] at this
            have ltn3 : n3 < 2 ^ 64 := by rw [← hn3.out]; exact Nat.mod_lt _ (Nat.two_pow_pos _)
            obtain ⟨n4, hn4⟩ : ∃ n, Hid ((n3 + X) % 2 ^ 64 = n) := ⟨(n3 + X) % 2 ^ 64, Lib.hid rfl⟩
            have fan4 : IntKind.u64.wrap ((n3 : Int) + (X : Int)) = (n4 : Int) := by rw [← Int.natCast_add, wrapN_64, hn4.out]
            have fbn4 : ((n3 : Int) + (X : Int)) % 18446744073709551616 = (n4 : Int) := by have := fan4; rwa [IntKind.wrap_u64] at this
            have ltn4 : n4 < 2 ^ 64 := by rw [← hn4.out]; exact Nat.mod_lt _ (Nat.two_pow_pos _)
            have fB := fun y : Bw W3 => hW3.out.y l1 l2 l3 hgs y
            have c5 : ∀ y : Bw W3, y.w.cell? ⟨gs, 5, none⟩ = some (.int .u64 f) := fun y => cell_blk (fB y).bs 5 rfl
            have c6 : ∀ y : Bw W3, y.w.cell? ⟨gs, 6, none⟩ = some (.int .u64 g) := fun y => cell_blk (fB y).bs 6 rfl
            have c7 : ∀ y : Bw W3, y.w.cell? ⟨gs, 7, none⟩ = some (.int .u64 h) := fun y => cell_blk (fB y).bs 7 rfl
            have kb : ∀ y : Bw W3, y.w.cell? ⟨gk, 0, none⟩ = some (.int .i64 64) := fun y => cell_blk (fB y).bl.bk 0 rfl
            have kk0 : ∀ y : Bw W3, y.w.cell? ⟨2, t, none⟩ = some (.int .u64 kk) := fun y => (World.cell?_of_block (a := ⟨2, t, none⟩) ((fB y).bl.bel.block 2 (World.block_lt_of_cell? _ _ hkc.out))).trans hkc.out
            have kD : ∀ w', (∃ y : Bw W3, w' = y.w) → (Instr.loadAt 47 (.pointer (some ⟨gk, 5, none⟩))).run Tryd.prog w' = .ok (.agg #[.int .i64 14, .int .i64 18, .int .i64 41]) w' := fun w' ⟨y, hy⟩ => hy ▸ load_part [.int .i64 14, .int .i64 18, .int .i64 41] (fB y).bl.bk (by intro j v hj; (rcases j with _ | _ | _ | j <;> first | exact hj | (simp at hj))) Tryd.underlying47 rfl (by kernel_rfl)
            haveI : Nonempty (Bw W3) := ⟨⟨W3, Below.refl _ _⟩⟩
            clear fB
            go_wp2_with fail
            refine wp_region_bw (by kernel_rfl) (by kernel_rfl) ?_
            repeat (first
              | (go_big_quiet_want
                 refine quiet_load (.tmp 97) rfl rfl kD ?_
                 simp only [Act.put, List.setIfInBounds_toArray, List.set_cons_zero, List.set_cons_succ]
                 go_big_quiet_on)
              | go_big_quiet_step (first
                | (go_at_call 54
                   rename_i y
                   refine (pturned_64 e 14 18 41 r1 _ lte (by omega) (by omega) (by omega) hr1.out).mono ?_
                   rintro e w2 ⟨rfl, hb2⟩
                   exact ⟨rfl, ⟨w2, y.h.trans (hb2.mono y.h.size)⟩, rfl⟩)
                | (go_at_call 40
                   rename_i y
                   refine (key_64 t kk _ hlt (kk0 y)).mono ?_
                   rintro e w2 ⟨rfl, rfl⟩
                   exact ⟨rfl, y, rfl⟩)))
            refine wpQuiet_nil ?_
            rintro _ ⟨y, rfl⟩
            obtain ⟨W4, eW4⟩ : ∃ W, W = y.w := ⟨_, rfl⟩
            have hW4 : Hid (B2_64 w gk gr gw gs v ws1 ⟨a, b, cc, d, e, f, g, h⟩ W4) := by rw [eW4]; exact hW3.out.y l1 l2 l3 hgs y
            rw [← eW4]
            have EW4 := Lib.hid eW4
            clear eW4
            clear c5 c6 c7 kb kk0 kD
            obtain ⟨r2, hr2⟩ : ∃ n, Hid (tur 64 a (28, 34, 39) = n) := ⟨_, Lib.hid rfl⟩
            obtain ⟨b1, hb1⟩ : ∃ n, Hid (a &&& b = n) := ⟨_, Lib.hid rfl⟩
            have ltb1 : b1 < 2 ^ 64 := by rw [← hb1.out]; exact and_lt _ lta
            have fab1 : bits .and .u64 (a : Int) (b : Int) = (b1 : Int) := by rw [u64_and_nat a b lta ltb, hb1.out]
            obtain ⟨b2, hb2⟩ : ∃ n, Hid (a &&& cc = n) := ⟨_, Lib.hid rfl⟩
            have ltb2 : b2 < 2 ^ 64 := by rw [← hb2.out]; exact and_lt _ lta
            have fab2 : bits .and .u64 (a : Int) (cc : Int) = (b2 : Int) := by rw [u64_and_nat a cc lta ltcc, hb2.out]
            obtain ⟨x2, hx2⟩ : ∃ n, Hid (b1 ^^^ b2 = n) := ⟨_, Lib.hid rfl⟩
            have ltx2 : x2 < 2 ^ 64 := by rw [← hx2.out]; exact xor_lt ltb1 ltb2
            have fax2 : bits .xor .u64 (b1 : Int) (b2 : Int) = (x2 : Int) := by rw [u64_xor_nat b1 b2 ltb1 ltb2, hx2.out]
            obtain ⟨b3, hb3⟩ : ∃ n, Hid (b &&& cc = n) := ⟨_, Lib.hid rfl⟩
            have ltb3 : b3 < 2 ^ 64 := by rw [← hb3.out]; exact and_lt _ ltb
            have fab3 : bits .and .u64 (b : Int) (cc : Int) = (b3 : Int) := by rw [u64_and_nat b cc ltb ltcc, hb3.out]
            obtain ⟨x3, hx3⟩ : ∃ n, Hid (x2 ^^^ b3 = n) := ⟨_, Lib.hid rfl⟩
            have ltx3 : x3 < 2 ^ 64 := by rw [← hx3.out]; exact xor_lt ltx2 ltb3
            have fax3 : bits .xor .u64 (x2 : Int) (b3 : Int) = (x3 : Int) := by rw [u64_xor_nat x2 b3 ltx2 ltb3, hx3.out]
            obtain ⟨m1, hm1⟩ : ∃ n, Hid ((r2 + x3) % 2 ^ 64 = n) := ⟨(r2 + x3) % 2 ^ 64, Lib.hid rfl⟩
            have fam1 : IntKind.u64.wrap ((r2 : Int) + (x3 : Int)) = (m1 : Int) := by rw [← Int.natCast_add, wrapN_64, hm1.out]
            have fbm1 : ((r2 : Int) + (x3 : Int)) % 18446744073709551616 = (m1 : Int) := by have := fam1; rwa [IntKind.wrap_u64] at this
            have ltm1 : m1 < 2 ^ 64 := by rw [← hm1.out]; exact Nat.mod_lt _ (Nat.two_pow_pos _)
            have fB := fun y : Bw W4 => hW4.out.y l1 l2 l3 hgs y
            have c1 : ∀ y : Bw W4, y.w.cell? ⟨gs, 1, none⟩ = some (.int .u64 b) := fun y => cell_blk (fB y).bs 1 rfl
            have c2 : ∀ y : Bw W4, y.w.cell? ⟨gs, 2, none⟩ = some (.int .u64 cc) := fun y => cell_blk (fB y).bs 2 rfl
            have kb : ∀ y : Bw W4, y.w.cell? ⟨gk, 0, none⟩ = some (.int .i64 64) := fun y => cell_blk (fB y).bl.bk 0 rfl
            have kU : ∀ w', (∃ y : Bw W4, w' = y.w) → (Instr.loadAt 47 (.pointer (some ⟨gk, 2, none⟩))).run Tryd.prog w' = .ok (.agg #[.int .i64 28, .int .i64 34, .int .i64 39]) w' := fun w' ⟨y, hy⟩ => hy ▸ load_part [.int .i64 28, .int .i64 34, .int .i64 39] (fB y).bl.bk (by intro j v hj; (rcases j with _ | _ | _ | j <;> first | exact hj | (simp at hj))) Tryd.underlying47 rfl (by kernel_rfl)
            haveI : Nonempty (Bw W4) := ⟨⟨W4, Below.refl _ _⟩⟩
            clear fB
            go_wp2_with fail
            refine wp_region_bw (by kernel_rfl) (by kernel_rfl) ?_
            repeat (first
              | (go_big_quiet_want
                 refine quiet_load (.tmp 121) rfl rfl kU ?_
                 simp only [Act.put, List.setIfInBounds_toArray, List.set_cons_zero, List.set_cons_succ]
                 go_big_quiet_on)
              | go_big_quiet_step (first
                | (go_at_call 54
                   rename_i y
                   refine (pturned_64 a 28 34 39 r2 _ lta (by omega) (by omega) (by omega) hr2.out).mono ?_
                   rintro e w2 ⟨rfl, hb2⟩
                   exact ⟨rfl, ⟨w2, y.h.trans (hb2.mono y.h.size)⟩, rfl⟩)))
            refine wpQuiet_nil ?_
            rintro _ ⟨y, rfl⟩
            obtain ⟨W5, eW5⟩ : ∃ W, W = y.w := ⟨_, rfl⟩
            have hW5 : Hid (B2_64 w gk gr gw gs v ws1 ⟨a, b, cc, d, e, f, g, h⟩ W5) := by rw [eW5]; exact hW4.out.y l1 l2 l3 hgs y
            rw [← eW5]
            have EW5 := Lib.hid eW5
            clear eW5
            clear c1 c2 kb kU
            obtain ⟨p1, hp1⟩ : ∃ n, Hid ((d + n4) % 2 ^ 64 = n) := ⟨(d + n4) % 2 ^ 64, Lib.hid rfl⟩
            have fap1 : IntKind.u64.wrap ((d : Int) + (n4 : Int)) = (p1 : Int) := by rw [← Int.natCast_add, wrapN_64, hp1.out]
            have fbp1 : ((d : Int) + (n4 : Int)) % 18446744073709551616 = (p1 : Int) := by have := fap1; rwa [IntKind.wrap_u64] at this
            have ltp1 : p1 < 2 ^ 64 := by rw [← hp1.out]; exact Nat.mod_lt _ (Nat.two_pow_pos _)
            obtain ⟨p2, hp2⟩ : ∃ n, Hid ((n4 + m1) % 2 ^ 64 = n) := ⟨(n4 + m1) % 2 ^ 64, Lib.hid rfl⟩
            have fap2 : IntKind.u64.wrap ((n4 : Int) + (m1 : Int)) = (p2 : Int) := by rw [← Int.natCast_add, wrapN_64, hp2.out]
            have fbp2 : ((n4 : Int) + (m1 : Int)) % 18446744073709551616 = (p2 : Int) := by have := fap2; rwa [IntKind.wrap_u64] at this
            have ltp2 : p2 < 2 ^ 64 := by rw [← hp2.out]; exact Nat.mod_lt _ (Nat.two_pow_pos _)
            have c1 : W5.cell? ⟨gs, 1, none⟩ = some (.int .u64 b) := cell_blk hW5.out.bs 1 rfl
            have c2 : W5.cell? ⟨gs, 2, none⟩ = some (.int .u64 cc) := cell_blk hW5.out.bs 2 rfl
            have c3 : W5.cell? ⟨gs, 3, none⟩ = some (.int .u64 d) := cell_blk hW5.out.bs 3 rfl
            have c5 : W5.cell? ⟨gs, 5, none⟩ = some (.int .u64 f) := cell_blk hW5.out.bs 5 rfl
            have c6 : W5.cell? ⟨gs, 6, none⟩ = some (.int .u64 g) := cell_blk hW5.out.bs 6 rfl
            have Ht5 : Hid (W5.there gs 0 (#[.int .u64 (p2 : Nat), .int .u64 (a : Nat), .int .u64 (b : Nat), .int .u64 (cc : Nat), .int .u64 (p1 : Nat), .int .u64 (e : Nat), .int .u64 (f : Nat), .int .u64 (g : Nat)] : Array Value).size) := there_blk hW5.out.bs rfl
            have Ho5 : Hid ((#[.int .u64 (p2 : Nat), .int .u64 (a : Nat), .int .u64 (b : Nat), .int .u64 (cc : Nat), .int .u64 (p1 : Nat), .int .u64 (e : Nat), .int .u64 (f : Nat), .int .u64 (g : Nat)] : Array Value).all (·.oneCell') = true) := by unfold Hid; kernel_rfl
            have hrnd : Hid ((⟨p2, a, b, cc, p1, e, f, g⟩ : S8) = rnds K64 (wds K64 p) t1 v) := by
              rw [ht1.out]
              show _ = rnd K64 (K64.key.getD t 0) ((wds K64 p).getD t 0) (rnds K64 (wds K64 p) t v)
              rw [← hs.out, hkk.out, hXw.out]
              unfold rnd one two
              show (⟨p2, a, b, cc, p1, e, f, g⟩ : S8) = ⟨(h + tur 64 e (14, 18, 41) + (e &&& f ^^^ (2 ^ 64 - 1 - e) &&& g) + kk + X + (tur 64 a (28, 34, 39) + (a &&& b ^^^ a &&& cc ^^^ b &&& cc))) % 2 ^ 64, a, b, cc, (d + (h + tur 64 e (14, 18, 41) + (e &&& f ^^^ (2 ^ 64 - 1 - e) &&& g) + kk + X)) % 2 ^ 64, e, f, g⟩
              rw [hne.out, ha1.out, ha2.out, hx1.out, hr1.out, hr2.out, hb1.out, hb2.out, hx2.out, hb3.out, hx3.out, ← pone_64, ← ptwo_64, hn1.out, hn2.out, hn3.out, hn4.out, hm1.out, hp1.out, hp2.out]
            go_wp2_with (
              refine wpList_store_mid rfl 53 (.tmp 12) (.tmp 159) rfl gs 0 _ rfl rfl ?_ ?_ ?_ ?_
              · exact Ht5.out
              · exact Hi8.out
              · exact Ho5.out
              generalize hwf : World.setCells W5 gs 0 _ = wf
              have Hwf := Lib.hid hwf
              clear hwf)
            have hBf : Hid (B2_64 w gk gr gw gs v ws1 ⟨p2, a, b, cc, p1, e, f, g⟩ wf) := by rw [← Hwf.out]; exact hW5.out.put l1 l2 l3 hgs ⟨p2, a, b, cc, p1, e, f, g⟩
            have hokn : Hid (S8.ok 64 ⟨p2, a, b, cc, p1, e, f, g⟩) := by rw [hrnd.out]; exact rnds_ok hVo.out t1
            exact ⟨⟨t1, ⟨p2, a, b, cc, p1, e, f, g⟩, ws1, rfl, by rw [ht1.out]; omega, hrnd, hokn, hWn1, hBf⟩, by simp only [intOf]; rw [ht1.out]; omega⟩
          · have h16' : ¬ (15 : Int) < t := by omega
            obtain ⟨X, hXw⟩ : ∃ n, Hid ((wds K64 p).getD t 0 = n) := ⟨_, Lib.hid rfl⟩
            have ltX : X < 2 ^ 64 := by rw [← hXw.out]; exact wds_lt (by decide) p _
            have hcw : wr.cell? ⟨gw, i0, none⟩ = some (.int .u64 X) := by
              rw [← hXw.out]; exact hB.out.wcell (by rw [hi0.out]; exact hWn.out.low (by omega))
            go_wp2_with fail
            obtain ⟨ws1, hws1⟩ : ∃ l, l = ws := ⟨_, rfl⟩
            have hWn1 : Hid (Wn K64 p t1 ws1) := by rw [hws1, ht1.out]; exact hWn.out.up (by omega)
            obtain ⟨W2, eW2⟩ : ∃ W, W = wr := ⟨_, rfl⟩
            have hW2 : Hid (B2_64 w gk gr gw gs v ws1 ⟨a, b, cc, d, e, f, g, h⟩ W2) := by rw [eW2, hws1]; exact hB
            rw [← eW2]
            have Hws1 := Lib.hid hws1
            have EW2 := Lib.hid eW2
            clear hws1 eW2 hcw

            have c0 : W2.cell? ⟨gs, 0, none⟩ = some (.int .u64 a) := cell_blk hW2.out.bs 0 rfl
            have c4 : W2.cell? ⟨gs, 4, none⟩ = some (.int .u64 e) := cell_blk hW2.out.bs 4 rfl
            go_quiet (fail)
            obtain ⟨W3, eW3⟩ : ∃ W, W = W2.drewN nq := ⟨_, rfl⟩
            have hW3 : Hid (B2_64 w gk gr gw gs v ws1 ⟨a, b, cc, d, e, f, g, h⟩ W3) := by rw [eW3]; exact hW2.out.drewN nq
            rw [← eW3]
            have EW3 := Lib.hid eW3
            clear eW3 c0 c4
            obtain ⟨lta, ltb, ltcc, ltd, lte, ltf, ltg, lth⟩ := hso.out
            dsimp only at lta ltb ltcc ltd lte ltf ltg lth
            obtain ⟨r1, hr1⟩ : ∃ n, Hid (tur 64 e (14, 18, 41) = n) := ⟨_, Lib.hid rfl⟩
            obtain ⟨ne, hne⟩ : ∃ n, Hid (2 ^ 64 - 1 - e = n) := ⟨2 ^ 64 - 1 - e, Lib.hid rfl⟩
            have ltne : ne < 2 ^ 64 := by rw [← hne.out]; exact Nat.lt_of_le_of_lt (Nat.sub_le _ _) (by decide)
            have fane : bits .xor .u64 18446744073709551615 (e : Int) = (ne : Int) := by rw [← hne.out]; exact unot_64 e lte
            have fbne : bits .xor .u64 (if IntKind.u64.signed = true then -1 else IntKind.u64.max) (e : Int) = (ne : Int) := fane
            obtain ⟨kk, hkk⟩ : ∃ n, Hid (K64.key.getD t 0 = n) := ⟨_, Lib.hid rfl⟩
            have hkc : Hid (w.cell? ⟨2, t, none⟩ = some (.int .u64 kk)) := hg.out t kk (by rw [← hkk.out]; exact key_at_64 t hlt)
            obtain ⟨a1, ha1⟩ : ∃ n, Hid (e &&& f = n) := ⟨_, Lib.hid rfl⟩
            have lta1 : a1 < 2 ^ 64 := by rw [← ha1.out]; exact and_lt _ lte
            have faa1 : bits .and .u64 (e : Int) (f : Int) = (a1 : Int) := by rw [u64_and_nat e f lte ltf, ha1.out]
            obtain ⟨a2, ha2⟩ : ∃ n, Hid (ne &&& g = n) := ⟨_, Lib.hid rfl⟩
            have lta2 : a2 < 2 ^ 64 := by rw [← ha2.out]; exact and_lt _ ltne
            have faa2 : bits .and .u64 (ne : Int) (g : Int) = (a2 : Int) := by rw [u64_and_nat ne g ltne ltg, ha2.out]
            obtain ⟨x1, hx1⟩ : ∃ n, Hid (a1 ^^^ a2 = n) := ⟨_, Lib.hid rfl⟩
            have ltx1 : x1 < 2 ^ 64 := by rw [← hx1.out]; exact xor_lt lta1 lta2
            have fax1 : bits .xor .u64 (a1 : Int) (a2 : Int) = (x1 : Int) := by rw [u64_xor_nat a1 a2 lta1 lta2, hx1.out]
            obtain ⟨n1, hn1⟩ : ∃ n, Hid ((h + r1) % 2 ^ 64 = n) := ⟨(h + r1) % 2 ^ 64, Lib.hid rfl⟩
            have fan1 : IntKind.u64.wrap ((h : Int) + (r1 : Int)) = (n1 : Int) := by rw [← Int.natCast_add, wrapN_64, hn1.out]
            have fbn1 : ((h : Int) + (r1 : Int)) % 18446744073709551616 = (n1 : Int) := by have := fan1; rwa [IntKind.wrap_u64] at this
            have ltn1 : n1 < 2 ^ 64 := by rw [← hn1.out]; exact Nat.mod_lt _ (Nat.two_pow_pos _)
            obtain ⟨n2, hn2⟩ : ∃ n, Hid ((n1 + x1) % 2 ^ 64 = n) := ⟨(n1 + x1) % 2 ^ 64, Lib.hid rfl⟩
            have fan2 : IntKind.u64.wrap ((n1 : Int) + (x1 : Int)) = (n2 : Int) := by rw [← Int.natCast_add, wrapN_64, hn2.out]
            have fbn2 : ((n1 : Int) + (x1 : Int)) % 18446744073709551616 = (n2 : Int) := by have := fan2; rwa [IntKind.wrap_u64] at this
            have ltn2 : n2 < 2 ^ 64 := by rw [← hn2.out]; exact Nat.mod_lt _ (Nat.two_pow_pos _)
            obtain ⟨n3, hn3⟩ : ∃ n, Hid ((n2 + kk) % 2 ^ 64 = n) := ⟨(n2 + kk) % 2 ^ 64, Lib.hid rfl⟩
            have fan3 : IntKind.u64.wrap ((n2 : Int) + (kk : Int)) = (n3 : Int) := by rw [← Int.natCast_add, wrapN_64, hn3.out]
            have fbn3 : ((n2 : Int) + (kk : Int)) % 18446744073709551616 = (n3 : Int) := by have := fan3; rwa [IntKind.wrap_u64] at this
            have ltn3 : n3 < 2 ^ 64 := by rw [← hn3.out]; exact Nat.mod_lt _ (Nat.two_pow_pos _)
            obtain ⟨n4, hn4⟩ : ∃ n, Hid ((n3 + X) % 2 ^ 64 = n) := ⟨(n3 + X) % 2 ^ 64, Lib.hid rfl⟩
            have fan4 : IntKind.u64.wrap ((n3 : Int) + (X : Int)) = (n4 : Int) := by rw [← Int.natCast_add, wrapN_64, hn4.out]
            have fbn4 : ((n3 : Int) + (X : Int)) % 18446744073709551616 = (n4 : Int) := by have := fan4; rwa [IntKind.wrap_u64] at this
            have ltn4 : n4 < 2 ^ 64 := by rw [← hn4.out]; exact Nat.mod_lt _ (Nat.two_pow_pos _)
            have fB := fun y : Bw W3 => hW3.out.y l1 l2 l3 hgs y
            have c5 : ∀ y : Bw W3, y.w.cell? ⟨gs, 5, none⟩ = some (.int .u64 f) := fun y => cell_blk (fB y).bs 5 rfl
            have c6 : ∀ y : Bw W3, y.w.cell? ⟨gs, 6, none⟩ = some (.int .u64 g) := fun y => cell_blk (fB y).bs 6 rfl
            have c7 : ∀ y : Bw W3, y.w.cell? ⟨gs, 7, none⟩ = some (.int .u64 h) := fun y => cell_blk (fB y).bs 7 rfl
            have kb : ∀ y : Bw W3, y.w.cell? ⟨gk, 0, none⟩ = some (.int .i64 64) := fun y => cell_blk (fB y).bl.bk 0 rfl
            have kk0 : ∀ y : Bw W3, y.w.cell? ⟨2, t, none⟩ = some (.int .u64 kk) := fun y => (World.cell?_of_block (a := ⟨2, t, none⟩) ((fB y).bl.bel.block 2 (World.block_lt_of_cell? _ _ hkc.out))).trans hkc.out
            have kD : ∀ w', (∃ y : Bw W3, w' = y.w) → (Instr.loadAt 47 (.pointer (some ⟨gk, 5, none⟩))).run Tryd.prog w' = .ok (.agg #[.int .i64 14, .int .i64 18, .int .i64 41]) w' := fun w' ⟨y, hy⟩ => hy ▸ load_part [.int .i64 14, .int .i64 18, .int .i64 41] (fB y).bl.bk (by intro j v hj; (rcases j with _ | _ | _ | j <;> first | exact hj | (simp at hj))) Tryd.underlying47 rfl (by kernel_rfl)
            haveI : Nonempty (Bw W3) := ⟨⟨W3, Below.refl _ _⟩⟩
            clear fB
            go_wp2_with fail
            refine wp_region_bw (by kernel_rfl) (by kernel_rfl) ?_
            repeat (first
              | (go_big_quiet_want
                 refine quiet_load (.tmp 97) rfl rfl kD ?_
                 simp only [Act.put, List.setIfInBounds_toArray, List.set_cons_zero, List.set_cons_succ]
                 go_big_quiet_on)
              | go_big_quiet_step (first
                | (go_at_call 54
                   rename_i y
                   refine (pturned_64 e 14 18 41 r1 _ lte (by omega) (by omega) (by omega) hr1.out).mono ?_
                   rintro e w2 ⟨rfl, hb2⟩
                   exact ⟨rfl, ⟨w2, y.h.trans (hb2.mono y.h.size)⟩, rfl⟩)
                | (go_at_call 40
                   rename_i y
                   refine (key_64 t kk _ hlt (kk0 y)).mono ?_
                   rintro e w2 ⟨rfl, rfl⟩
                   exact ⟨rfl, y, rfl⟩)))
            refine wpQuiet_nil ?_
            rintro _ ⟨y, rfl⟩
            obtain ⟨W4, eW4⟩ : ∃ W, W = y.w := ⟨_, rfl⟩
            have hW4 : Hid (B2_64 w gk gr gw gs v ws1 ⟨a, b, cc, d, e, f, g, h⟩ W4) := by rw [eW4]; exact hW3.out.y l1 l2 l3 hgs y
            rw [← eW4]
            have EW4 := Lib.hid eW4
            clear eW4
            clear c5 c6 c7 kb kk0 kD
            obtain ⟨r2, hr2⟩ : ∃ n, Hid (tur 64 a (28, 34, 39) = n) := ⟨_, Lib.hid rfl⟩
            obtain ⟨b1, hb1⟩ : ∃ n, Hid (a &&& b = n) := ⟨_, Lib.hid rfl⟩
            have ltb1 : b1 < 2 ^ 64 := by rw [← hb1.out]; exact and_lt _ lta
            have fab1 : bits .and .u64 (a : Int) (b : Int) = (b1 : Int) := by rw [u64_and_nat a b lta ltb, hb1.out]
            obtain ⟨b2, hb2⟩ : ∃ n, Hid (a &&& cc = n) := ⟨_, Lib.hid rfl⟩
            have ltb2 : b2 < 2 ^ 64 := by rw [← hb2.out]; exact and_lt _ lta
            have fab2 : bits .and .u64 (a : Int) (cc : Int) = (b2 : Int) := by rw [u64_and_nat a cc lta ltcc, hb2.out]
            obtain ⟨x2, hx2⟩ : ∃ n, Hid (b1 ^^^ b2 = n) := ⟨_, Lib.hid rfl⟩
            have ltx2 : x2 < 2 ^ 64 := by rw [← hx2.out]; exact xor_lt ltb1 ltb2
            have fax2 : bits .xor .u64 (b1 : Int) (b2 : Int) = (x2 : Int) := by rw [u64_xor_nat b1 b2 ltb1 ltb2, hx2.out]
            obtain ⟨b3, hb3⟩ : ∃ n, Hid (b &&& cc = n) := ⟨_, Lib.hid rfl⟩
            have ltb3 : b3 < 2 ^ 64 := by rw [← hb3.out]; exact and_lt _ ltb
            have fab3 : bits .and .u64 (b : Int) (cc : Int) = (b3 : Int) := by rw [u64_and_nat b cc ltb ltcc, hb3.out]
            obtain ⟨x3, hx3⟩ : ∃ n, Hid (x2 ^^^ b3 = n) := ⟨_, Lib.hid rfl⟩
            have ltx3 : x3 < 2 ^ 64 := by rw [← hx3.out]; exact xor_lt ltx2 ltb3
            have fax3 : bits .xor .u64 (x2 : Int) (b3 : Int) = (x3 : Int) := by rw [u64_xor_nat x2 b3 ltx2 ltb3, hx3.out]
            obtain ⟨m1, hm1⟩ : ∃ n, Hid ((r2 + x3) % 2 ^ 64 = n) := ⟨(r2 + x3) % 2 ^ 64, Lib.hid rfl⟩
            have fam1 : IntKind.u64.wrap ((r2 : Int) + (x3 : Int)) = (m1 : Int) := by rw [← Int.natCast_add, wrapN_64, hm1.out]
            have fbm1 : ((r2 : Int) + (x3 : Int)) % 18446744073709551616 = (m1 : Int) := by have := fam1; rwa [IntKind.wrap_u64] at this
            have ltm1 : m1 < 2 ^ 64 := by rw [← hm1.out]; exact Nat.mod_lt _ (Nat.two_pow_pos _)
            have fB := fun y : Bw W4 => hW4.out.y l1 l2 l3 hgs y
            have c1 : ∀ y : Bw W4, y.w.cell? ⟨gs, 1, none⟩ = some (.int .u64 b) := fun y => cell_blk (fB y).bs 1 rfl
            have c2 : ∀ y : Bw W4, y.w.cell? ⟨gs, 2, none⟩ = some (.int .u64 cc) := fun y => cell_blk (fB y).bs 2 rfl
            have kb : ∀ y : Bw W4, y.w.cell? ⟨gk, 0, none⟩ = some (.int .i64 64) := fun y => cell_blk (fB y).bl.bk 0 rfl
            have kU : ∀ w', (∃ y : Bw W4, w' = y.w) → (Instr.loadAt 47 (.pointer (some ⟨gk, 2, none⟩))).run Tryd.prog w' = .ok (.agg #[.int .i64 28, .int .i64 34, .int .i64 39]) w' := fun w' ⟨y, hy⟩ => hy ▸ load_part [.int .i64 28, .int .i64 34, .int .i64 39] (fB y).bl.bk (by intro j v hj; (rcases j with _ | _ | _ | j <;> first | exact hj | (simp at hj))) Tryd.underlying47 rfl (by kernel_rfl)
            haveI : Nonempty (Bw W4) := ⟨⟨W4, Below.refl _ _⟩⟩
            clear fB
            go_wp2_with fail
            refine wp_region_bw (by kernel_rfl) (by kernel_rfl) ?_
            repeat (first
              | (go_big_quiet_want
                 refine quiet_load (.tmp 121) rfl rfl kU ?_
                 simp only [Act.put, List.setIfInBounds_toArray, List.set_cons_zero, List.set_cons_succ]
                 go_big_quiet_on)
              | go_big_quiet_step (first
                | (go_at_call 54
                   rename_i y
                   refine (pturned_64 a 28 34 39 r2 _ lta (by omega) (by omega) (by omega) hr2.out).mono ?_
                   rintro e w2 ⟨rfl, hb2⟩
                   exact ⟨rfl, ⟨w2, y.h.trans (hb2.mono y.h.size)⟩, rfl⟩)))
            refine wpQuiet_nil ?_
            rintro _ ⟨y, rfl⟩
            obtain ⟨W5, eW5⟩ : ∃ W, W = y.w := ⟨_, rfl⟩
            have hW5 : Hid (B2_64 w gk gr gw gs v ws1 ⟨a, b, cc, d, e, f, g, h⟩ W5) := by rw [eW5]; exact hW4.out.y l1 l2 l3 hgs y
            rw [← eW5]
            have EW5 := Lib.hid eW5
            clear eW5
            clear c1 c2 kb kU
            obtain ⟨p1, hp1⟩ : ∃ n, Hid ((d + n4) % 2 ^ 64 = n) := ⟨(d + n4) % 2 ^ 64, Lib.hid rfl⟩
            have fap1 : IntKind.u64.wrap ((d : Int) + (n4 : Int)) = (p1 : Int) := by rw [← Int.natCast_add, wrapN_64, hp1.out]
            have fbp1 : ((d : Int) + (n4 : Int)) % 18446744073709551616 = (p1 : Int) := by have := fap1; rwa [IntKind.wrap_u64] at this
            have ltp1 : p1 < 2 ^ 64 := by rw [← hp1.out]; exact Nat.mod_lt _ (Nat.two_pow_pos _)
            obtain ⟨p2, hp2⟩ : ∃ n, Hid ((n4 + m1) % 2 ^ 64 = n) := ⟨(n4 + m1) % 2 ^ 64, Lib.hid rfl⟩
            have fap2 : IntKind.u64.wrap ((n4 : Int) + (m1 : Int)) = (p2 : Int) := by rw [← Int.natCast_add, wrapN_64, hp2.out]
            have fbp2 : ((n4 : Int) + (m1 : Int)) % 18446744073709551616 = (p2 : Int) := by have := fap2; rwa [IntKind.wrap_u64] at this
            have ltp2 : p2 < 2 ^ 64 := by rw [← hp2.out]; exact Nat.mod_lt _ (Nat.two_pow_pos _)
            have c1 : W5.cell? ⟨gs, 1, none⟩ = some (.int .u64 b) := cell_blk hW5.out.bs 1 rfl
            have c2 : W5.cell? ⟨gs, 2, none⟩ = some (.int .u64 cc) := cell_blk hW5.out.bs 2 rfl
            have c3 : W5.cell? ⟨gs, 3, none⟩ = some (.int .u64 d) := cell_blk hW5.out.bs 3 rfl
            have c5 : W5.cell? ⟨gs, 5, none⟩ = some (.int .u64 f) := cell_blk hW5.out.bs 5 rfl
            have c6 : W5.cell? ⟨gs, 6, none⟩ = some (.int .u64 g) := cell_blk hW5.out.bs 6 rfl
            have Ht5 : Hid (W5.there gs 0 (#[.int .u64 (p2 : Nat), .int .u64 (a : Nat), .int .u64 (b : Nat), .int .u64 (cc : Nat), .int .u64 (p1 : Nat), .int .u64 (e : Nat), .int .u64 (f : Nat), .int .u64 (g : Nat)] : Array Value).size) := there_blk hW5.out.bs rfl
            have Ho5 : Hid ((#[.int .u64 (p2 : Nat), .int .u64 (a : Nat), .int .u64 (b : Nat), .int .u64 (cc : Nat), .int .u64 (p1 : Nat), .int .u64 (e : Nat), .int .u64 (f : Nat), .int .u64 (g : Nat)] : Array Value).all (·.oneCell') = true) := by unfold Hid; kernel_rfl
            have hrnd : Hid ((⟨p2, a, b, cc, p1, e, f, g⟩ : S8) = rnds K64 (wds K64 p) t1 v) := by
              rw [ht1.out]
              show _ = rnd K64 (K64.key.getD t 0) ((wds K64 p).getD t 0) (rnds K64 (wds K64 p) t v)
              rw [← hs.out, hkk.out, hXw.out]
              unfold rnd one two
              show (⟨p2, a, b, cc, p1, e, f, g⟩ : S8) = ⟨(h + tur 64 e (14, 18, 41) + (e &&& f ^^^ (2 ^ 64 - 1 - e) &&& g) + kk + X + (tur 64 a (28, 34, 39) + (a &&& b ^^^ a &&& cc ^^^ b &&& cc))) % 2 ^ 64, a, b, cc, (d + (h + tur 64 e (14, 18, 41) + (e &&& f ^^^ (2 ^ 64 - 1 - e) &&& g) + kk + X)) % 2 ^ 64, e, f, g⟩
              rw [hne.out, ha1.out, ha2.out, hx1.out, hr1.out, hr2.out, hb1.out, hb2.out, hx2.out, hb3.out, hx3.out, ← pone_64, ← ptwo_64, hn1.out, hn2.out, hn3.out, hn4.out, hm1.out, hp1.out, hp2.out]
            go_wp2_with (
              refine wpList_store_mid rfl 53 (.tmp 12) (.tmp 159) rfl gs 0 _ rfl rfl ?_ ?_ ?_ ?_
              · exact Ht5.out
              · exact Hi8.out
              · exact Ho5.out
              generalize hwf : World.setCells W5 gs 0 _ = wf
              have Hwf := Lib.hid hwf
              clear hwf)
            have hBf : Hid (B2_64 w gk gr gw gs v ws1 ⟨p2, a, b, cc, p1, e, f, g⟩ wf) := by rw [← Hwf.out]; exact hW5.out.put l1 l2 l3 hgs ⟨p2, a, b, cc, p1, e, f, g⟩
            have hokn : Hid (S8.ok 64 ⟨p2, a, b, cc, p1, e, f, g⟩) := by rw [hrnd.out]; exact rnds_ok hVo.out t1
            exact ⟨⟨t1, ⟨p2, a, b, cc, p1, e, f, g⟩, ws1, rfl, by rw [ht1.out]; omega, hrnd, hokn, hWn1, hBf⟩, by simp only [intOf]; rw [ht1.out]; omega⟩
        · obtain ⟨wq2, hwq2⟩ : ∃ wq, wq = wr := ⟨wr, rfl⟩
          subst hwq2
          have htR : Hid (t = 80) := (by omega : t = 80)
          have hnt : ¬ (t : Int) < 80 := by omega
          obtain ⟨z, hz⟩ : ∃ z, Hid (blk K64 v p = z) := ⟨_, Lib.hid rfl⟩
          obtain ⟨s, hs'⟩ : ∃ s : S8, Hid ((⟨a, b, cc, d, e, f, g, h⟩ : S8) = s) := ⟨_, Lib.hid rfl⟩
          have hblk : Hid (z = add8 64 v s) := by
            unfold Hid
            rw [← hz.out, ← hs'.out, hs.out, htR.out]
            rfl
          rw [hs'.out] at hB
          have hB0 : Hid (B3_64 w gr gs v s 0 wq2) := hB.out.third
          clear hB hWn hso hs
          go_wp2_with fail
          go_loopw [19, 161] (fun _ x161 wr => ∃ i : Nat, x161 = .int .i64 i ∧ i ≤ 8 ∧ Hid (B3_64 w gr gs v s i wr)) (fun _ x161 _ => 8 - (intOf x161).toNat)
          case atStart => exact ⟨0, rfl, by omega, hB0⟩
          case round =>
            obtain ⟨i, rfl, hi, hB⟩ := hrel
            by_cases hi8 : i < 8
            · have hi8' : (i : Int) < 8 := by omega
              have hi0 : (0 : Int) ≤ (i : Int) := by omega
              obtain ⟨x, hx⟩ : ∃ n, Hid (v.l.getD i 0 = n) := ⟨_, Lib.hid rfl⟩
              obtain ⟨y, hy⟩ : ∃ n, Hid (s.l.getD i 0 = n) := ⟨_, Lib.hid rfl⟩
              have hcx : wr.cell? ⟨w.heap.size, i, none⟩ = some (.int .u64 x) := by rw [← hx.out]; exact hB.out.vcell hi8
              have hcy : wr.cell? ⟨gs, i, none⟩ = some (.int .u64 y) := by rw [← hy.out]; exact hB.out.scell hi8
              have hfr := frozen_blk hB.out.bv i
              obtain ⟨n, hn⟩ : ∃ n, Hid ((x + y) % 2 ^ 64 = n) := ⟨(x + y) % 2 ^ 64, Lib.hid rfl⟩
              have fan : IntKind.u64.wrap ((x : Int) + (y : Int)) = (n : Int) := by rw [← Int.natCast_add, wrapN_64, hn.out]
              have fbn : ((x : Int) + (y : Int)) % 18446744073709551616 = (n : Int) := by have := fan; rwa [IntKind.wrap_u64] at this
              have ltn : n < 2 ^ 64 := by rw [← hn.out]; exact Nat.mod_lt _ (Nat.two_pow_pos _)
              have f9 : IntKind.i64.wrap ((i : Int) + 1) = ((i + 1 : Nat) : Int) := by rw [IntWalk.i64_in _ (by omega)]; omega
              have hCn := Lib.hid (hB.out.drewN 1)
              have hnew : Hid (B3_64 w gr gs v s (i + 1) (wr.setCell ⟨w.heap.size, i, none⟩ (.int .u64 n))) := by
                have := hB.out.step l1 l2 (Nat.lt_trans l3 hgs) hi8
                rwa [hx.out, hy.out, hn.out] at this
              go_wp2_with fail
              go_region
              go_wp2_with fail
              go_roundw
              case rel => exact ⟨i + 1, by go_num, by omega, hnew.out.drewN 1⟩
              case measure => simp only [intOf]; omega
            · have hiS : Hid (i = 8) := (by omega : i = 8)
              have hiS' : ¬ (i : Int) < 8 := by omega
              obtain ⟨wq3, hwq3⟩ : ∃ wq, wq = wr := ⟨wr, rfl⟩
              subst hwq3
              rw [hiS.out] at hB
              have hbz : Hid (wq3.heap[w.heap.size]? = some (.cells #[.int .u64 z.a, .int .u64 z.b, .int .u64 z.c, .int .u64 z.d, .int .u64 z.e, .int .u64 z.f, .int .u64 z.g, .int .u64 z.h] 53 (0, 0))) := by
                have h := hB.out.bv
                rw [mx_end, ← hblk.out] at h
                exact h
              have hrz : wq3.rangeAt w.heap.size 0 [.int .u64 z.a, .int .u64 z.b, .int .u64 z.c, .int .u64 z.d, .int .u64 z.e, .int .u64 z.f, .int .u64 z.g, .int .u64 z.h] := range_of hbz.out
              have Htz : Hid (wq3.there gr 0 (#[.int .u64 z.a, .int .u64 z.b, .int .u64 z.c, .int .u64 z.d, .int .u64 z.e, .int .u64 z.f, .int .u64 z.g, .int .u64 z.h] : Array Value).size) := there_blk hB.out.br rfl
              have Hoz : Hid ((#[.int .u64 z.a, .int .u64 z.b, .int .u64 z.c, .int .u64 z.d, .int .u64 z.e, .int .u64 z.f, .int .u64 z.g, .int .u64 z.h] : Array Value).all (·.oneCell') = true) := by unfold Hid; kernel_rfl
              go_wp2_with (first
                | (refine wpList_load_mid rfl 53 (.tmp 4) rfl w.heap.size 0 rfl [.int .u64 z.a, .int .u64 z.b, .int .u64 z.c, .int .u64 z.d, .int .u64 z.e, .int .u64 z.f, .int .u64 z.g, .int .u64 z.h] _ hrz Tryd.underlying53 rfl (by kernel_rfl) ?_)
                | (
                   refine wpList_store_mid rfl 53 (.tmp 8) (.tmp 173) rfl gr 0 _ rfl rfl ?_ ?_ ?_ ?_
                   · exact Htz.out
                   · exact Hi8.out
                   · exact Hoz.out
                   generalize hwf : World.setCells wq3 gr 0 _ = wf
                   have Hwf := Lib.hid hwf
                   clear hwf))
              have hra := World.rangeAt_setCells_same wq3 gr 0 (#[.int .u64 z.a, .int .u64 z.b, .int .u64 z.c, .int .u64 z.d, .int .u64 z.e, .int .u64 z.f, .int .u64 z.g, .int .u64 z.h] : Array Value).toList Htz.out
              have bel := below_setCells hB.out.bel (g := gr) 0 (#[.int .u64 z.a, .int .u64 z.b, .int .u64 z.c, .int .u64 z.d, .int .u64 z.e, .int .u64 z.f, .int .u64 z.g, .int .u64 z.h] : Array Value).toList (by omega) (Nat.le_refl _)
              have hwf := Hwf.out
              rw [hwf] at hra bel
              have hld := run_loadVar_mid (P := Tryd.prog) wf gr 0 53 _ _ hra Tryd.underlying53 rfl (by kernel_rfl)
              refine bodyPost_ret (v := .agg #[.int .u64 z.a, .int .u64 z.b, .int .u64 z.c, .int .u64 z.d, .int .u64 z.e, .int .u64 z.f, .int .u64 z.g, .int .u64 z.h]) ?_ rfl ⟨by rw [hz.out], bel⟩
              exact results_cell Tryd.results39 rfl hld
end Go.Proofs.YtclecmpmohoamaaDoor
