/- The laws' own helpers of chapter 6; what the rows find laid. (Printed by gen_shaw.py.) -/
import Derived.Test.YtclecmpmohoamaaDoorShaU
import Derived.Test.YtclecmpmohoamaaDoorShaO
import Derived.Test.YtclecmpmohoamaaDoorFrame
import Derived.Lib.LaidTab
import Derived.LaidMore
import Derived.SevenTiedAt
import Derived.Stop.Joined
import Derived.Lib.SmallJoins
namespace Go.Proofs.YtclecmpmohoamaaDoor
open Go.ChangeShapes Go.WideShapes Go.ChangeAt Go.RowKit
set_option linter.unusedVariables false
set_option linter.unusedSimpArgs false
def RetB (base : Nat) (l : List UInt8) (w : World) (e : Ending) (w' : World) : Prop :=
  ∃ A c, e = .returned (.slice A l.length c) ∧ w'.ownsRow base 5 1 (.slice A l.length c) l.length (l.map B8) ∧ Below w.heap.size w w'
theorem conv8 (w : World) (A : Option Addr) (n c : Nat) (l : List UInt8) (h : Rd w w.heap.size 1 A n (l.map B8)) : (convert 22 9 (.slice A n c)).run Tryd.prog w = .ok (.string (str l)) w :=
  run_convert_rd _ _ _ Tryd.underlying22 Tryd.underlying5 Tryd.underlying9 h
theorem own6_any (A : Option Addr) (n c : Nat) (l : List UInt8) (w : World) (hr : Rd w w.heap.size 1 A n (l.map B8)) (hn : n ≤ 140737488355328) :
    Calls Tryd.prog 16 #[.slice A n c] w (RetB w.heap.size l w) := by
  obtain rfl : l.length = n := by simpa using hr.len
  go_enter Tryd.func16, Tryd.ntmps16
  go_wp2_with (at_builtin; refine wpList_app rfl (.tmp 3) (.tmp 4) _ rfl w.heap.size 5 1 1 _ Tryd.underlying22 info8 rfl (by omega) (.slice (some ⟨w.heap.size, 0, none⟩) 0 0) 0 [] rfl (World.ownsRow_lit w #[] 0 (Nat.le_refl _) (by simp [maxLen]) rfl) w.heap.size A l.length c _ rfl (hr.alloc (Nat.le_refl _) _) (B8_one _) (by simp only [maxLen]; omega) (by omega) (by simp) ?_; intro A' c' w' h1 h2 h3)
  go_ret
  exact ⟨A', c', rfl, by simpa using h1, ((Below.refl _ _).alloc (Nat.le_refl _) _).grown h2 (by simp) (fun k hk => by simp [Value.ownBlock] at hk; omega)⟩
/-- All four that the laws of chapter 6 find laid. -/
structure Lay (w : World) : Prop where
  s : LayS w
  g : LayG w
theorem Lay.go {w w' : World} (h : Lay w) (hb : Below w.heap.size w w') : Lay w' := ⟨h.s.to h.s.size hb, h.g.to h.s.size hb⟩
theorem LayS.go {w w' : World} (h : LayS w) (hb : Below w.heap.size w w') : LayS w' := h.to h.size hb
theorem rd_lit (w : World) (l : List UInt8) (t : TypeId) (f : Nat × Nat) (n : Nat) (hn : l.length = n) : Rd (w.alloc (.cells (l.map B8).toArray t f)) (w.alloc (.cells (l.map B8).toArray t f)).heap.size 1 (some ⟨w.heap.size, 0, none⟩) n (l.map B8) := by
  refine ⟨by simpa using hn, fun _ => ⟨w.heap.size, 0, rfl, by simp, fun j u hu => ?_⟩⟩
  rw [Nat.zero_add, Go.Joins.cell_of_block (heap_alloc_new w _), ← hu]
  simp
theorem sumOf_length (K : Kd) (f : S8) (l : List UInt8) : (sumOf K f l).length = 8 * (K.b / 8) := by
  unfold sumOf Go.Proofs.YtclecmpmohoamaaDoor.told
  simp [S8.l, toBE]
  omega
theorem two_of {l : List UInt8} {a b : UInt8} (h : l.take 2 = [a, b]) : l[0]? = some a ∧ l[1]? = some b := by
  match l, h with
  | x :: y :: r, h => simp at h; obtain ⟨rfl, rfl⟩ := h; exact ⟨rfl, rfl⟩
/-- The first two bytes of a sum of one's own. -/
theorem own_two {w : World} {base n : Nat} {A : Option Addr} {c : Nat} {l : List UInt8} {a b : UInt8} (h : w.ownsRow base 5 1 (.slice A n c) n (l.map B8)) (hn : 2 ≤ n) (h2 : l.take 2 = [a, b]) :
    ∃ g, A = some ⟨g, 0, none⟩ ∧ g < w.heap.size ∧ n ≤ c ∧ w.cell? ⟨g, 0, none⟩ = some (.int .u8 (a.toNat : Int)) ∧ w.cell? ⟨g, 1, none⟩ = some (.int .u8 (b.toNat : Int)) := by
  obtain ⟨g, rfl, h1, h3⟩ := own_addr h (by omega)
  obtain ⟨e0, e1⟩ := two_of h2
  refine ⟨g, rfl, h3, own_cap h, ?_, ?_⟩
  · rw [h.cellAt 0 (by omega), List.getElem?_map, e0]; rfl
  · rw [h.cellAt 1 (by omega), List.getElem?_map, e1]; rfl
set_option maxHeartbeats 1000000 in
theorem awake6_any (w : World) (hL : Lay w) : Calls Tryd.prog 15 #[] w fun e w' => e = .returned (.bool true) ∧ Below w.heap.size w w' := by
  have HL := Lib.hid hL
  clear hL
  have q1 : Hid (Rd (w.alloc (.cells #[.int .u8 97, .int .u8 98, .int .u8 99] 5 (3, 4))) (w.alloc (.cells #[.int .u8 97, .int .u8 98, .int .u8 99] 5 (3, 4))).heap.size 1 (some ⟨w.heap.size, 0, none⟩) 3 (([97, 98, 99] : List UInt8).map B8)) := rd_lit w [97, 98, 99] 5 (3, 4) 3 rfl
  have b0 : Below w.heap.size w (w.alloc (.cells #[.int .u8 97, .int .u8 98, .int .u8 99] 5 (3, 4))) := (Below.refl _ _).alloc (Nat.le_refl _) _
  have HL1 := Lib.hid (HL.out.go b0)
  have hv1 : (convert 22 22 (.slice (some ⟨w.heap.size, 0, none⟩) 3 3)).run Tryd.prog (w.alloc (.cells #[.int .u8 97, .int .u8 98, .int .u8 99] 5)) = .ok (.slice (some ⟨w.heap.size, 0, none⟩) 3 3) (w.alloc (.cells #[.int .u8 97, .int .u8 98, .int .u8 99] 5 (3, 4))) := Go.Joins.run_convert_bytes_const_at w _ _ _ 3 3 _ rfl Tryd.underlying22 Tryd.underlying5
  go_enter Tryd.func15, Tryd.ntmps15
  go_wp2_with fail
  refine (sum256_ _ 3 3 [97, 98, 99] _ q1.out (by decide) HL1.out.s HL1.out.s.size).mono ?_
  rintro e w1 ⟨A1, c1, rfl, h1, hb1⟩
  obtain ⟨g1, rfl, hg1, hc1, k0, k1⟩ := own_two h1 (by decide) abc32
  have q2 : Hid (Rd (w1.alloc (.cells #[.int .u8 97, .int .u8 98, .int .u8 99] 5 (3, 4))) (w1.alloc (.cells #[.int .u8 97, .int .u8 98, .int .u8 99] 5 (3, 4))).heap.size 1 (some ⟨w1.heap.size, 0, none⟩) 3 (([97, 98, 99] : List UInt8).map B8)) := rd_lit w1 [97, 98, 99] 5 (3, 4) 3 rfl
  have b1 : Below w1.heap.size w1 (w1.alloc (.cells #[.int .u8 97, .int .u8 98, .int .u8 99] 5 (3, 4))) := (Below.refl _ _).alloc (Nat.le_refl _) _
  have HL2 := Lib.hid ((HL1.out.go hb1).go b1)
  have hv2 : (convert 22 22 (.slice (some ⟨w1.heap.size, 0, none⟩) 3 3)).run Tryd.prog (w1.alloc (.cells #[.int .u8 97, .int .u8 98, .int .u8 99] 5)) = .ok (.slice (some ⟨w1.heap.size, 0, none⟩) 3 3) (w1.alloc (.cells #[.int .u8 97, .int .u8 98, .int .u8 99] 5 (3, 4))) := Go.Joins.run_convert_bytes_const_at w1 _ _ _ 3 3 _ rfl Tryd.underlying22 Tryd.underlying5
  clear h1
  go_wp2_with fail
  refine (sum512_ _ 3 3 [97, 98, 99] _ q2.out (by decide) HL2.out.g HL2.out.s.size).mono ?_
  rintro e w2 ⟨A2, c2, rfl, h2, hb2⟩
  obtain ⟨g2, rfl, hg2, hc2, k2, k3⟩ := own_two h2 (by decide) abc64
  have hb12 := b1.trans (hb2.mono b1.size)
  have m0 : w2.cell? ⟨g1, 0, none⟩ = some (.int .u8 186) := (World.cell?_of_block (a := ⟨g1, 0, none⟩) (hb12.block g1 hg1)).trans k0
  have m1 : w2.cell? ⟨g1, 1, none⟩ = some (.int .u8 120) := (World.cell?_of_block (a := ⟨g1, 1, none⟩) (hb12.block g1 hg1)).trans k1
  have m2 : w2.cell? ⟨g2, 0, none⟩ = some (.int .u8 221) := k2
  have m3 : w2.cell? ⟨g2, 1, none⟩ = some (.int .u8 175) := k3
  clear h2 k0 k1 k2 k3
  go_wp2_with fail
  go_ret
  exact ⟨rfl, b0.trans ((hb1.trans (hb12.mono hb1.size)).mono b0.size)⟩
/-! ### What is laid -/
theorem gSmall : Tryd.prog.globalNamed "sealwax/sha.small" = some 1 := by kernel_rfl
theorem gGreat : Tryd.prog.globalNamed "sealwax/sha.great" = some 0 := by kernel_rfl
theorem gK256 : Tryd.prog.globalNamed "sealwax/sha.k256" = some 3 := by kernel_rfl
theorem gK512 : Tryd.prog.globalNamed "sealwax/sha.k512" = some 2 := by kernel_rfl
theorem tySmall : (Tryd.prog.globals[1]?).map (·.type) = some 58 := by kernel_rfl
theorem tyGreat : (Tryd.prog.globals[0]?).map (·.type) = some 58 := by kernel_rfl
theorem tyK256 : (Tryd.prog.globals[3]?).map (·.type) = some 79 := by kernel_rfl
theorem tyK512 : (Tryd.prog.globals[2]?).map (·.type) = some 76 := by kernel_rfl
section
variable {H : Type} {enc : TypeId × Value → H} {W : World} {base : Nat} {sp : Nat → Bool} {held : Bool} {fuel : Nat}
theorem int_of {z : Int} {v : Value} {x : DataW H × List MemPlace} (h : DataW.trod enc Tryd.prog W base sp held fuel 3 [v] = some x) (hx : x.1 = .lit (.int .i64 z)) : v = .int .i64 z := by
  obtain ⟨k, e1, e2, _⟩ := DataW.trod_int Tryd.underlying3 h
  rw [e2] at hx
  simp at hx e1
  rw [e1, hx]
theorem arr_of {a b c : Int} {u v x : Value} {y : DataW H × List MemPlace} (h : DataW.trod enc Tryd.prog W base sp held fuel 47 [u, v, x] = some y) (hy : y.1 = .agg [.lit (.int .i64 a), .lit (.int .i64 b), .lit (.int .i64 c)]) : u = .int .i64 a ∧ v = .int .i64 b ∧ x = .int .i64 c := by
  obtain ⟨y1, y2⟩ := y
  subst hy
  have := Lib.cells_of_tab (k := .i64) (zs := [a, b, c]) (p := y2) Tryd.underlying47 Tryd.underlying3 (by kernel_rfl) (by kernel_rfl) h
  simpa using this
theorem kind_cells {cs : List Value} {p : List MemPlace} {b r u1 u2 u3 d1 d2 d3 e1 e2 e3 l1 l2 l3 : Int}
    (h : DataW.trod enc Tryd.prog W base sp held fuel 58 cs = some (.agg [.lit (.int .i64 b), .lit (.int .i64 r), .agg [.lit (.int .i64 u1), .lit (.int .i64 u2), .lit (.int .i64 u3)], .agg [.lit (.int .i64 d1), .lit (.int .i64 d2), .lit (.int .i64 d3)], .agg [.lit (.int .i64 e1), .lit (.int .i64 e2), .lit (.int .i64 e3)], .agg [.lit (.int .i64 l1), .lit (.int .i64 l2), .lit (.int .i64 l3)]], p)) :
    cs = [.int .i64 b, .int .i64 r, .int .i64 u1, .int .i64 u2, .int .i64 u3, .int .i64 d1, .int .i64 d2, .int .i64 d3, .int .i64 e1, .int .i64 e2, .int .i64 e3, .int .i64 l1, .int .i64 l2, .int .i64 l3] := by
  obtain ⟨xs, n, _, hx, hl, hlen, hf⟩ := DataW.trod_struct Tryd.underlying58 h
  have c58 : Tryd.prog.cellsOf 58 = 14 := by kernel_rfl
  have c3 : Tryd.prog.cellsOf 3 = 1 := by kernel_rfl
  have c47 : Tryd.prog.cellsOf 47 = 3 := by kernel_rfl
  rw [c58] at hl
  match cs, hl with
  | [v0, v1, v2, v3, v4, v5, v6, v7, v8, v9, v10, v11, v12, v13], _ =>
    match xs, hlen with
    | [x0, x1, x2, x3, x4, x5], _ =>
      simp only [Prod.mk.injEq, DataW.agg.injEq, List.map_cons, List.map_nil, List.cons.injEq, and_true] at hx
      obtain ⟨⟨h0, h1, h2, h3, h4, h5⟩, _⟩ := hx
      have f0 := hf 0 _ rfl
      have f1 := hf 1 _ rfl
      have f2 := hf 2 _ rfl
      have f3 := hf 3 _ rfl
      have f4 := hf 4 _ rfl
      have f5 := hf 5 _ rfl
      simp only [c3, c47, List.drop_succ_cons, List.drop_zero, List.take_succ_cons, List.take_zero, List.getElem?_cons_zero, List.getElem?_cons_succ] at f0 f1 f2 f3 f4 f5
      obtain rfl := int_of f0 h0.symm
      obtain rfl := int_of f1 h1.symm
      obtain ⟨rfl, rfl, rfl⟩ := arr_of f2 h2.symm
      obtain ⟨rfl, rfl, rfl⟩ := arr_of f3 h3.symm
      obtain ⟨rfl, rfl, rfl⟩ := arr_of f4 h4.symm
      obtain ⟨rfl, rfl, rfl⟩ := arr_of f5 h5.symm
      rfl
end
theorem laidS {g0 g3 : Nat} {t0 t3 : TypeId} {cs0 cs3 : Array Value} {fu0 fu3 : Nat} {q0 q3 : List MemPlace} {W : World} {e0 e3 : TypeId × Value → Unit} {b0 b3 : Nat} {s0 s3 : Nat → Bool} {k0 k3 : Bool}
    (hg0 : Tryd.prog.globalNamed "sealwax/sha.small" = some g0) (ht0 : (Tryd.prog.globals[g0]?).map (·.type) = some t0) (hv0 : W.var? Tryd.prog "sealwax/sha.small" = some cs0) (hd0 : DataW.trod e0 Tryd.prog W b0 s0 k0 fu0 t0 cs0.toList = some (Rows.laid_sealwax_sha_small, q0))
    (hg3 : Tryd.prog.globalNamed "sealwax/sha.k256" = some g3) (ht3 : (Tryd.prog.globals[g3]?).map (·.type) = some t3) (hv3 : W.var? Tryd.prog "sealwax/sha.k256" = some cs3) (hd3 : DataW.trod e3 Tryd.prog W b3 s3 k3 fu3 t3 cs3.toList = some (Rows.laid_sealwax_sha_k256, q3)) : LayS W := by
  obtain rfl := Option.some.inj (gSmall.symm.trans hg0)
  obtain rfl := Option.some.inj (gK256.symm.trans hg3)
  obtain rfl := Option.some.inj (tySmall.symm.trans ht0)
  obtain rfl := Option.some.inj (tyK256.symm.trans ht3)
  have e1 := kind_cells hd0
  have e2 := Lib.cells_of_tab (k := .u32) (zs := K32.key.map Int.ofNat) (p := q3) Tryd.underlying79 Tryd.underlying61 (by kernel_rfl) (by kernel_rfl) hd3
  refine ⟨fun t k hk => ?_, fun j v hj => ?_⟩
  · rw [World.var?_cell gK256 hv3 t, ← Array.getElem?_toList, e2, List.map_map, List.getElem?_map, hk]
    rfl
  · rw [Nat.zero_add, World.var?_cell gSmall hv0 j, ← Array.getElem?_toList, e1]
    exact hj
theorem laidG {g0 g3 : Nat} {t0 t3 : TypeId} {cs0 cs3 : Array Value} {fu0 fu3 : Nat} {q0 q3 : List MemPlace} {W : World} {e0 e3 : TypeId × Value → Unit} {b0 b3 : Nat} {s0 s3 : Nat → Bool} {k0 k3 : Bool}
    (hg0 : Tryd.prog.globalNamed "sealwax/sha.great" = some g0) (ht0 : (Tryd.prog.globals[g0]?).map (·.type) = some t0) (hv0 : W.var? Tryd.prog "sealwax/sha.great" = some cs0) (hd0 : DataW.trod e0 Tryd.prog W b0 s0 k0 fu0 t0 cs0.toList = some (Rows.laid_sealwax_sha_great, q0))
    (hg3 : Tryd.prog.globalNamed "sealwax/sha.k512" = some g3) (ht3 : (Tryd.prog.globals[g3]?).map (·.type) = some t3) (hv3 : W.var? Tryd.prog "sealwax/sha.k512" = some cs3) (hd3 : DataW.trod e3 Tryd.prog W b3 s3 k3 fu3 t3 cs3.toList = some (Rows.laid_sealwax_sha_k512, q3)) : LayG W := by
  obtain rfl := Option.some.inj (gGreat.symm.trans hg0)
  obtain rfl := Option.some.inj (gK512.symm.trans hg3)
  obtain rfl := Option.some.inj (tyGreat.symm.trans ht0)
  obtain rfl := Option.some.inj (tyK512.symm.trans ht3)
  have e1 := kind_cells hd0
  have e2 := Lib.cells_of_tab (k := .u64) (zs := K64.key.map Int.ofNat) (p := q3) Tryd.underlying76 Tryd.underlying52 (by kernel_rfl) (by kernel_rfl) hd3
  refine ⟨fun t k hk => ?_, fun j v hj => ?_⟩
  · rw [World.var?_cell gK512 hv3 t, ← Array.getElem?_toList, e2, List.map_map, List.getElem?_map, hk]
    rfl
  · rw [Nat.zero_add, World.var?_cell gGreat hv0 j, ← Array.getElem?_toList, e1]
    exact hj
def laid4 : List (String × DataW Unit) := [("sealwax/sha.small", Rows.laid_sealwax_sha_small), ("sealwax/sha.great", Rows.laid_sealwax_sha_great), ("sealwax/sha.k256", Rows.laid_sealwax_sha_k256), ("sealwax/sha.k512", Rows.laid_sealwax_sha_k512)]
def laid2 : List (String × DataW Unit) := [("sealwax/sha.small", Rows.laid_sealwax_sha_small), ("sealwax/sha.k256", Rows.laid_sealwax_sha_k256)]
theorem of_laid4 {W : World} (h : laidMetH Tryd.prog laid4 W) : Lay W := by
  rw [MakeChecks.laidMetH_plain _ _ _ (by kernel_rfl)] at h
  obtain ⟨ps, ⟨g0, t0, cs0, f0, p0, q0, hg0, ht0, hv0, hd0, ⟨g1, t1, cs1, f1, p1, q1, hg1, ht1, hv1, hd1, ⟨g2, t2, cs2, f2, p2, q2, hg2, ht2, hv2, hd2, ⟨g3, t3, cs3, f3, p3, q3, hg3, ht3, hv3, hd3, _, _⟩, _⟩, _⟩, _⟩, _, _⟩ := h
  exact ⟨laidS hg0 ht0 hv0 hd0 hg2 ht2 hv2 hd2, laidG hg1 ht1 hv1 hd1 hg3 ht3 hv3 hd3⟩
theorem of_laid2 {W : World} (h : laidMetH Tryd.prog laid2 W) : LayS W := by
  rw [MakeChecks.laidMetH_plain _ _ _ (by kernel_rfl)] at h
  obtain ⟨ps, ⟨g0, t0, cs0, f0, p0, q0, hg0, ht0, hv0, hd0, ⟨g1, t1, cs1, f1, p1, q1, hg1, ht1, hv1, hd1, _, _⟩, _⟩, _, _⟩ := h
  exact laidS hg0 ht0 hv0 hd0 hg1 ht1 hv1 hd1
theorem door4 (os : Os) (args : Array Value) : laidMetH Tryd.prog laid4 ((World.doorLaid Tryd.prog 37 os).forCall (fun _ _ => 0) ⟨#[], args, []⟩).memory :=
  laidMetH_of_parts3 (fuel := 8) (laidMet_of_run' 8 (by kernel_rfl) (by kernel_rfl)) (by kernel_rfl) (by kernel_rfl)
theorem door2 (os : Os) (args : Array Value) : laidMetH Tryd.prog laid2 ((World.doorLaid Tryd.prog 37 os).forCall (fun _ _ => 0) ⟨#[], args, []⟩).memory :=
  laidMetH_of_parts3 (fuel := 8) (laidMet_of_run' 8 (by kernel_rfl) (by kernel_rfl)) (by kernel_rfl) (by kernel_rfl)
end Go.Proofs.YtclecmpmohoamaaDoor
