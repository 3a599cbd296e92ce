/- The program's turns. (Printed by gen_shah.py.) -/
import Derived.Test.YtclecmpmohoamaaDoorShaC
import Derived.Laws.Shifts
namespace Go.Proofs.YtclecmpmohoamaaDoor
open Go.RowKit
set_option linter.unusedSimpArgs false
set_option linter.unusedVariables false

theorem turn_val_32 (x n : Nat) (hx : x < 2 ^ 32) (hn : n ≤ 32) : bits .or .u32 ((x : Int) / 2 ^ n) ((x : Int) * 2 ^ (32 - n) % 4294967296) = ((tr 32 x n : Nat) : Int) := by
  have h1 : (x : Int) / 2 ^ n = ((x / 2 ^ n : Nat) : Int) := by rw [Int.natCast_ediv, Int.natCast_pow]; rfl
  have h2 : (((x : Int) * 2 ^ (32 - n) % 4294967296) : Int) = ((x * 2 ^ (32 - n) % 4294967296 : Nat) : Int) := by
    rw [Int.natCast_emod, Int.natCast_mul, Int.natCast_pow]; rfl
  rw [h1, h2, u32_or_nat _ _ (Nat.lt_of_le_of_lt (Nat.div_le_self _ _) hx) (Nat.mod_lt _ (by decide))]
  exact congrArg Int.ofNat (tr_or 32 x n hx hn)
theorem pturn_32 (x n : Nat) (w : World) (hx : x < 2 ^ 32) (hn : n ≤ 32) :
    Calls Tryd.prog 64 #[.int .u32 x, .int .i64 n, .int .i64 32] w fun e w' => e = .returned (.int .u32 (tr 32 x n : Nat)) ∧ Below w.heap.size w w' := by
  have Hv := Lib.hid (turn_val_32 x n hx hn)
  have h0 : (0 : Int) ≤ n := by omega
  have h1 : (n : Int) ≤ 32 := by omega
  have h2 : IntKind.i64.wrap ((32 : Int) - n) = ((32 - n : Nat) : Int) := by rw [IntWalk.i64_in _ (by omega)]; omega
  go_enter Tryd.func64, Tryd.ntmps64
  go_wp2_with fail
  go_quiet (fail)
  go_wp2_with fail
  go_returns
  refine ⟨?_, below_drewN (Below.refl _ _) _⟩
  show Ending.returned (Value.int .u32 _) = _
  rw [Hv.out]

theorem pturn'_32 (x n y : Nat) (w : World) (hx : x < 2 ^ 32) (hn : n ≤ 32) (hy : tr 32 x n = y) :
    Calls Tryd.prog 64 #[.int .u32 x, .int .i64 n, .int .i64 32] w fun e w' => e = .returned (.int .u32 y) ∧ Below w.heap.size w w' := by
  subst hy; exact pturn_32 x n w hx hn
theorem pturned_32 (x p1 p2 p3 y : Nat) (w : World) (hx : x < 2 ^ 32) (h1 : p1 ≤ 32) (h2 : p2 ≤ 32) (h3 : p3 ≤ 32) (hy : tur 32 x (p1, p2, p3) = y) :
    Calls Tryd.prog 56 #[.int .u32 x, .agg #[.int .i64 p1, .int .i64 p2, .int .i64 p3], .int .i64 32] w fun e w' => e = .returned (.int .u32 y) ∧ Below w.heap.size w w' := by
  obtain ⟨y1, hy1⟩ : ∃ n, Hid (tr 32 x p1 = n) := ⟨_, Lib.hid rfl⟩
  obtain ⟨y2, hy2⟩ : ∃ n, Hid (tr 32 x p2 = n) := ⟨_, Lib.hid rfl⟩
  obtain ⟨y3, hy3⟩ : ∃ n, Hid (tr 32 x p3 = n) := ⟨_, Lib.hid rfl⟩
  obtain ⟨z1, hz1⟩ : ∃ n, Hid (y1 ^^^ y2 = n) := ⟨_, Lib.hid rfl⟩
  have b1 : y1 < 2 ^ 32 := by rw [← hy1.out]; exact tr_lt _ _ _ hx h1
  have b2 : y2 < 2 ^ 32 := by rw [← hy2.out]; exact tr_lt _ _ _ hx h2
  have b3 : y3 < 2 ^ 32 := by rw [← hy3.out]; exact tr_lt _ _ _ hx h3
  have bz : z1 < 2 ^ 32 := by rw [← hz1.out]; exact Nat.xor_lt_two_pow b1 b2
  have f1 : bits .xor .u32 (y1 : Int) (y2 : Int) = (z1 : Int) := by rw [u32_xor_nat _ _ b1 b2, hz1.out]
  have f2 : bits .xor .u32 (z1 : Int) (y3 : Int) = (y : Int) := by rw [u32_xor_nat _ _ bz b3, ← hz1.out, ← hy1.out, ← hy2.out, ← hy3.out, ← hy]; rfl
  have Hy := Lib.hid hy
  clear hy
  go_enter Tryd.func56, Tryd.ntmps56
  go_wp2_with fail
  obtain ⟨W, hW⟩ : ∃ W, W = w.alloc (.cells #[.int .i64 p1, .int .i64 p2, .int .i64 p3] 47) := ⟨_, rfl⟩
  have hb0 : Below w.heap.size w W := by rw [hW]; exact (Below.refl _ _).alloc (Nat.le_refl _) _
  have hP : W.heap[w.heap.size]? = some (.cells #[.int .i64 p1, .int .i64 p2, .int .i64 p3] 47 (0, 0)) := by rw [hW]; exact heap_alloc_new w _
  have hsz : w.heap.size < W.heap.size := by rw [hW]; simp
  rw [← hW]
  have hWh := Lib.hid hW
  clear hW
  have fP := fun y : Bw W => (y.h.block w.heap.size hsz).trans hP
  have q0 : ∀ y : Bw W, y.w.cell? ⟨w.heap.size, 0, none⟩ = some (.int .i64 p1) := fun y => cell_blk (fP y) 0 rfl
  have q1 : ∀ y : Bw W, y.w.cell? ⟨w.heap.size, 1, none⟩ = some (.int .i64 p2) := fun y => cell_blk (fP y) 1 rfl
  have q2 : ∀ y : Bw W, y.w.cell? ⟨w.heap.size, 2, none⟩ = some (.int .i64 p3) := fun y => cell_blk (fP y) 2 rfl
  haveI : Nonempty (Bw W) := ⟨⟨W, Below.refl _ _⟩⟩
  clear fP hP
  refine wp_region_bw (by kernel_rfl) (by kernel_rfl) ?_
  repeat (go_big_quiet_step (first
    | (go_at_call_of 64 p1
       rename_i y
       refine (pturn'_32 x p1 y1 _ hx h1 hy1.out).mono ?_
       rintro e w2 ⟨rfl, hb2⟩
       exact ⟨rfl, ⟨w2, y.h.trans (hb2.mono y.h.size)⟩, rfl⟩)
    | (go_at_call_of 64 p2
       rename_i y
       refine (pturn'_32 x p2 y2 _ hx h2 hy2.out).mono ?_
       rintro e w2 ⟨rfl, hb2⟩
       exact ⟨rfl, ⟨w2, y.h.trans (hb2.mono y.h.size)⟩, rfl⟩)
    | (go_at_call_of 64 p3
       rename_i y
       refine (pturn'_32 x p3 y3 _ hx h3 hy3.out).mono ?_
       rintro e w2 ⟨rfl, hb2⟩
       exact ⟨rfl, ⟨w2, y.h.trans (hb2.mono y.h.size)⟩, rfl⟩)))
  refine wpQuiet_nil ?_
  rintro _ ⟨y, rfl⟩
  go_wp2_with fail
  go_returns
  exact ⟨rfl, hb0.trans (y.h.mono hb0.size)⟩
theorem pshifted_32 (x p1 p2 p3 y : Nat) (w : World) (hx : x < 2 ^ 32) (h1 : p1 ≤ 32) (h2 : p2 ≤ 32) (h3 : p3 ≤ 32) (hy : shi 32 x (p1, p2, p3) = y) :
    Calls Tryd.prog 55 #[.int .u32 x, .agg #[.int .i64 p1, .int .i64 p2, .int .i64 p3], .int .i64 32] w fun e w' => e = .returned (.int .u32 y) ∧ Below w.heap.size w w' := by
  obtain ⟨y1, hy1⟩ : ∃ n, Hid (tr 32 x p1 = n) := ⟨_, Lib.hid rfl⟩
  obtain ⟨y2, hy2⟩ : ∃ n, Hid (tr 32 x p2 = n) := ⟨_, Lib.hid rfl⟩
  obtain ⟨y3, hy3⟩ : ∃ n, Hid (x / 2 ^ p3 = n) := ⟨_, Lib.hid rfl⟩
  obtain ⟨z1, hz1⟩ : ∃ n, Hid (y1 ^^^ y2 = n) := ⟨_, Lib.hid rfl⟩
  have b1 : y1 < 2 ^ 32 := by rw [← hy1.out]; exact tr_lt _ _ _ hx h1
  have b2 : y2 < 2 ^ 32 := by rw [← hy2.out]; exact tr_lt _ _ _ hx h2
  have b3 : y3 < 2 ^ 32 := by rw [← hy3.out]; exact Nat.lt_of_le_of_lt (Nat.div_le_self _ _) hx
  have bz : z1 < 2 ^ 32 := by rw [← hz1.out]; exact Nat.xor_lt_two_pow b1 b2
  have f0 : (x : Int) / 2 ^ p3 = (y3 : Int) := by rw [← hy3.out, Int.natCast_ediv, Int.natCast_pow]; rfl
  have f1 : bits .xor .u32 (y1 : Int) (y2 : Int) = (z1 : Int) := by rw [u32_xor_nat _ _ b1 b2, hz1.out]
  have f2 : bits .xor .u32 (z1 : Int) (y3 : Int) = (y : Int) := by rw [u32_xor_nat _ _ bz b3, ← hz1.out, ← hy1.out, ← hy2.out, ← hy3.out, ← hy]; rfl
  have h30 : (0 : Int) ≤ p3 := by omega
  have h31 : (p3 : Int) ≤ 32 := by omega
  have Hy := Lib.hid hy
  clear hy
  go_enter Tryd.func55, Tryd.ntmps55
  go_wp2_with fail
  obtain ⟨W, hW⟩ : ∃ W, W = w.alloc (.cells #[.int .i64 p1, .int .i64 p2, .int .i64 p3] 47) := ⟨_, rfl⟩
  have hb0 : Below w.heap.size w W := by rw [hW]; exact (Below.refl _ _).alloc (Nat.le_refl _) _
  have hP : W.heap[w.heap.size]? = some (.cells #[.int .i64 p1, .int .i64 p2, .int .i64 p3] 47 (0, 0)) := by rw [hW]; exact heap_alloc_new w _
  have hsz : w.heap.size < W.heap.size := by rw [hW]; simp
  rw [← hW]
  have hWh := Lib.hid hW
  clear hW
  have fP := fun y : Bw W => (y.h.block w.heap.size hsz).trans hP
  have q0 : ∀ y : Bw W, y.w.cell? ⟨w.heap.size, 0, none⟩ = some (.int .i64 p1) := fun y => cell_blk (fP y) 0 rfl
  have q1 : ∀ y : Bw W, y.w.cell? ⟨w.heap.size, 1, none⟩ = some (.int .i64 p2) := fun y => cell_blk (fP y) 1 rfl
  have q2 : ∀ y : Bw W, y.w.cell? ⟨w.heap.size, 2, none⟩ = some (.int .i64 p3) := fun y => cell_blk (fP y) 2 rfl
  haveI : Nonempty (Bw W) := ⟨⟨W, Below.refl _ _⟩⟩
  clear fP hP
  refine wp_region_bw (by kernel_rfl) (by kernel_rfl) ?_
  repeat (go_big_quiet_step (first
    | (go_at_call_of 64 p1
       rename_i y
       refine (pturn'_32 x p1 y1 _ hx h1 hy1.out).mono ?_
       rintro e w2 ⟨rfl, hb2⟩
       exact ⟨rfl, ⟨w2, y.h.trans (hb2.mono y.h.size)⟩, rfl⟩)
    | (go_at_call_of 64 p2
       rename_i y
       refine (pturn'_32 x p2 y2 _ hx h2 hy2.out).mono ?_
       rintro e w2 ⟨rfl, hb2⟩
       exact ⟨rfl, ⟨w2, y.h.trans (hb2.mono y.h.size)⟩, rfl⟩)))
  refine wpQuiet_nil ?_
  rintro _ ⟨y, rfl⟩
  go_wp2_with fail
  go_returns
  exact ⟨rfl, hb0.trans (y.h.mono hb0.size)⟩

theorem turn_val_64 (x n : Nat) (hx : x < 2 ^ 64) (hn : n ≤ 64) : bits .or .u64 ((x : Int) / 2 ^ n) (IntKind.u64.wrap ((x : Int) * 2 ^ (64 - n))) = ((tr 64 x n : Nat) : Int) := by
  have h1 : (x : Int) / 2 ^ n = ((x / 2 ^ n : Nat) : Int) := by rw [Int.natCast_ediv, Int.natCast_pow]; rfl
  have h2 : ((IntKind.u64.wrap ((x : Int) * 2 ^ (64 - n))) : Int) = ((x * 2 ^ (64 - n) % 18446744073709551616 : Nat) : Int) := by
    rw [IntKind.wrap_u64]; rw [Int.natCast_emod, Int.natCast_mul, Int.natCast_pow]; rfl
  rw [h1, h2, u64_or_nat _ _ (Nat.lt_of_le_of_lt (Nat.div_le_self _ _) hx) (Nat.mod_lt _ (by decide))]
  exact congrArg Int.ofNat (tr_or 64 x n hx hn)
theorem pturn_64 (x n : Nat) (w : World) (hx : x < 2 ^ 64) (hn : n ≤ 64) :
    Calls Tryd.prog 63 #[.int .u64 x, .int .i64 n, .int .i64 64] w fun e w' => e = .returned (.int .u64 (tr 64 x n : Nat)) ∧ Below w.heap.size w w' := by
  have Hv := Lib.hid (turn_val_64 x n hx hn)
  have h0 : (0 : Int) ≤ n := by omega
  have h1 : (n : Int) ≤ 64 := by omega
  have h2 : IntKind.i64.wrap ((64 : Int) - n) = ((64 - n : Nat) : Int) := by rw [IntWalk.i64_in _ (by omega)]; omega
  go_enter Tryd.func63, Tryd.ntmps63
  go_wp2_with fail
  go_quiet (fail)
  go_wp2_with fail
  go_returns
  refine ⟨?_, below_drewN (Below.refl _ _) _⟩
  show Ending.returned (Value.int .u64 _) = _
  rw [Hv.out]

theorem pturn'_64 (x n y : Nat) (w : World) (hx : x < 2 ^ 64) (hn : n ≤ 64) (hy : tr 64 x n = y) :
    Calls Tryd.prog 63 #[.int .u64 x, .int .i64 n, .int .i64 64] w fun e w' => e = .returned (.int .u64 y) ∧ Below w.heap.size w w' := by
  subst hy; exact pturn_64 x n w hx hn
theorem pturned_64 (x p1 p2 p3 y : Nat) (w : World) (hx : x < 2 ^ 64) (h1 : p1 ≤ 64) (h2 : p2 ≤ 64) (h3 : p3 ≤ 64) (hy : tur 64 x (p1, p2, p3) = y) :
    Calls Tryd.prog 54 #[.int .u64 x, .agg #[.int .i64 p1, .int .i64 p2, .int .i64 p3], .int .i64 64] w fun e w' => e = .returned (.int .u64 y) ∧ Below w.heap.size w w' := by
  obtain ⟨y1, hy1⟩ : ∃ n, Hid (tr 64 x p1 = n) := ⟨_, Lib.hid rfl⟩
  obtain ⟨y2, hy2⟩ : ∃ n, Hid (tr 64 x p2 = n) := ⟨_, Lib.hid rfl⟩
  obtain ⟨y3, hy3⟩ : ∃ n, Hid (tr 64 x p3 = n) := ⟨_, Lib.hid rfl⟩
  obtain ⟨z1, hz1⟩ : ∃ n, Hid (y1 ^^^ y2 = n) := ⟨_, Lib.hid rfl⟩
  have b1 : y1 < 2 ^ 64 := by rw [← hy1.out]; exact tr_lt _ _ _ hx h1
  have b2 : y2 < 2 ^ 64 := by rw [← hy2.out]; exact tr_lt _ _ _ hx h2
  have b3 : y3 < 2 ^ 64 := by rw [← hy3.out]; exact tr_lt _ _ _ hx h3
  have bz : z1 < 2 ^ 64 := by rw [← hz1.out]; exact Nat.xor_lt_two_pow b1 b2
  have f1 : bits .xor .u64 (y1 : Int) (y2 : Int) = (z1 : Int) := by rw [u64_xor_nat _ _ b1 b2, hz1.out]
  have f2 : bits .xor .u64 (z1 : Int) (y3 : Int) = (y : Int) := by rw [u64_xor_nat _ _ bz b3, ← hz1.out, ← hy1.out, ← hy2.out, ← hy3.out, ← hy]; rfl
  have Hy := Lib.hid hy
  clear hy
  go_enter Tryd.func54, Tryd.ntmps54
  go_wp2_with fail
  obtain ⟨W, hW⟩ : ∃ W, W = w.alloc (.cells #[.int .i64 p1, .int .i64 p2, .int .i64 p3] 47) := ⟨_, rfl⟩
  have hb0 : Below w.heap.size w W := by rw [hW]; exact (Below.refl _ _).alloc (Nat.le_refl _) _
  have hP : W.heap[w.heap.size]? = some (.cells #[.int .i64 p1, .int .i64 p2, .int .i64 p3] 47 (0, 0)) := by rw [hW]; exact heap_alloc_new w _
  have hsz : w.heap.size < W.heap.size := by rw [hW]; simp
  rw [← hW]
  have hWh := Lib.hid hW
  clear hW
  have fP := fun y : Bw W => (y.h.block w.heap.size hsz).trans hP
  have q0 : ∀ y : Bw W, y.w.cell? ⟨w.heap.size, 0, none⟩ = some (.int .i64 p1) := fun y => cell_blk (fP y) 0 rfl
  have q1 : ∀ y : Bw W, y.w.cell? ⟨w.heap.size, 1, none⟩ = some (.int .i64 p2) := fun y => cell_blk (fP y) 1 rfl
  have q2 : ∀ y : Bw W, y.w.cell? ⟨w.heap.size, 2, none⟩ = some (.int .i64 p3) := fun y => cell_blk (fP y) 2 rfl
  haveI : Nonempty (Bw W) := ⟨⟨W, Below.refl _ _⟩⟩
  clear fP hP
  refine wp_region_bw (by kernel_rfl) (by kernel_rfl) ?_
  repeat (go_big_quiet_step (first
    | (go_at_call_of 63 p1
       rename_i y
       refine (pturn'_64 x p1 y1 _ hx h1 hy1.out).mono ?_
       rintro e w2 ⟨rfl, hb2⟩
       exact ⟨rfl, ⟨w2, y.h.trans (hb2.mono y.h.size)⟩, rfl⟩)
    | (go_at_call_of 63 p2
       rename_i y
       refine (pturn'_64 x p2 y2 _ hx h2 hy2.out).mono ?_
       rintro e w2 ⟨rfl, hb2⟩
       exact ⟨rfl, ⟨w2, y.h.trans (hb2.mono y.h.size)⟩, rfl⟩)
    | (go_at_call_of 63 p3
       rename_i y
       refine (pturn'_64 x p3 y3 _ hx h3 hy3.out).mono ?_
       rintro e w2 ⟨rfl, hb2⟩
       exact ⟨rfl, ⟨w2, y.h.trans (hb2.mono y.h.size)⟩, rfl⟩)))
  refine wpQuiet_nil ?_
  rintro _ ⟨y, rfl⟩
  go_wp2_with fail
  go_returns
  exact ⟨rfl, hb0.trans (y.h.mono hb0.size)⟩
theorem pshifted_64 (x p1 p2 p3 y : Nat) (w : World) (hx : x < 2 ^ 64) (h1 : p1 ≤ 64) (h2 : p2 ≤ 64) (h3 : p3 ≤ 64) (hy : shi 64 x (p1, p2, p3) = y) :
    Calls Tryd.prog 53 #[.int .u64 x, .agg #[.int .i64 p1, .int .i64 p2, .int .i64 p3], .int .i64 64] w fun e w' => e = .returned (.int .u64 y) ∧ Below w.heap.size w w' := by
  obtain ⟨y1, hy1⟩ : ∃ n, Hid (tr 64 x p1 = n) := ⟨_, Lib.hid rfl⟩
  obtain ⟨y2, hy2⟩ : ∃ n, Hid (tr 64 x p2 = n) := ⟨_, Lib.hid rfl⟩
  obtain ⟨y3, hy3⟩ : ∃ n, Hid (x / 2 ^ p3 = n) := ⟨_, Lib.hid rfl⟩
  obtain ⟨z1, hz1⟩ : ∃ n, Hid (y1 ^^^ y2 = n) := ⟨_, Lib.hid rfl⟩
  have b1 : y1 < 2 ^ 64 := by rw [← hy1.out]; exact tr_lt _ _ _ hx h1
  have b2 : y2 < 2 ^ 64 := by rw [← hy2.out]; exact tr_lt _ _ _ hx h2
  have b3 : y3 < 2 ^ 64 := by rw [← hy3.out]; exact Nat.lt_of_le_of_lt (Nat.div_le_self _ _) hx
  have bz : z1 < 2 ^ 64 := by rw [← hz1.out]; exact Nat.xor_lt_two_pow b1 b2
  have f0 : (x : Int) / 2 ^ p3 = (y3 : Int) := by rw [← hy3.out, Int.natCast_ediv, Int.natCast_pow]; rfl
  have f1 : bits .xor .u64 (y1 : Int) (y2 : Int) = (z1 : Int) := by rw [u64_xor_nat _ _ b1 b2, hz1.out]
  have f2 : bits .xor .u64 (z1 : Int) (y3 : Int) = (y : Int) := by rw [u64_xor_nat _ _ bz b3, ← hz1.out, ← hy1.out, ← hy2.out, ← hy3.out, ← hy]; rfl
  have h30 : (0 : Int) ≤ p3 := by omega
  have h31 : (p3 : Int) ≤ 64 := by omega
  have Hy := Lib.hid hy
  clear hy
  go_enter Tryd.func53, Tryd.ntmps53
  go_wp2_with fail
  obtain ⟨W, hW⟩ : ∃ W, W = w.alloc (.cells #[.int .i64 p1, .int .i64 p2, .int .i64 p3] 47) := ⟨_, rfl⟩
  have hb0 : Below w.heap.size w W := by rw [hW]; exact (Below.refl _ _).alloc (Nat.le_refl _) _
  have hP : W.heap[w.heap.size]? = some (.cells #[.int .i64 p1, .int .i64 p2, .int .i64 p3] 47 (0, 0)) := by rw [hW]; exact heap_alloc_new w _
  have hsz : w.heap.size < W.heap.size := by rw [hW]; simp
  rw [← hW]
  have hWh := Lib.hid hW
  clear hW
  have fP := fun y : Bw W => (y.h.block w.heap.size hsz).trans hP
  have q0 : ∀ y : Bw W, y.w.cell? ⟨w.heap.size, 0, none⟩ = some (.int .i64 p1) := fun y => cell_blk (fP y) 0 rfl
  have q1 : ∀ y : Bw W, y.w.cell? ⟨w.heap.size, 1, none⟩ = some (.int .i64 p2) := fun y => cell_blk (fP y) 1 rfl
  have q2 : ∀ y : Bw W, y.w.cell? ⟨w.heap.size, 2, none⟩ = some (.int .i64 p3) := fun y => cell_blk (fP y) 2 rfl
  haveI : Nonempty (Bw W) := ⟨⟨W, Below.refl _ _⟩⟩
  clear fP hP
  refine wp_region_bw (by kernel_rfl) (by kernel_rfl) ?_
  repeat (go_big_quiet_step (first
    | (go_at_call_of 63 p1
       rename_i y
       refine (pturn'_64 x p1 y1 _ hx h1 hy1.out).mono ?_
       rintro e w2 ⟨rfl, hb2⟩
       exact ⟨rfl, ⟨w2, y.h.trans (hb2.mono y.h.size)⟩, rfl⟩)
    | (go_at_call_of 63 p2
       rename_i y
       refine (pturn'_64 x p2 y2 _ hx h2 hy2.out).mono ?_
       rintro e w2 ⟨rfl, hb2⟩
       exact ⟨rfl, ⟨w2, y.h.trans (hb2.mono y.h.size)⟩, rfl⟩)))
  refine wpQuiet_nil ?_
  rintro _ ⟨y, rfl⟩
  go_wp2_with fail
  go_returns
  exact ⟨rfl, hb0.trans (y.h.mono hb0.size)⟩
end Go.Proofs.YtclecmpmohoamaaDoor
