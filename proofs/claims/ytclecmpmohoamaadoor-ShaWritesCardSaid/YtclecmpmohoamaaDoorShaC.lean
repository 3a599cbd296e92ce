/- The document's methods on a kind of sum. (Printed by gen_shac.py.) -/
import Derived.Test.YtclecmpmohoamaaDoorShaB
import Derived.Test.YtclecmpmohoamaaDoorSlc
import Derived.Test.YtclecmpmohoamaaDoorReg
import Derived.Deep.QuietTactic
import Derived.BigQuiet
import Derived.Deep.RegionHeld3
import Derived.Deep.MidRow
namespace Go.Proofs.YtclecmpmohoamaaDoor
open Go.RowKit
set_option linter.unusedSimpArgs false
set_option linter.unusedVariables false

theorem shift_any (x n : Nat) (w : World) (hx : x < 18446744073709551616) (hn : n ≤ 64) :
    Calls Tryd.prog 51 #[.int .u64 x, .int .i64 n] w fun e w' => e = .returned (.int .u64 (x / 2 ^ n : Nat)) ∧ w = w' := by
  go_enter Tryd.func51, Tryd.ntmps51
  go_wp2_with fail
  go_loop [0, 5] (fun v0 v5 => ∃ (k y : Nat), v5 = .int .i64 k ∧ k ≤ n ∧ v0 = .int .u64 y ∧ Hid (y = x / 2 ^ k)) (fun _ v5 => n - (intOf v5).toNat)
  case atStart => exact ⟨0, x, rfl, Nat.zero_le _, rfl, by simp [Hid]⟩
  case round =>
    obtain ⟨k, y, rfl, hk, rfl, hy⟩ := hrel
    by_cases hkn : k < n
    · have hyb : y < 18446744073709551616 := by rw [hy.out]; exact Nat.lt_of_le_of_lt (Nat.div_le_self _ _) hx
      have hw3 : IntKind.i64.wrap ((k : Int) + 1) = ((k + 1 : Nat) : Int) := by rw [IntWalk.i64_in _ (by omega)]; omega
      have hw4 : IntKind.u64.wrap ((y : Int) / 2) = (y : Int) / 2 := by rw [IntKind.wrap_u64]; omega
      go_wp2_with fail
      refine ⟨⟨k + 1, y / 2, by go_num, by omega, rfl, ?_⟩, by simp only [intOf]; omega⟩
      show y / 2 = x / 2 ^ (k + 1)
      rw [hy.out, Nat.pow_succ, Nat.div_div_eq_div_mul]
    · obtain rfl : k = n := by omega
      go_wp2_with fail
      go_returns
      refine ⟨?_, rfl⟩
      show Ending.returned (Value.int .u64 (y : Int)) = _
      rw [hy.out]
      push_cast
      rfl

theorem load_blk {P : Program} {w : World} {g : Nat} {cs : Array Value} {t ty : TypeId} {d : TypeDesc} (h : w.heap[g]? = some (.cells cs t (0, 0))) (hu : P.underlying ty = some d) (hd : d.isRow = true) (hi : (P.info? ty).map (·.size) = some cs.toList.length) :
    (Instr.loadAt ty (.pointer (some ⟨g, 0, none⟩))).run P w = .ok (.agg cs) w := by
  have := run_loadAt_mid (P := P) w g 0 ty cs.toList d (fun j v hj => by rw [Nat.zero_add]; simp at hj; simp [World.cell?, h, hj]) hu hd hi
  simpa using this
/-- A load of a whole row or struct, in a quiet walk: no cell by itself. -/
theorem quiet_load {P : Program} {C : World → Prop} {o : Oper} {a : Act} {K : Act → Prop} {ty : TypeId} {v p : Value} (x : Operand) (ho : o.op = .load ty x) (hx : a.eval x = p) (hl : ∀ w, C w → (Instr.loadAt ty p).run P w = .ok v w) (hk : K (a.put o.dst v)) : o.quiet P a C K :=
  ⟨v, fun w hw => by
    unfold Oper.quietAt execOp
    simp only [ho, hx, Sem.run_bind, Sem.run_pure, Result.andThen_ok, hl w hw]
    exact ⟨rfl, rfl⟩, hk⟩
theorem yields_load {P : Program} {ops : Array Oper} {S : World → Prop} {o : Oper} {a : Act} {ty : TypeId} {v p : Value} (hw : Region.wanted o (yielded ops a.tmps) = true) (x : Operand) (ho : o.op = .load ty x) (hx : a.eval x = p) (hl : ∀ w, S w → (Instr.loadAt ty p).run P w = .ok v w) : YieldsIf P ops S o v a :=
  .inl ⟨hw, fun w hw' => by
    unfold execOp
    simp only [ho, hx, Sem.run_bind, Sem.run_pure, Result.andThen_ok, hl w hw']⟩
theorem load_part {P : Program} {w : World} {g o : Nat} {cs : Array Value} {t ty : TypeId} {d : TypeDesc} (part : List Value) (h : w.heap[g]? = some (.cells cs t (0, 0))) (hp : ∀ j v, part[j]? = some v → cs[o + j]? = some v) (hu : P.underlying ty = some d) (hd : d.isRow = true) (hi : (P.info? ty).map (·.size) = some part.length) :
    (Instr.loadAt ty (.pointer (some ⟨g, o, none⟩))).run P w = .ok (.agg part.toArray) w :=
  run_loadAt_mid (P := P) w g o ty part d (fun j v hj => by simp [World.cell?, h, hp j v hj]) hu hd hi
theorem cell_blk {w : World} {g : Nat} {cs : Array Value} {t : TypeId} {v : Value} (h : w.heap[g]? = some (.cells cs t (0, 0))) (j : Nat) (hj : cs[j]? = some v) : w.cell? ⟨g, j, none⟩ = some v := by simp [World.cell?, h, hj]
theorem below_drew {B : Nat} {w w' : World} (h : Below B w w') : Below B w w'.drew := h.trans ⟨rfl, rfl, rfl, Nat.le_refl _, fun _ _ => rfl⟩
/-- The worlds that leave all of W alone. -/
structure Bw (W : World) where
  w : World
  h : Below W.heap.size W w
/-- A region that draws, whose operations read W's memory alone and whose callees leave all of W alone: one walk, in the text's order. -/
theorem wp_region_bw {P : Program} {id : Nat} {Q : Exit → Act → World → Prop} {a : Act} {W : World} {l : List Oper} (hm : P.follows .mixedOrders = true) (hB : Region.lexB .any l.toArray = true)
    (h : wpQuiet P l.toArray (fun w' => ∃ y : Bw W, w' = y.w) (fun a' => ∀ w', (∃ y : Bw W, w' = y.w) → Q .normal a' w') l a) : (Code.region id l.toArray true).wp P Q a W :=
  wp_region_quiet (C := fun w' => ∃ y : Bw W, w' = y.w) hm hB ⟨⟨_, below_drew (Below.refl _ _)⟩, rfl⟩ (by simpa using h)

/-! ### The kind of 32 bits -/
theorem cut_32 (x : Nat) (A1 A2 : Option Addr) (c1 c2 : Nat) (w : World) (_hx : x < 18446744073709551616) :
    Calls Tryd.prog 62 #[.agg #[.int .i64 32, .int .i64 64, .int .i64 2, .int .i64 13, .int .i64 22, .int .i64 6, .int .i64 11, .int .i64 25, .int .i64 7, .int .i64 18, .int .i64 3, .int .i64 17, .int .i64 19, .int .i64 10, .slice A1 64 c1, .slice A2 8 c2], .int .u64 x] w fun e w' => e = .returned (.int .u64 (x % 2 ^ 32 : Nat)) ∧ Below w.heap.size w w' := by
  go_enter Tryd.func62, Tryd.ntmps62
  go_wp2_with fail
  go_returns
  refine ⟨?_, (Below.refl _ _).alloc (Nat.le_refl _) _⟩
  rfl

theorem cut'_32 (x y : Nat) (A1 A2 : Option Addr) (c1 c2 : Nat) (w : World) (hx : x < 18446744073709551616) (hy : x % 2 ^ 32 = y) :
    Calls Tryd.prog 62 #[.agg #[.int .i64 32, .int .i64 64, .int .i64 2, .int .i64 13, .int .i64 22, .int .i64 6, .int .i64 11, .int .i64 25, .int .i64 7, .int .i64 18, .int .i64 3, .int .i64 17, .int .i64 19, .int .i64 10, .slice A1 64 c1, .slice A2 8 c2], .int .u64 x] w fun e w' => e = .returned (.int .u64 y) ∧ Below w.heap.size w w' := by
  subst hy; exact cut_32 x A1 A2 c1 c2 w hx

theorem turn_32 (x n : Nat) (A1 A2 : Option Addr) (c1 c2 : Nat) (w : World) (hx : x < 2 ^ 32) (hn : n ≤ 32) :
    Calls Tryd.prog 68 #[.agg #[.int .i64 32, .int .i64 64, .int .i64 2, .int .i64 13, .int .i64 22, .int .i64 6, .int .i64 11, .int .i64 25, .int .i64 7, .int .i64 18, .int .i64 3, .int .i64 17, .int .i64 19, .int .i64 10, .slice A1 64 c1, .slice A2 8 c2], .int .u64 x, .int .i64 n] w fun e w' => e = .returned (.int .u64 (tr 32 x n : Nat)) ∧ Below w.heap.size w w' := by
  have hb0 : Below w.heap.size w (w.alloc (.cells #[.int .i64 32, .int .i64 64, .int .i64 2, .int .i64 13, .int .i64 22, .int .i64 6, .int .i64 11, .int .i64 25, .int .i64 7, .int .i64 18, .int .i64 3, .int .i64 17, .int .i64 19, .int .i64 10, .slice A1 64 c1, .slice A2 8 c2] 50)) := (Below.refl _ _).alloc (Nat.le_refl _) _
  have htr : ∀ k, k ≤ 32 → tr 32 x k < 4294967296 := fun k hk => Nat.lt_of_lt_of_le (tr_lt 32 x k hx hk) (by decide)
  have Htr := Lib.hid htr
  clear htr
  go_enter Tryd.func68, Tryd.ntmps68
  go_wp2_with fail
  go_loop [7, 8] (fun v7 v8 => ∃ k h : Nat, v8 = .int .i64 ((k : Int) + 1) ∧ v7 = .int .u64 h ∧ k ≤ 31 ∧ Hid (h = 2 ^ k)) (fun _ v8 => 100 - (intOf v8).toNat)
  case atStart => exact ⟨0, 1, rfl, rfl, by omega, rfl⟩
  case round =>
    obtain ⟨k, h, rfl, rfl, hk, hh⟩ := hrel
    by_cases hlt : k < 31
    · have hh1 : h ≤ 2 ^ 62 := by rw [hh.out]; exact Nat.pow_le_pow_right (by omega) (by omega)
      have hw1 : IntKind.u64.wrap ((h : Int) * 2) = ((h * 2 : Nat) : Int) := by rw [show (h : Int) * 2 = ((h * 2 : Nat) : Int) by omega, wrapU, Nat.mod_eq_of_lt (by omega)]
      have hw2 : IntKind.i64.wrap ((k : Int) + 1 + 1) = (k : Int) + 1 + 1 := IntWalk.i64_in _ (by omega)
      have hlt' : (k : Int) + 1 < 32 := by omega
      go_wp2_with fail
      exact ⟨⟨k + 1, h * 2, by congr 1, rfl, by omega, by rw [hh.out]; exact (Nat.pow_succ 2 k).symm⟩, by simp only [intOf]; omega⟩
    · obtain rfl : k = 31 := by omega
      have hh1 : h = 2147483648 := hh.out
      subst hh1
      clear hh
      go_wp2_with fail
      go_loop [1, 9] (fun v1 v9 => ∃ (k y : Nat), v9 = .int .i64 k ∧ k ≤ n ∧ v1 = .int .u64 y ∧ Hid (y = tr 32 x k)) (fun _ v9 => n - (intOf v9).toNat)
      case atStart => exact ⟨0, x, rfl, Nat.zero_le _, rfl, (tr_zero _ _).symm⟩
      case round =>
        obtain ⟨k, y, rfl, hk, rfl, hy⟩ := hrel
        by_cases hkn : k < n
        · have hyb : y < 4294967296 := by rw [hy.out]; exact Htr.out k (by omega)
          have hw3 : IntKind.i64.wrap ((k : Int) + 1) = ((k + 1 : Nat) : Int) := by rw [IntWalk.i64_in _ (by omega)]; omega
          go_wp2_with fail
          refine ⟨⟨k + 1, y / 2 + y % 2 * 2147483648, by go_num, by omega, rfl, ?_⟩, by simp only [intOf]; omega⟩
          show y / 2 + y % 2 * 2147483648 = tr 32 x (k + 1)
          rw [hy.out]
          exact tr_succ 32 x k (by omega)
        · obtain rfl : k = n := by omega
          go_wp2_with fail
          go_returns
          exact ⟨by rw [← hy.out]; rfl, hb0⟩

theorem rturned_32 (x p1 p2 p3 : Nat) (A1 A2 : Option Addr) (c1 c2 : Nat) (w : World) (hx : x < 2 ^ 32) (h1 : p1 ≤ 32) (h2 : p2 ≤ 32) (h3 : p3 ≤ 32) :
    Calls Tryd.prog 61 #[.agg #[.int .i64 32, .int .i64 64, .int .i64 2, .int .i64 13, .int .i64 22, .int .i64 6, .int .i64 11, .int .i64 25, .int .i64 7, .int .i64 18, .int .i64 3, .int .i64 17, .int .i64 19, .int .i64 10, .slice A1 64 c1, .slice A2 8 c2], .int .u64 x, .agg #[.int .i64 p1, .int .i64 p2, .int .i64 p3]] w fun e w' => e = .returned (.int .u64 (tur 32 x (p1, p2, p3) : Nat)) ∧ Below w.heap.size w w' := by
  have htr : ∀ k, k ≤ 32 → tr 32 x k < 18446744073709551616 := fun k hk => Nat.lt_of_lt_of_le (tr_lt 32 x k hx hk) (by decide)
  have Htr := Lib.hid htr
  clear htr
  go_enter Tryd.func61, Tryd.ntmps61
  go_wp2_with fail
  obtain ⟨W, hW⟩ : ∃ W, W = (w.alloc (.cells #[.int .i64 32, .int .i64 64, .int .i64 2, .int .i64 13, .int .i64 22, .int .i64 6, .int .i64 11, .int .i64 25, .int .i64 7, .int .i64 18, .int .i64 3, .int .i64 17, .int .i64 19, .int .i64 10, .slice A1 64 c1, .slice A2 8 c2] 50)).alloc (.cells #[.int .i64 p1, .int .i64 p2, .int .i64 p3] 47) := ⟨_, rfl⟩
  have hb0 : Below w.heap.size w W := by rw [hW]; exact ((Below.refl _ _).alloc (Nat.le_refl _) _).alloc (by simp) _
  have hK : W.heap[w.heap.size]? = some (.cells #[.int .i64 32, .int .i64 64, .int .i64 2, .int .i64 13, .int .i64 22, .int .i64 6, .int .i64 11, .int .i64 25, .int .i64 7, .int .i64 18, .int .i64 3, .int .i64 17, .int .i64 19, .int .i64 10, .slice A1 64 c1, .slice A2 8 c2] 50 (0, 0)) := by rw [hW]; exact (Below.heap_alloc _ _ _ (by simp)).trans (heap_alloc_new w _)
  have hP : W.heap[w.heap.size + 1]? = some (.cells #[.int .i64 p1, .int .i64 p2, .int .i64 p3] 47 (0, 0)) := by rw [hW]; have := heap_alloc_new (w.alloc (.cells #[.int .i64 32, .int .i64 64, .int .i64 2, .int .i64 13, .int .i64 22, .int .i64 6, .int .i64 11, .int .i64 25, .int .i64 7, .int .i64 18, .int .i64 3, .int .i64 17, .int .i64 19, .int .i64 10, .slice A1 64 c1, .slice A2 8 c2] 50)) (.cells #[.int .i64 p1, .int .i64 p2, .int .i64 p3] 47); simpa using this
  have hsz : w.heap.size + 2 ≤ W.heap.size := by rw [hW]; simp
  rw [← hW]
  have hWh := Lib.hid hW
  clear hW
  have fK := fun y : Bw W => (y.h.block w.heap.size (by omega)).trans hK
  have fP := fun y : Bw W => (y.h.block (w.heap.size + 1) (by omega)).trans hP
  have q0 : ∀ y : Bw W, y.w.cell? ⟨w.heap.size + 1, 0, none⟩ = some (.int .i64 p1) := fun y => cell_blk (fP y) 0 rfl
  have q1 : ∀ y : Bw W, y.w.cell? ⟨w.heap.size + 1, 1, none⟩ = some (.int .i64 p2) := fun y => cell_blk (fP y) 1 rfl
  have q2 : ∀ y : Bw W, y.w.cell? ⟨w.heap.size + 1, 2, none⟩ = some (.int .i64 p3) := fun y => cell_blk (fP y) 2 rfl
  have kl : ∀ w', (∃ y : Bw W, w' = y.w) → (Instr.loadAt 50 (.pointer (some ⟨w.heap.size, 0, none⟩))).run Tryd.prog w' = .ok (.agg #[.int .i64 32, .int .i64 64, .int .i64 2, .int .i64 13, .int .i64 22, .int .i64 6, .int .i64 11, .int .i64 25, .int .i64 7, .int .i64 18, .int .i64 3, .int .i64 17, .int .i64 19, .int .i64 10, .slice A1 64 c1, .slice A2 8 c2]) w' := fun w' ⟨y, hy⟩ => hy ▸ load_blk (fK y) Tryd.underlying50 rfl (by kernel_rfl)
  haveI : Nonempty (Bw W) := ⟨⟨W, Below.refl _ _⟩⟩
  clear fK fP hK hP
  refine wp_region_bw (by kernel_rfl) (by kernel_rfl) ?_
  repeat (first
    | (go_big_quiet_want
       refine quiet_load (.tmp 3) rfl rfl kl ?_
       simp only [Act.put, List.setIfInBounds_toArray, List.set_cons_zero, List.set_cons_succ]
       go_big_quiet_on)
    | go_big_quiet_step (first
    | (go_at_call_of 68 p1
       rename_i y
       refine (turn_32 x p1 _ _ _ _ _ hx h1).mono ?_
       rintro e w2 ⟨rfl, hb2⟩
       exact ⟨rfl, ⟨w2, y.h.trans (hb2.mono y.h.size)⟩, rfl⟩)
    | (go_at_call_of 68 p2
       rename_i y
       refine (turn_32 x p2 _ _ _ _ _ hx h2).mono ?_
       rintro e w2 ⟨rfl, hb2⟩
       exact ⟨rfl, ⟨w2, y.h.trans (hb2.mono y.h.size)⟩, rfl⟩)
    | (go_at_call_of 68 p3
       rename_i y
       refine (turn_32 x p3 _ _ _ _ _ hx h3).mono ?_
       rintro e w2 ⟨rfl, hb2⟩
       exact ⟨rfl, ⟨w2, y.h.trans (hb2.mono y.h.size)⟩, rfl⟩)))
  refine wpQuiet_nil ?_
  rintro _ ⟨y, rfl⟩
  go_wp2_with fail
  go_returns
  refine ⟨?_, hb0.trans (y.h.mono (by omega))⟩
  have e1 := bits_xor_u64_nat (tr 32 x p1) (tr 32 x p2) (Htr.out p1 h1) (Htr.out p2 h2)
  have e2 := bits_xor_u64_nat (tr 32 x p1 ^^^ tr 32 x p2) (tr 32 x p3) (Nat.xor_lt_two_pow (n := 64) (Htr.out p1 h1) (Htr.out p2 h2)) (Htr.out p3 h3)
  show Ending.returned (Value.int .u64 _) = _
  rw [e1, e2]
  rfl
theorem rshifted_32 (x p1 p2 p3 : Nat) (A1 A2 : Option Addr) (c1 c2 : Nat) (w : World) (hx : x < 2 ^ 32) (h1 : p1 ≤ 32) (h2 : p2 ≤ 32) (h3 : p3 ≤ 32) :
    Calls Tryd.prog 67 #[.agg #[.int .i64 32, .int .i64 64, .int .i64 2, .int .i64 13, .int .i64 22, .int .i64 6, .int .i64 11, .int .i64 25, .int .i64 7, .int .i64 18, .int .i64 3, .int .i64 17, .int .i64 19, .int .i64 10, .slice A1 64 c1, .slice A2 8 c2], .int .u64 x, .agg #[.int .i64 p1, .int .i64 p2, .int .i64 p3]] w fun e w' => e = .returned (.int .u64 (shi 32 x (p1, p2, p3) : Nat)) ∧ Below w.heap.size w w' := by
  have htr : ∀ k, k ≤ 32 → tr 32 x k < 18446744073709551616 := fun k hk => Nat.lt_of_lt_of_le (tr_lt 32 x k hx hk) (by decide)
  have Htr := Lib.hid htr
  clear htr
  go_enter Tryd.func67, Tryd.ntmps67
  go_wp2_with fail
  obtain ⟨W, hW⟩ : ∃ W, W = (w.alloc (.cells #[.int .i64 32, .int .i64 64, .int .i64 2, .int .i64 13, .int .i64 22, .int .i64 6, .int .i64 11, .int .i64 25, .int .i64 7, .int .i64 18, .int .i64 3, .int .i64 17, .int .i64 19, .int .i64 10, .slice A1 64 c1, .slice A2 8 c2] 50)).alloc (.cells #[.int .i64 p1, .int .i64 p2, .int .i64 p3] 47) := ⟨_, rfl⟩
  have hb0 : Below w.heap.size w W := by rw [hW]; exact ((Below.refl _ _).alloc (Nat.le_refl _) _).alloc (by simp) _
  have hK : W.heap[w.heap.size]? = some (.cells #[.int .i64 32, .int .i64 64, .int .i64 2, .int .i64 13, .int .i64 22, .int .i64 6, .int .i64 11, .int .i64 25, .int .i64 7, .int .i64 18, .int .i64 3, .int .i64 17, .int .i64 19, .int .i64 10, .slice A1 64 c1, .slice A2 8 c2] 50 (0, 0)) := by rw [hW]; exact (Below.heap_alloc _ _ _ (by simp)).trans (heap_alloc_new w _)
  have hP : W.heap[w.heap.size + 1]? = some (.cells #[.int .i64 p1, .int .i64 p2, .int .i64 p3] 47 (0, 0)) := by rw [hW]; have := heap_alloc_new (w.alloc (.cells #[.int .i64 32, .int .i64 64, .int .i64 2, .int .i64 13, .int .i64 22, .int .i64 6, .int .i64 11, .int .i64 25, .int .i64 7, .int .i64 18, .int .i64 3, .int .i64 17, .int .i64 19, .int .i64 10, .slice A1 64 c1, .slice A2 8 c2] 50)) (.cells #[.int .i64 p1, .int .i64 p2, .int .i64 p3] 47); simpa using this
  have hsz : w.heap.size + 2 ≤ W.heap.size := by rw [hW]; simp
  rw [← hW]
  have hWh := Lib.hid hW
  clear hW
  have fK := fun y : Bw W => (y.h.block w.heap.size (by omega)).trans hK
  have fP := fun y : Bw W => (y.h.block (w.heap.size + 1) (by omega)).trans hP
  have q0 : ∀ y : Bw W, y.w.cell? ⟨w.heap.size + 1, 0, none⟩ = some (.int .i64 p1) := fun y => cell_blk (fP y) 0 rfl
  have q1 : ∀ y : Bw W, y.w.cell? ⟨w.heap.size + 1, 1, none⟩ = some (.int .i64 p2) := fun y => cell_blk (fP y) 1 rfl
  have q2 : ∀ y : Bw W, y.w.cell? ⟨w.heap.size + 1, 2, none⟩ = some (.int .i64 p3) := fun y => cell_blk (fP y) 2 rfl
  have kl : ∀ w', (∃ y : Bw W, w' = y.w) → (Instr.loadAt 50 (.pointer (some ⟨w.heap.size, 0, none⟩))).run Tryd.prog w' = .ok (.agg #[.int .i64 32, .int .i64 64, .int .i64 2, .int .i64 13, .int .i64 22, .int .i64 6, .int .i64 11, .int .i64 25, .int .i64 7, .int .i64 18, .int .i64 3, .int .i64 17, .int .i64 19, .int .i64 10, .slice A1 64 c1, .slice A2 8 c2]) w' := fun w' ⟨y, hy⟩ => hy ▸ load_blk (fK y) Tryd.underlying50 rfl (by kernel_rfl)
  haveI : Nonempty (Bw W) := ⟨⟨W, Below.refl _ _⟩⟩
  clear fK fP hK hP
  refine wp_region_bw (by kernel_rfl) (by kernel_rfl) ?_
  repeat (first
    | (go_big_quiet_want
       refine quiet_load (.tmp 3) rfl rfl kl ?_
       simp only [Act.put, List.setIfInBounds_toArray, List.set_cons_zero, List.set_cons_succ]
       go_big_quiet_on)
    | go_big_quiet_step (first
    | (go_at_call_of 68 p1
       rename_i y
       refine (turn_32 x p1 _ _ _ _ _ hx h1).mono ?_
       rintro e w2 ⟨rfl, hb2⟩
       exact ⟨rfl, ⟨w2, y.h.trans (hb2.mono y.h.size)⟩, rfl⟩)
    | (go_at_call_of 68 p2
       rename_i y
       refine (turn_32 x p2 _ _ _ _ _ hx h2).mono ?_
       rintro e w2 ⟨rfl, hb2⟩
       exact ⟨rfl, ⟨w2, y.h.trans (hb2.mono y.h.size)⟩, rfl⟩)
    | (go_at_call_of 51 p3
       rename_i y
       refine (shift_any x p3 _ (Nat.lt_of_lt_of_le hx (by decide)) (by omega)).mono ?_
       rintro e w2 ⟨rfl, rfl⟩
       exact ⟨rfl, y, rfl⟩)))
  refine wpQuiet_nil ?_
  rintro _ ⟨y, rfl⟩
  go_wp2_with fail
  go_returns
  refine ⟨?_, hb0.trans (y.h.mono (by omega))⟩
  have e1 := bits_xor_u64_nat (tr 32 x p1) (tr 32 x p2) (Htr.out p1 h1) (Htr.out p2 h2)
  have e2 := bits_xor_u64_nat (tr 32 x p1 ^^^ tr 32 x p2) (x / 2 ^ p3) (Nat.xor_lt_two_pow (n := 64) (Htr.out p1 h1) (Htr.out p2 h2)) (Nat.lt_of_le_of_lt (Nat.div_le_self _ _) (Nat.lt_of_lt_of_le hx (by decide)))
  show Ending.returned (Value.int .u64 _) = _
  rw [e1, show ((x : Int) / 2 ^ p3) = ((x / 2 ^ p3 : Nat) : Int) by push_cast; rfl, e2]
  rfl

theorem rturned'_32 (x y p1 p2 p3 : Nat) (A1 A2 : Option Addr) (c1 c2 : Nat) (w : World) (hx : x < 2 ^ 32) (h1 : p1 ≤ 32) (h2 : p2 ≤ 32) (h3 : p3 ≤ 32) (hy : tur 32 x (p1, p2, p3) = y) :
    Calls Tryd.prog 61 #[.agg #[.int .i64 32, .int .i64 64, .int .i64 2, .int .i64 13, .int .i64 22, .int .i64 6, .int .i64 11, .int .i64 25, .int .i64 7, .int .i64 18, .int .i64 3, .int .i64 17, .int .i64 19, .int .i64 10, .slice A1 64 c1, .slice A2 8 c2], .int .u64 x, .agg #[.int .i64 p1, .int .i64 p2, .int .i64 p3]] w fun e w' => e = .returned (.int .u64 y) ∧ Below w.heap.size w w' := by
  subst hy; exact rturned_32 x p1 p2 p3 A1 A2 c1 c2 w hx h1 h2 h3
theorem rshifted'_32 (x y p1 p2 p3 : Nat) (A1 A2 : Option Addr) (c1 c2 : Nat) (w : World) (hx : x < 2 ^ 32) (h1 : p1 ≤ 32) (h2 : p2 ≤ 32) (h3 : p3 ≤ 32) (hy : shi 32 x (p1, p2, p3) = y) :
    Calls Tryd.prog 67 #[.agg #[.int .i64 32, .int .i64 64, .int .i64 2, .int .i64 13, .int .i64 22, .int .i64 6, .int .i64 11, .int .i64 25, .int .i64 7, .int .i64 18, .int .i64 3, .int .i64 17, .int .i64 19, .int .i64 10, .slice A1 64 c1, .slice A2 8 c2], .int .u64 x, .agg #[.int .i64 p1, .int .i64 p2, .int .i64 p3]] w fun e w' => e = .returned (.int .u64 y) ∧ Below w.heap.size w w' := by
  subst hy; exact rshifted_32 x p1 p2 p3 A1 A2 c1 c2 w hx h1 h2 h3
theorem add4_32 (a b c d : Nat) : (((a + b) % 18446744073709551616 + c) % 18446744073709551616 + d) % 18446744073709551616 % 2 ^ 32 = (a + b + c + d) % 2 ^ 32 := by
  simp only [Nat.reducePow]; omega

/-! ### The kind of 64 bits -/
theorem cut_64 (x : Nat) (A1 A2 : Option Addr) (c1 c2 : Nat) (w : World) (_hx : x < 18446744073709551616) :
    Calls Tryd.prog 62 #[.agg #[.int .i64 64, .int .i64 80, .int .i64 28, .int .i64 34, .int .i64 39, .int .i64 14, .int .i64 18, .int .i64 41, .int .i64 1, .int .i64 8, .int .i64 7, .int .i64 19, .int .i64 61, .int .i64 6, .slice A1 80 c1, .slice A2 8 c2], .int .u64 x] w fun e w' => e = .returned (.int .u64 (x % 2 ^ 64 : Nat)) ∧ Below w.heap.size w w' := by
  go_enter Tryd.func62, Tryd.ntmps62
  go_wp2_with fail
  go_returns
  refine ⟨?_, (Below.refl _ _).alloc (Nat.le_refl _) _⟩
  rw [Nat.mod_eq_of_lt (by exact _hx)]; rfl

theorem cut'_64 (x y : Nat) (A1 A2 : Option Addr) (c1 c2 : Nat) (w : World) (hx : x < 18446744073709551616) (hy : x % 2 ^ 64 = y) :
    Calls Tryd.prog 62 #[.agg #[.int .i64 64, .int .i64 80, .int .i64 28, .int .i64 34, .int .i64 39, .int .i64 14, .int .i64 18, .int .i64 41, .int .i64 1, .int .i64 8, .int .i64 7, .int .i64 19, .int .i64 61, .int .i64 6, .slice A1 80 c1, .slice A2 8 c2], .int .u64 x] w fun e w' => e = .returned (.int .u64 y) ∧ Below w.heap.size w w' := by
  subst hy; exact cut_64 x A1 A2 c1 c2 w hx

theorem turn_64 (x n : Nat) (A1 A2 : Option Addr) (c1 c2 : Nat) (w : World) (hx : x < 2 ^ 64) (hn : n ≤ 64) :
    Calls Tryd.prog 68 #[.agg #[.int .i64 64, .int .i64 80, .int .i64 28, .int .i64 34, .int .i64 39, .int .i64 14, .int .i64 18, .int .i64 41, .int .i64 1, .int .i64 8, .int .i64 7, .int .i64 19, .int .i64 61, .int .i64 6, .slice A1 80 c1, .slice A2 8 c2], .int .u64 x, .int .i64 n] w fun e w' => e = .returned (.int .u64 (tr 64 x n : Nat)) ∧ Below w.heap.size w w' := by
  have hb0 : Below w.heap.size w (w.alloc (.cells #[.int .i64 64, .int .i64 80, .int .i64 28, .int .i64 34, .int .i64 39, .int .i64 14, .int .i64 18, .int .i64 41, .int .i64 1, .int .i64 8, .int .i64 7, .int .i64 19, .int .i64 61, .int .i64 6, .slice A1 80 c1, .slice A2 8 c2] 50)) := (Below.refl _ _).alloc (Nat.le_refl _) _
  have htr : ∀ k, k ≤ 64 → tr 64 x k < 18446744073709551616 := fun k hk => Nat.lt_of_lt_of_le (tr_lt 64 x k hx hk) (by decide)
  have Htr := Lib.hid htr
  clear htr
  go_enter Tryd.func68, Tryd.ntmps68
  go_wp2_with fail
  go_loop [7, 8] (fun v7 v8 => ∃ k h : Nat, v8 = .int .i64 ((k : Int) + 1) ∧ v7 = .int .u64 h ∧ k ≤ 63 ∧ Hid (h = 2 ^ k)) (fun _ v8 => 100 - (intOf v8).toNat)
  case atStart => exact ⟨0, 1, rfl, rfl, by omega, rfl⟩
  case round =>
    obtain ⟨k, h, rfl, rfl, hk, hh⟩ := hrel
    by_cases hlt : k < 63
    · have hh1 : h ≤ 2 ^ 62 := by rw [hh.out]; exact Nat.pow_le_pow_right (by omega) (by omega)
      have hw1 : IntKind.u64.wrap ((h : Int) * 2) = ((h * 2 : Nat) : Int) := by rw [show (h : Int) * 2 = ((h * 2 : Nat) : Int) by omega, wrapU, Nat.mod_eq_of_lt (by omega)]
      have hw2 : IntKind.i64.wrap ((k : Int) + 1 + 1) = (k : Int) + 1 + 1 := IntWalk.i64_in _ (by omega)
      have hlt' : (k : Int) + 1 < 64 := by omega
      go_wp2_with fail
      exact ⟨⟨k + 1, h * 2, by congr 1, rfl, by omega, by rw [hh.out]; exact (Nat.pow_succ 2 k).symm⟩, by simp only [intOf]; omega⟩
    · obtain rfl : k = 63 := by omega
      have hh1 : h = 9223372036854775808 := hh.out
      subst hh1
      clear hh
      go_wp2_with fail
      go_loop [1, 9] (fun v1 v9 => ∃ (k y : Nat), v9 = .int .i64 k ∧ k ≤ n ∧ v1 = .int .u64 y ∧ Hid (y = tr 64 x k)) (fun _ v9 => n - (intOf v9).toNat)
      case atStart => exact ⟨0, x, rfl, Nat.zero_le _, rfl, (tr_zero _ _).symm⟩
      case round =>
        obtain ⟨k, y, rfl, hk, rfl, hy⟩ := hrel
        by_cases hkn : k < n
        · have hyb : y < 18446744073709551616 := by rw [hy.out]; exact Htr.out k (by omega)
          have hw3 : IntKind.i64.wrap ((k : Int) + 1) = ((k + 1 : Nat) : Int) := by rw [IntWalk.i64_in _ (by omega)]; omega
          go_wp2_with fail
          refine ⟨⟨k + 1, y / 2 + y % 2 * 9223372036854775808, by go_num, by omega, rfl, ?_⟩, by simp only [intOf]; omega⟩
          show y / 2 + y % 2 * 9223372036854775808 = tr 64 x (k + 1)
          rw [hy.out]
          exact tr_succ 64 x k (by omega)
        · obtain rfl : k = n := by omega
          go_wp2_with fail
          go_returns
          exact ⟨by rw [← hy.out]; rfl, hb0⟩

theorem rturned_64 (x p1 p2 p3 : Nat) (A1 A2 : Option Addr) (c1 c2 : Nat) (w : World) (hx : x < 2 ^ 64) (h1 : p1 ≤ 64) (h2 : p2 ≤ 64) (h3 : p3 ≤ 64) :
    Calls Tryd.prog 61 #[.agg #[.int .i64 64, .int .i64 80, .int .i64 28, .int .i64 34, .int .i64 39, .int .i64 14, .int .i64 18, .int .i64 41, .int .i64 1, .int .i64 8, .int .i64 7, .int .i64 19, .int .i64 61, .int .i64 6, .slice A1 80 c1, .slice A2 8 c2], .int .u64 x, .agg #[.int .i64 p1, .int .i64 p2, .int .i64 p3]] w fun e w' => e = .returned (.int .u64 (tur 64 x (p1, p2, p3) : Nat)) ∧ Below w.heap.size w w' := by
  have htr : ∀ k, k ≤ 64 → tr 64 x k < 18446744073709551616 := fun k hk => Nat.lt_of_lt_of_le (tr_lt 64 x k hx hk) (by decide)
  have Htr := Lib.hid htr
  clear htr
  go_enter Tryd.func61, Tryd.ntmps61
  go_wp2_with fail
  obtain ⟨W, hW⟩ : ∃ W, W = (w.alloc (.cells #[.int .i64 64, .int .i64 80, .int .i64 28, .int .i64 34, .int .i64 39, .int .i64 14, .int .i64 18, .int .i64 41, .int .i64 1, .int .i64 8, .int .i64 7, .int .i64 19, .int .i64 61, .int .i64 6, .slice A1 80 c1, .slice A2 8 c2] 50)).alloc (.cells #[.int .i64 p1, .int .i64 p2, .int .i64 p3] 47) := ⟨_, rfl⟩
  have hb0 : Below w.heap.size w W := by rw [hW]; exact ((Below.refl _ _).alloc (Nat.le_refl _) _).alloc (by simp) _
  have hK : W.heap[w.heap.size]? = some (.cells #[.int .i64 64, .int .i64 80, .int .i64 28, .int .i64 34, .int .i64 39, .int .i64 14, .int .i64 18, .int .i64 41, .int .i64 1, .int .i64 8, .int .i64 7, .int .i64 19, .int .i64 61, .int .i64 6, .slice A1 80 c1, .slice A2 8 c2] 50 (0, 0)) := by rw [hW]; exact (Below.heap_alloc _ _ _ (by simp)).trans (heap_alloc_new w _)
  have hP : W.heap[w.heap.size + 1]? = some (.cells #[.int .i64 p1, .int .i64 p2, .int .i64 p3] 47 (0, 0)) := by rw [hW]; have := heap_alloc_new (w.alloc (.cells #[.int .i64 64, .int .i64 80, .int .i64 28, .int .i64 34, .int .i64 39, .int .i64 14, .int .i64 18, .int .i64 41, .int .i64 1, .int .i64 8, .int .i64 7, .int .i64 19, .int .i64 61, .int .i64 6, .slice A1 80 c1, .slice A2 8 c2] 50)) (.cells #[.int .i64 p1, .int .i64 p2, .int .i64 p3] 47); simpa using this
  have hsz : w.heap.size + 2 ≤ W.heap.size := by rw [hW]; simp
  rw [← hW]
  have hWh := Lib.hid hW
  clear hW
  have fK := fun y : Bw W => (y.h.block w.heap.size (by omega)).trans hK
  have fP := fun y : Bw W => (y.h.block (w.heap.size + 1) (by omega)).trans hP
  have q0 : ∀ y : Bw W, y.w.cell? ⟨w.heap.size + 1, 0, none⟩ = some (.int .i64 p1) := fun y => cell_blk (fP y) 0 rfl
  have q1 : ∀ y : Bw W, y.w.cell? ⟨w.heap.size + 1, 1, none⟩ = some (.int .i64 p2) := fun y => cell_blk (fP y) 1 rfl
  have q2 : ∀ y : Bw W, y.w.cell? ⟨w.heap.size + 1, 2, none⟩ = some (.int .i64 p3) := fun y => cell_blk (fP y) 2 rfl
  have kl : ∀ w', (∃ y : Bw W, w' = y.w) → (Instr.loadAt 50 (.pointer (some ⟨w.heap.size, 0, none⟩))).run Tryd.prog w' = .ok (.agg #[.int .i64 64, .int .i64 80, .int .i64 28, .int .i64 34, .int .i64 39, .int .i64 14, .int .i64 18, .int .i64 41, .int .i64 1, .int .i64 8, .int .i64 7, .int .i64 19, .int .i64 61, .int .i64 6, .slice A1 80 c1, .slice A2 8 c2]) w' := fun w' ⟨y, hy⟩ => hy ▸ load_blk (fK y) Tryd.underlying50 rfl (by kernel_rfl)
  haveI : Nonempty (Bw W) := ⟨⟨W, Below.refl _ _⟩⟩
  clear fK fP hK hP
  refine wp_region_bw (by kernel_rfl) (by kernel_rfl) ?_
  repeat (first
    | (go_big_quiet_want
       refine quiet_load (.tmp 3) rfl rfl kl ?_
       simp only [Act.put, List.setIfInBounds_toArray, List.set_cons_zero, List.set_cons_succ]
       go_big_quiet_on)
    | go_big_quiet_step (first
    | (go_at_call_of 68 p1
       rename_i y
       refine (turn_64 x p1 _ _ _ _ _ hx h1).mono ?_
       rintro e w2 ⟨rfl, hb2⟩
       exact ⟨rfl, ⟨w2, y.h.trans (hb2.mono y.h.size)⟩, rfl⟩)
    | (go_at_call_of 68 p2
       rename_i y
       refine (turn_64 x p2 _ _ _ _ _ hx h2).mono ?_
       rintro e w2 ⟨rfl, hb2⟩
       exact ⟨rfl, ⟨w2, y.h.trans (hb2.mono y.h.size)⟩, rfl⟩)
    | (go_at_call_of 68 p3
       rename_i y
       refine (turn_64 x p3 _ _ _ _ _ hx h3).mono ?_
       rintro e w2 ⟨rfl, hb2⟩
       exact ⟨rfl, ⟨w2, y.h.trans (hb2.mono y.h.size)⟩, rfl⟩)))
  refine wpQuiet_nil ?_
  rintro _ ⟨y, rfl⟩
  go_wp2_with fail
  go_returns
  refine ⟨?_, hb0.trans (y.h.mono (by omega))⟩
  have e1 := bits_xor_u64_nat (tr 64 x p1) (tr 64 x p2) (Htr.out p1 h1) (Htr.out p2 h2)
  have e2 := bits_xor_u64_nat (tr 64 x p1 ^^^ tr 64 x p2) (tr 64 x p3) (Nat.xor_lt_two_pow (n := 64) (Htr.out p1 h1) (Htr.out p2 h2)) (Htr.out p3 h3)
  show Ending.returned (Value.int .u64 _) = _
  rw [e1, e2]
  rfl
theorem rshifted_64 (x p1 p2 p3 : Nat) (A1 A2 : Option Addr) (c1 c2 : Nat) (w : World) (hx : x < 2 ^ 64) (h1 : p1 ≤ 64) (h2 : p2 ≤ 64) (h3 : p3 ≤ 64) :
    Calls Tryd.prog 67 #[.agg #[.int .i64 64, .int .i64 80, .int .i64 28, .int .i64 34, .int .i64 39, .int .i64 14, .int .i64 18, .int .i64 41, .int .i64 1, .int .i64 8, .int .i64 7, .int .i64 19, .int .i64 61, .int .i64 6, .slice A1 80 c1, .slice A2 8 c2], .int .u64 x, .agg #[.int .i64 p1, .int .i64 p2, .int .i64 p3]] w fun e w' => e = .returned (.int .u64 (shi 64 x (p1, p2, p3) : Nat)) ∧ Below w.heap.size w w' := by
  have htr : ∀ k, k ≤ 64 → tr 64 x k < 18446744073709551616 := fun k hk => Nat.lt_of_lt_of_le (tr_lt 64 x k hx hk) (by decide)
  have Htr := Lib.hid htr
  clear htr
  go_enter Tryd.func67, Tryd.ntmps67
  go_wp2_with fail
  obtain ⟨W, hW⟩ : ∃ W, W = (w.alloc (.cells #[.int .i64 64, .int .i64 80, .int .i64 28, .int .i64 34, .int .i64 39, .int .i64 14, .int .i64 18, .int .i64 41, .int .i64 1, .int .i64 8, .int .i64 7, .int .i64 19, .int .i64 61, .int .i64 6, .slice A1 80 c1, .slice A2 8 c2] 50)).alloc (.cells #[.int .i64 p1, .int .i64 p2, .int .i64 p3] 47) := ⟨_, rfl⟩
  have hb0 : Below w.heap.size w W := by rw [hW]; exact ((Below.refl _ _).alloc (Nat.le_refl _) _).alloc (by simp) _
  have hK : W.heap[w.heap.size]? = some (.cells #[.int .i64 64, .int .i64 80, .int .i64 28, .int .i64 34, .int .i64 39, .int .i64 14, .int .i64 18, .int .i64 41, .int .i64 1, .int .i64 8, .int .i64 7, .int .i64 19, .int .i64 61, .int .i64 6, .slice A1 80 c1, .slice A2 8 c2] 50 (0, 0)) := by rw [hW]; exact (Below.heap_alloc _ _ _ (by simp)).trans (heap_alloc_new w _)
  have hP : W.heap[w.heap.size + 1]? = some (.cells #[.int .i64 p1, .int .i64 p2, .int .i64 p3] 47 (0, 0)) := by rw [hW]; have := heap_alloc_new (w.alloc (.cells #[.int .i64 64, .int .i64 80, .int .i64 28, .int .i64 34, .int .i64 39, .int .i64 14, .int .i64 18, .int .i64 41, .int .i64 1, .int .i64 8, .int .i64 7, .int .i64 19, .int .i64 61, .int .i64 6, .slice A1 80 c1, .slice A2 8 c2] 50)) (.cells #[.int .i64 p1, .int .i64 p2, .int .i64 p3] 47); simpa using this
  have hsz : w.heap.size + 2 ≤ W.heap.size := by rw [hW]; simp
  rw [← hW]
  have hWh := Lib.hid hW
  clear hW
  have fK := fun y : Bw W => (y.h.block w.heap.size (by omega)).trans hK
  have fP := fun y : Bw W => (y.h.block (w.heap.size + 1) (by omega)).trans hP
  have q0 : ∀ y : Bw W, y.w.cell? ⟨w.heap.size + 1, 0, none⟩ = some (.int .i64 p1) := fun y => cell_blk (fP y) 0 rfl
  have q1 : ∀ y : Bw W, y.w.cell? ⟨w.heap.size + 1, 1, none⟩ = some (.int .i64 p2) := fun y => cell_blk (fP y) 1 rfl
  have q2 : ∀ y : Bw W, y.w.cell? ⟨w.heap.size + 1, 2, none⟩ = some (.int .i64 p3) := fun y => cell_blk (fP y) 2 rfl
  have kl : ∀ w', (∃ y : Bw W, w' = y.w) → (Instr.loadAt 50 (.pointer (some ⟨w.heap.size, 0, none⟩))).run Tryd.prog w' = .ok (.agg #[.int .i64 64, .int .i64 80, .int .i64 28, .int .i64 34, .int .i64 39, .int .i64 14, .int .i64 18, .int .i64 41, .int .i64 1, .int .i64 8, .int .i64 7, .int .i64 19, .int .i64 61, .int .i64 6, .slice A1 80 c1, .slice A2 8 c2]) w' := fun w' ⟨y, hy⟩ => hy ▸ load_blk (fK y) Tryd.underlying50 rfl (by kernel_rfl)
  haveI : Nonempty (Bw W) := ⟨⟨W, Below.refl _ _⟩⟩
  clear fK fP hK hP
  refine wp_region_bw (by kernel_rfl) (by kernel_rfl) ?_
  repeat (first
    | (go_big_quiet_want
       refine quiet_load (.tmp 3) rfl rfl kl ?_
       simp only [Act.put, List.setIfInBounds_toArray, List.set_cons_zero, List.set_cons_succ]
       go_big_quiet_on)
    | go_big_quiet_step (first
    | (go_at_call_of 68 p1
       rename_i y
       refine (turn_64 x p1 _ _ _ _ _ hx h1).mono ?_
       rintro e w2 ⟨rfl, hb2⟩
       exact ⟨rfl, ⟨w2, y.h.trans (hb2.mono y.h.size)⟩, rfl⟩)
    | (go_at_call_of 68 p2
       rename_i y
       refine (turn_64 x p2 _ _ _ _ _ hx h2).mono ?_
       rintro e w2 ⟨rfl, hb2⟩
       exact ⟨rfl, ⟨w2, y.h.trans (hb2.mono y.h.size)⟩, rfl⟩)
    | (go_at_call_of 51 p3
       rename_i y
       refine (shift_any x p3 _ (Nat.lt_of_lt_of_le hx (by decide)) (by omega)).mono ?_
       rintro e w2 ⟨rfl, rfl⟩
       exact ⟨rfl, y, rfl⟩)))
  refine wpQuiet_nil ?_
  rintro _ ⟨y, rfl⟩
  go_wp2_with fail
  go_returns
  refine ⟨?_, hb0.trans (y.h.mono (by omega))⟩
  have e1 := bits_xor_u64_nat (tr 64 x p1) (tr 64 x p2) (Htr.out p1 h1) (Htr.out p2 h2)
  have e2 := bits_xor_u64_nat (tr 64 x p1 ^^^ tr 64 x p2) (x / 2 ^ p3) (Nat.xor_lt_two_pow (n := 64) (Htr.out p1 h1) (Htr.out p2 h2)) (Nat.lt_of_le_of_lt (Nat.div_le_self _ _) (Nat.lt_of_lt_of_le hx (by decide)))
  show Ending.returned (Value.int .u64 _) = _
  rw [e1, show ((x : Int) / 2 ^ p3) = ((x / 2 ^ p3 : Nat) : Int) by push_cast; rfl, e2]
  rfl

theorem rturned'_64 (x y p1 p2 p3 : Nat) (A1 A2 : Option Addr) (c1 c2 : Nat) (w : World) (hx : x < 2 ^ 64) (h1 : p1 ≤ 64) (h2 : p2 ≤ 64) (h3 : p3 ≤ 64) (hy : tur 64 x (p1, p2, p3) = y) :
    Calls Tryd.prog 61 #[.agg #[.int .i64 64, .int .i64 80, .int .i64 28, .int .i64 34, .int .i64 39, .int .i64 14, .int .i64 18, .int .i64 41, .int .i64 1, .int .i64 8, .int .i64 7, .int .i64 19, .int .i64 61, .int .i64 6, .slice A1 80 c1, .slice A2 8 c2], .int .u64 x, .agg #[.int .i64 p1, .int .i64 p2, .int .i64 p3]] w fun e w' => e = .returned (.int .u64 y) ∧ Below w.heap.size w w' := by
  subst hy; exact rturned_64 x p1 p2 p3 A1 A2 c1 c2 w hx h1 h2 h3
theorem rshifted'_64 (x y p1 p2 p3 : Nat) (A1 A2 : Option Addr) (c1 c2 : Nat) (w : World) (hx : x < 2 ^ 64) (h1 : p1 ≤ 64) (h2 : p2 ≤ 64) (h3 : p3 ≤ 64) (hy : shi 64 x (p1, p2, p3) = y) :
    Calls Tryd.prog 67 #[.agg #[.int .i64 64, .int .i64 80, .int .i64 28, .int .i64 34, .int .i64 39, .int .i64 14, .int .i64 18, .int .i64 41, .int .i64 1, .int .i64 8, .int .i64 7, .int .i64 19, .int .i64 61, .int .i64 6, .slice A1 80 c1, .slice A2 8 c2], .int .u64 x, .agg #[.int .i64 p1, .int .i64 p2, .int .i64 p3]] w fun e w' => e = .returned (.int .u64 y) ∧ Below w.heap.size w w' := by
  subst hy; exact rshifted_64 x p1 p2 p3 A1 A2 c1 c2 w hx h1 h2 h3
theorem add4_64 (a b c d : Nat) : (((a + b) % 18446744073709551616 + c) % 18446744073709551616 + d) % 18446744073709551616 % 2 ^ 64 = (a + b + c + d) % 2 ^ 64 := by
  simp only [Nat.reducePow]; omega
end Go.Proofs.YtclecmpmohoamaaDoor
