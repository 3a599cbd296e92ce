/- The contracts of Width, below, and of the two Places. -/
import Derived.Test.YtghhgjpdpmekhaaCarP
import Derived.Test.YtghhgjpdpmekhaaFlt
import Derived.Test.YtghhgjpdpmekhaaMem
import Derived.Test.YtghhgjpdpmekhaaRows
namespace Go.Proofs.Ytghhgjpdpmekhaa
open Go.RowKit

def C2 (p : Pen) : Value := .complex .f64 (fl p.1) (fl p.2)
theorem C2_one (l : List Pen) : ∀ u ∈ l.map C2, u.oneCell' = true := by
  intro u hu
  obtain ⟨b, _, rfl⟩ := List.mem_map.1 hu
  rfl
def S2 (p : Pen) : List Value := [.int .i64 p.1, .int .i64 p.2]
theorem S2_one (l : List Pen) : ∀ u ∈ l.flatMap S2, u.oneCell' = true := by
  intro u hu
  obtain ⟨b, _, h⟩ := List.mem_flatMap.1 hu
  simp [S2] at h
  rcases h with rfl | rfl <;> rfl
theorem infoC : (Try.prog.info? 40).map (fun i => (i.zero, i.size, i.bytes)) = some (some (.complex .f64 0 0), 1, 16) := by kernel_rfl
theorem infoS : (Try.prog.info? 42).map (fun i => (i.zero, i.size, i.bytes)) = some (some (.agg #[.int .i64 0, .int .i64 0]), 2, 16) := by kernel_rfl

theorem width_any (c : Int) (w : World) : Calls Try.prog 25 #[.int .i32 c] w fun e w' => e = .returned (.int .i64 (wid c)) ∧ w = w' := by
  by_cases h1 : c = 10
  · subst h1
    go_enter Try.func25, Try.ntmps25
    go_wp2
    go_ret
    exact ⟨rfl, rfl⟩
  · have ht : (c == 10) = false := by simpa using h1
    have hw : wid c = if 4352 ≤ c then 2 else 1 := by unfold wid; rw [if_neg h1]
    have Hw := Lib.hid hw
    clear hw h1
    by_cases h2 : 4352 ≤ c
    · go_enter Try.func25, Try.ntmps25
      go_wp2
      go_ret
      exact ⟨by rw [Hw.out, if_pos h2]; rfl, rfl⟩
    · go_enter Try.func25, Try.ntmps25
      go_wp2
      go_ret
      exact ⟨by rw [Hw.out, if_neg (by omega)]; rfl, rfl⟩
theorem refWidth_any (c : Int) (w : World) : Calls Try.prog 26 #[.int .i32 c] w fun e w' => e = .returned (.int .i64 (wid c)) ∧ w = w' := by
  by_cases h1 : c = 10
  · subst h1
    go_enter Try.func26, Try.ntmps26
    go_wp2
    go_ret
    exact ⟨rfl, rfl⟩
  · have ht : (c == 10) = false := by simpa using h1
    have hw : wid c = if 4352 ≤ c then 2 else 1 := by unfold wid; rw [if_neg h1]
    have Hw := Lib.hid hw
    clear hw h1
    by_cases h2 : 4352 ≤ c
    · go_enter Try.func26, Try.ntmps26
      go_wp2
      go_ret
      exact ⟨by rw [Hw.out, if_pos h2]; rfl, rfl⟩
    · go_enter Try.func26, Try.ntmps26
      go_wp2
      go_ret
      exact ⟨by rw [Hw.out, if_neg (by omega)]; rfl, rfl⟩

theorem fl_one : fl 1 = 4607182418800017408 := by decide
theorem fadd1 {P : Program} (t : TypeId) (y : Int) (h0 : 0 ≤ y) (h : y < 1125899906842624) (W : World) :
    (binOp .add t (.float .f64 (fl y)) (.float .f64 4607182418800017408)).run P W = .ok (.float .f64 (fl (y + 1))) W := by
  rw [← fl_one]
  exact run_float_arith W .add t .f64 _ _ _ (fl_add y 1 (by omega) (by omega) (by omega) (by omega) (by omega) (by omega))
theorem cadd {P : Program} (t : TypeId) (x y a b : Int) (hx : -1125899906842624 < x ∧ x < 1125899906842624) (hy : -1125899906842624 < y ∧ y < 1125899906842624) (ha : -1125899906842624 < a ∧ a < 1125899906842624) (hb : -1125899906842624 < b ∧ b < 1125899906842624) (W : World) :
    (binOp .add t (.complex .f64 (fl x) (fl y)) (.complex .f64 (fl a) (fl b))).run P W = .ok (.complex .f64 (fl (x + a)) (fl (y + b))) W := by
  refine run_complex_sum W .add (.inl rfl) t .f64 _ _ _ _ _ _ ?_
  unfold cSumBits
  rw [show floatBits .add .f64 (fl x) (fl a) = some (fl (x + a)) from fl_add x a (by omega) (by omega) (by omega) (by omega) (by omega) (by omega),
    show floatBits .add .f64 (fl y) (fl b) = some (fl (y + b)) from fl_add y b (by omega) (by omega) (by omega) (by omega) (by omega) (by omega)]
  rfl
theorem cadd0 {P : Program} (t : TypeId) (x y a : Int) (hx : -1125899906842624 < x ∧ x < 1125899906842624) (hy : -1125899906842624 < y ∧ y < 1125899906842624) (ha : -1125899906842624 < a ∧ a < 1125899906842624) (W : World) :
    (binOp .add t (.complex .f64 (fl x) (fl y)) (.complex .f64 (fl a) 0)).run P W = .ok (.complex .f64 (fl (x + a)) (fl y)) W := by
  have h := cadd (P := P) t x y a 0 hx hy ha (by omega) W
  rwa [Int.add_zero, fl_zero] at h
theorem ford (a b : Int) (ha : -1125899906842624 < a ∧ a < 1125899906842624) (hb : -1125899906842624 < b ∧ b < 1125899906842624) : FloatKind.f64.format.order (fl a) (fl b) = some (compare a b) :=
  fl_order a b (by omega) (by omega) (by omega) (by omega)
theorem fgt (a b : Int) (ha : -1125899906842624 < a ∧ a < 1125899906842624) (hb : -1125899906842624 < b ∧ b < 1125899906842624) : (FloatKind.f64.format.order (fl a) (fl b) == some .gt) = decide (b < a) := by
  rw [ford a b ha hb]
  rcases Int.lt_trichotomy a b with h | h | h
  · rw [Int.compare_eq_lt.2 h, decide_eq_false (by omega)]; rfl
  · subst h; rw [Int.compare_eq_eq.2 rfl, decide_eq_false (by omega)]; rfl
  · rw [Int.compare_eq_gt.2 h, decide_eq_true h]; rfl

theorem below_any (a : Nat) (y : Int) (w : World) (h0 : 0 ≤ y) (h : y < 1125899906842624) :
    Calls Try.prog 31 #[.complex .f64 a (fl y)] w fun e w' => e = .returned (.complex .f64 (fl 0) (fl (y + 1))) ∧ w = w' := by
  have hadd := fadd1 (P := Try.prog) 46 y h0 h w
  go_enter Try.func31, Try.ntmps31
  go_wp2
  go_ret
  exact ⟨by rw [fl_zero]; rfl, rfl⟩
end Go.Proofs.Ytghhgjpdpmekhaa
