/- The contracts of the two Bucket functions: what they return, for every length. -/
import Derived.Test.YtghhgjpdpmekhaaPadP
import Derived.Test.YtghhgjpdpmekhaaRows
import Derived.WalkSpells
import Derived.WalkLawsBesides
import Derived.Handy
namespace Go.Proofs.Ytghhgjpdpmekhaa
open Go.RowKit

theorem bEq (n a b : Int) (h : (n < 0 ∧ a = 0 ∧ b = 1) ∨ (0 ≤ n ∧ n < 64 ∧ a = 64 ∧ b = 0) ∨ (64 ≤ n ∧ n < 128 ∧ a = 128 ∧ b = 0) ∨ (128 ≤ n ∧ n < 256 ∧ a = 256 ∧ b = 0) ∨ (256 ≤ n ∧ n < 512 ∧ a = 512 ∧ b = 0) ∨
    (512 ≤ n ∧ n < 1024 ∧ a = 1024 ∧ b = 0) ∨ (1024 ≤ n ∧ n < 2048 ∧ a = 2048 ∧ b = 0) ∨ (2048 ≤ n ∧ n < 4096 ∧ a = 4096 ∧ b = 0) ∨ (4096 ≤ n ∧ a = 0 ∧ b = 2)) :
    Ending.returned (.tuple #[.int .i64 a, .int .i64 b]) = .returned (.tuple #[.int .i64 (bSize n), .int .i64 (bErr n)]) := by
  have h1 : a = bSize n := by unfold bSize; (repeat' split) <;> omega
  have h2 : b = bErr n := by unfold bErr; (repeat' split) <;> omega
  rw [h1, h2]

theorem ix0 (w : World) : (Instr.index 56 (.agg #[.int .i64 64, .int .i64 128, .int .i64 256, .int .i64 512, .int .i64 1024, .int .i64 2048, .int .i64 4096]) (.int .i64 0)).run Try.prog w = .ok (.int .i64 64) w := by kernel_rfl
theorem ix1 (w : World) : (Instr.index 56 (.agg #[.int .i64 64, .int .i64 128, .int .i64 256, .int .i64 512, .int .i64 1024, .int .i64 2048, .int .i64 4096]) (.int .i64 1)).run Try.prog w = .ok (.int .i64 128) w := by kernel_rfl
theorem ix2 (w : World) : (Instr.index 56 (.agg #[.int .i64 64, .int .i64 128, .int .i64 256, .int .i64 512, .int .i64 1024, .int .i64 2048, .int .i64 4096]) (.int .i64 2)).run Try.prog w = .ok (.int .i64 256) w := by kernel_rfl
theorem ix3 (w : World) : (Instr.index 56 (.agg #[.int .i64 64, .int .i64 128, .int .i64 256, .int .i64 512, .int .i64 1024, .int .i64 2048, .int .i64 4096]) (.int .i64 3)).run Try.prog w = .ok (.int .i64 512) w := by kernel_rfl
theorem ix4 (w : World) : (Instr.index 56 (.agg #[.int .i64 64, .int .i64 128, .int .i64 256, .int .i64 512, .int .i64 1024, .int .i64 2048, .int .i64 4096]) (.int .i64 4)).run Try.prog w = .ok (.int .i64 1024) w := by kernel_rfl
theorem ix5 (w : World) : (Instr.index 56 (.agg #[.int .i64 64, .int .i64 128, .int .i64 256, .int .i64 512, .int .i64 1024, .int .i64 2048, .int .i64 4096]) (.int .i64 5)).run Try.prog w = .ok (.int .i64 2048) w := by kernel_rfl
theorem ix6 (w : World) : (Instr.index 56 (.agg #[.int .i64 64, .int .i64 128, .int .i64 256, .int .i64 512, .int .i64 1024, .int .i64 2048, .int .i64 4096]) (.int .i64 6)).run Try.prog w = .ok (.int .i64 4096) w := by kernel_rfl

set_option maxHeartbeats 2000000 in
theorem padBucket_any (n : Int) (w : World) : Calls Try.prog 13 #[.int .i64 n] w fun e w' => e = .returned (.tuple #[.int .i64 (bSize n), .int .i64 (bErr n)]) ∧ w = w' := by
  rcases (show n < 0 ∨ (0 ≤ n ∧ n < 64) ∨ (64 ≤ n ∧ n < 128) ∨ (128 ≤ n ∧ n < 256) ∨ (256 ≤ n ∧ n < 512) ∨ (512 ≤ n ∧ n < 1024) ∨ (1024 ≤ n ∧ n < 2048) ∨ (2048 ≤ n ∧ n < 4096) ∨ 4096 ≤ n from by omega)
    with h | ⟨h, h'⟩ | ⟨h, h'⟩ | ⟨h, h'⟩ | ⟨h, h'⟩ | ⟨h, h'⟩ | ⟨h, h'⟩ | ⟨h, h'⟩ | h
  · go_enter Try.func13, Try.ntmps13
    go_wp2
    go_ret2
    exact ⟨bEq _ _ _ (by omega), rfl⟩
  all_goals
    have i0 := ix0; have i1 := ix1; have i2 := ix2; have i3 := ix3; have i4 := ix4; have i5 := ix5; have i6 := ix6
    go_enter Try.func13, Try.ntmps13
    go_wp2
    go_rounds 8
    go_ret2
    exact ⟨bEq _ _ _ (by omega), rfl⟩

set_option maxHeartbeats 2000000 in
theorem refBucket_any (n : Int) (w : World) : Calls Try.prog 14 #[.int .i64 n] w fun e w' => e = .returned (.tuple #[.int .i64 (bSize n), .int .i64 (bErr n)]) ∧ w = w' := by
  rcases (show n < 0 ∨ (0 ≤ n ∧ n < 64) ∨ (64 ≤ n ∧ n < 128) ∨ (128 ≤ n ∧ n < 256) ∨ (256 ≤ n ∧ n < 512) ∨ (512 ≤ n ∧ n < 1024) ∨ (1024 ≤ n ∧ n < 2048) ∨ (2048 ≤ n ∧ n < 4096) ∨ 4096 ≤ n from by omega)
    with h | ⟨h, h'⟩ | ⟨h, h'⟩ | ⟨h, h'⟩ | ⟨h, h'⟩ | ⟨h, h'⟩ | ⟨h, h'⟩ | ⟨h, h'⟩ | h
  · go_enter Try.func14, Try.ntmps14
    go_wp2
    go_ret2
    exact ⟨bEq _ _ _ (by omega), rfl⟩
  · go_enter Try.func14, Try.ntmps14
    go_wp2
    go_rounds 8
    go_ret2
    exact ⟨bEq _ _ _ (by omega), rfl⟩
  rotate_right
  · go_enter Try.func14, Try.ntmps14
    go_wp2
    go_ret2
    exact ⟨bEq _ _ _ (by omega), rfl⟩
  all_goals
    go_enter Try.func14, Try.ntmps14
    go_wp2
    go_rounds 8
    go_ret2
    exact ⟨bEq _ _ _ (by omega), rfl⟩
end Go.Proofs.Ytghhgjpdpmekhaa
