/- May a link be: the program's answer. -/
import Derived.Test.YtabcbpcfleociaaChQ
import Derived.Test.YtabcbpcfleociaaSuiF
namespace Go.Proofs.Ytabcbpcfleociaa
open Go.RowKit
attribute [local go_sem ↓] Go.wp_at_zero Go.wp_at_succ
set_option linter.unusedSimpArgs false
set_option linter.unusedVariables false
def rightN (au sq ep : Int) (n m : Nat) : Prop := (0 ≤ au ∧ au < 5 ∧ 1 ≤ sq ∧ sq ≤ 1048576 ∧ 1 ≤ ep ∧ ep ≤ 65536) ∧ m = 32 ∧ (sq = 1 ∧ n = 0 ∨ n = 32)
instance (au sq ep : Int) (n m : Nat) : Decidable (rightN au sq ep n m) := by unfold rightN; infer_instance
set_option maxHeartbeats 2000000 in
theorem right_ (au sq ep : Int) (A : Option Addr) (n c : Nat) (B : Option Addr) (m d : Nat) (w : World) :
    Calls Try.prog 28 #[.agg #[.int .i64 au, .int .i64 sq, .int .i64 ep, .slice A n c, .slice B m d]] w fun e w' => e = .returned (.bool (decide (rightN au sq ep n m))) ∧ Below w.heap.size w w' := by
  have hb : Below w.heap.size w (w.alloc (.cells #[.int .i64 au, .int .i64 sq, .int .i64 ep, .slice A n c, .slice B m d] 40)) := (Below.refl _ _).alloc (Nat.le_refl _) _
  go_enter Try.func28, Try.ntmps28
  go_wp2
  all_goals go_ret
  all_goals
    refine ⟨congrArg (fun b => Ending.returned (Value.bool b)) ?_, (Below.refl _ _).alloc (Nat.le_refl _) _⟩
    refine Bool.eq_iff_iff.2 ?_
    rw [decide_eq_true_iff]
    unfold rightN
    simp [*] <;> omega
end Go.Proofs.Ytabcbpcfleociaa
