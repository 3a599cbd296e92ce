/- A book that is not there; are two heads the same. -/
import Derived.Test.YtabcbpcfleociaaChK
namespace Go.Proofs.Ytabcbpcfleociaa
open Go.RowKit Go.Maps
attribute [local go_sem ↓] Go.wp_at_zero Go.wp_at_succ
set_option linter.unusedSimpArgs false
set_option linter.unusedVariables false
theorem vector_nil (w : World) : Calls Try.prog 36 #[.pointer none] w fun e w' => e = .returned (.slice none 0 0) ∧ Below w.heap.size w w' := by
  go_enter Try.func36, Try.ntmps36
  go_wp2_with fail
  go_loopw [3, 6] (fun x3 x6 wr => ∃ i : Nat, x3 = .slice none 0 0 ∧ x6 = .int .i64 i ∧ i ≤ 5 ∧ Hid (Below w.heap.size w wr)) (fun _ x6 _ => 5 - (intOf x6).toNat)
  case atStart => exact ⟨0, rfl, rfl, by omega, Below.refl _ _⟩
  case round =>
    obtain ⟨i, rfl, rfl, hi, hb⟩ := hrel
    by_cases h5 : i < 5
    · have h5' : (i : Int) < 5 := by omega
      have e8 : IntKind.i64.wrap ((i : Int) + 1) = ((i + 1 : Nat) : Int) := by rw [IntWalk.i64_in _ (by omega)]; omega
      go_wp2_with fail
      refine (head_off none i wr (Or.inl rfl)).mono ?_
      rintro e w1 ⟨rfl, b1⟩
      have B1 := Lib.hid ((hb.out.trans (b1.mono hb.out.size)).alloc (Nat.le_trans hb.out.size b1.size) (.cells #[.int .i64 0, .int .i64 0, .slice none 0 0] 45))
      clear b1
      go_wp2_with fail
      go_roundw
      case rel => exact ⟨i + 1, rfl, by go_num, h5, B1⟩
      case measure => simp only [intOf]; omega
    · have hiS : Hid (i = 5) := (by omega : i = 5)
      have h5' : ¬ (i : Int) < 5 := by omega
      go_wp2_with fail
      go_ret
      exact ⟨rfl, hb.out⟩
theorem clone_nil (w : World) : Calls Try.prog 22 #[.pointer none] w fun e w' => e = .returned (.pointer none) ∧ w' = w := by
  go_enter Try.func22, Try.ntmps22
  go_wp2_with fail
  go_ret
  exact ⟨rfl, rfl⟩
theorem put_nil (A : Option Addr) (n c : Nat) (l : List UInt8) (w : World) (hr : Rd w w.heap.size 1 A n (l.map B8)) (hn : n ≤ 1000000) : Calls Try.prog 38 #[.pointer none, .slice A n c] w fun e w' => ∃ A' c', e = .returned (.slice A' n c') ∧ OwnS w' w.heap.size A' n c' (l.map B8) ∧ Below w.heap.size w w' := by
  have HR := Lib.hid hr
  go_enter Try.func38, Try.ntmps38
  go_wp2_with (at_builtin
               refine wpList_app rfl (.tmp 10) (.tmp 11) 38 rfl w.heap.size 5 1 1 (.int .u8 0) Try.underlying38 infoB rfl (by decide) (.slice (some ⟨w.heap.size, 0, none⟩) 0 0) 0 [] rfl (World.ownsRow_lit w #[] 0 (Nat.le_refl _) (by simp [maxLen]) rfl) w.heap.size A n c _ rfl (HR.out.alloc (Nat.le_refl _) _) (oneB l) (by simp only [maxLen]; omega) (by omega) (by simp) ?_
               intro A2 c2 w2 h2 hg2 _
               simp only [Nat.zero_add, List.nil_append] at h2
               have O2 := Lib.hid (OwnS.of_own h2)
               have B2 : Hid (Below w.heap.size w w2) := ((Below.refl _ _).alloc (Nat.le_refl _) _).grown hg2 (by simp) (fun k hk => by simp [Value.ownBlock] at hk; omega)
               clear h2 hg2)
  go_ret
  exact ⟨A2, c2, rfl, O2.out, B2.out⟩
theorem compare_nil (A : Option Addr) (n c : Nat) (w : World) : Calls Try.prog 42 #[.pointer none, .slice A n c] w fun e w' => e = .returned (.tuple #[.agg #[.bool false, .bool false], .slice none 0 0, .int .i64 1]) ∧ Below w.heap.size w w' := by
  go_enter Try.func42, Try.ntmps42
  go_wp2_with fail
  go_step3
  go_wp2_with fail
  rw [Exit.noGoto_ret]
  refine bodyPost_ret (v := .tuple #[.agg #[.bool false, .bool false], .slice none 0 0, .int .i64 1]) ?_ rfl ⟨rfl, ?_⟩
  · simp [results, Try.results42, go_sem]
  · go_grown
theorem sameHead_ (a n : Int) (A : Option Addr) (m c : Nat) (D : List UInt8) (a' n' : Int) (A' : Option Addr) (m' c' : Nat) (D' : List UInt8) (w : World) (hr : Rd w w.heap.size 1 A m (D.map B8)) (hr' : Rd w w.heap.size 1 A' m' (D'.map B8)) :
    Calls Try.prog 32 #[.agg #[.int .i64 a, .int .i64 n, .slice A m c], .agg #[.int .i64 a', .int .i64 n', .slice A' m' c']] w fun e w' => e = .returned (.bool (decide (a = a' ∧ n = n' ∧ D = D'))) ∧ Below w.heap.size w w' := by
  obtain ⟨W, hW⟩ : ∃ W, Hid (W = (w.alloc (.cells #[.int .i64 a, .int .i64 n, .slice A m c] 45)).alloc (.cells #[.int .i64 a', .int .i64 n', .slice A' m' c'] 45)) := ⟨_, Lib.hid rfl⟩
  have BW : Hid (Below w.heap.size w W) := by rw [hW.out]; exact ((Below.refl _ _).alloc (Nat.le_refl _) _).alloc (by rw [szAlloc]; omega) _
  have hc1 := conv8 W A m c D (hr.to BW.out)
  have hc2 := conv8 W A' m' c' D' (hr'.to BW.out)
  rw [hW.out] at hc1 hc2
  clear hr hr'
  by_cases h1 : a = a'
  · subst h1
    by_cases h2 : n = n'
    · subst h2
      go_enter Try.func32, Try.ntmps32
      go_wp2_with fail
      go_ret
      refine ⟨?_, by rw [← hW.out]; exact BW.out⟩
      show Ending.returned (Value.bool ((str D).toList == (str D').toList)) = _
      rw [eq_str]
      simp
    · have h2' : (n == n') = false := by simp [h2]
      go_enter Try.func32, Try.ntmps32
      go_wp2_with fail
      go_ret
      refine ⟨?_, by rw [← hW.out]; exact BW.out⟩
      simp [h2]
  · have h1' : (a == a') = false := by simp [h1]
    go_enter Try.func32, Try.ntmps32
    go_wp2_with fail
    go_ret
    refine ⟨?_, by rw [← hW.out]; exact BW.out⟩
    simp [h1]
end Go.Proofs.Ytabcbpcfleociaa
