/- The law's small: may these steps be gone through? -/
import Derived.Test.YtabcbpcfleociaaPlB
namespace Go.Proofs.Ytabcbpcfleociaa
open Go.RowKit
attribute [local go_sem ↓] Go.wp_at_zero Go.wp_at_succ
set_option linter.unusedSimpArgs false
set_option linter.unusedVariables false
/-- It tells a Boolean; if true, there are no more than 40 steps. -/
def Smalls (n : Nat) (e : Ending) : Prop := ∃ b, e = .returned (.bool b) ∧ (b = true → n ≤ 40)
set_option maxRecDepth 4000 in
set_option maxHeartbeats 2000000 in
theorem small_ (A : Option Addr) (n c : Nat) (ls : List Dn) (w : World) (hr : RdD w w.heap.size A n ls) (hn : n ≤ 140737488351232) :
    Calls Try.prog 14 #[.slice A n c] w fun e w' => Smalls n e ∧ Below w.heap.size w w' := by
  have HR := Lib.hid hr
  clear hr
  go_enter Try.func14, Try.ntmps14
  go_wp2_with fail
  go_loopw [3, 4] (fun x3 x4 wr => ∃ (i : Nat) (z : Int), x3 = .int .i64 z ∧ x4 = .int .i64 i ∧ i ≤ n ∧ i ≤ 41 ∧ Hid (Below w.heap.size w wr)) (fun _ x4 _ => 41 - (intOf x4).toNat)
  case atStart => exact ⟨0, 0, rfl, rfl, by omega, by omega, Below.refl _ _⟩
  case round =>
    obtain ⟨i, z, rfl, rfl, hi, hi41, hb⟩ := hrel
    by_cases hin : i < n ∧ i ≤ 40
    · have hin' : (i : Int) < (n : Int) := by omega
      have h40 : (i : Int) ≤ 40 := by omega
      have hi0 : (0 : Int) ≤ (i : Int) := by omega
      have hin2 : i < n := hin.1
      have e14 : IntKind.i64.wrap ((i : Int) + 1) = ((i + 1 : Nat) : Int) := by rw [IntWalk.i64_in _ (by omega)]; omega
      obtain ⟨x, hx⟩ : ∃ x, ls[i]? = some x := ⟨_, List.getElem?_eq_getElem (by rw [HR.out.1]; exact hin2)⟩
      obtain ⟨b, o, Ap, np, cp, Ab, nb, cb, rfl, hB, hrg, _⟩ := HR.out.2 i x hx
      have c3 : wr.cell? ⟨b, o + i * 6 + 3, none⟩ = some (.slice Ap np cp) := (World.cell?_of_block (a := ⟨b, o + i * 6 + 3, none⟩) (hb.out.block b hB)).trans (hrg 3 _ rfl)
      have c4 : wr.cell? ⟨b, o + i * 6 + 4, none⟩ = some (.slice Ab nb cb) := (World.cell?_of_block (a := ⟨b, o + i * 6 + 4, none⟩) (hb.out.block b hB)).trans (hrg 4 _ rfl)
      clear hrg hx
      go_wp2_with fail
      go_quiet (fail)
      go_wp2_with fail
      go_roundw
      case rel => exact ⟨i + 1, _, rfl, by go_num, hin2, by omega, below_drewN hb.out _⟩
      case measure => simp only [intOf]; omega
    · by_cases h1 : i < n
      · have hin' : (i : Int) < (n : Int) := by omega
        have h40 : ¬ (i : Int) ≤ 40 := by omega
        have h41 : ¬ (n : Int) ≤ 40 := by omega
        go_wp2_with fail
        go_ret
        exact ⟨⟨_, rfl, by simp⟩, hb.out⟩
      · have hin' : ¬ (i : Int) < (n : Int) := by omega
        by_cases h40 : (n : Int) ≤ 40
        · go_wp2_with fail
          go_ret
          exact ⟨⟨_, rfl, fun _ => by omega⟩, hb.out⟩
        · go_wp2_with fail
          go_ret
          exact ⟨⟨_, rfl, by simp⟩, hb.out⟩
end Go.Proofs.Ytabcbpcfleociaa
