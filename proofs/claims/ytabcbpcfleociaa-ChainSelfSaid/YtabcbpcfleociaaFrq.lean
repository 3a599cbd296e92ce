/- Arguments opened: lists of steps: how long their slices may be. No function of the program. -/
import Derived.Test.YtabcbpcfleociaaFrp
import Derived.Test.YtabcbpcfleociaaPlE
namespace Go.Proofs.Ytabcbpcfleociaa
open Go.ChangeShapes Go.WideShapes Go.ChangeAt Go.RowKit
set_option linter.unusedSimpArgs false
set_option linter.unusedVariables false
theorem dos_reach {H : Type} {enc : TypeId × Value → H} {w : World} {sp : Nat → Bool} {held : Bool} {ts : List TypeId} {ds : List (DataW H)} {j : Nat} {d : DataW H} {p : List MemPlace} {A : Option Addr} {n c : Nat}
    (hsz : (DataW.weightsEach Try.prog ts ds).all (· ≤ reachBytes) = true) (ht : ts[j]? = some 22) (hd : ds[j]? = some d) (h : DataW.Trod enc Try.prog w 0 sp held 22 (.slice A n c) d p) : n ≤ 140737488351232 ∧ Reaches w A n := by
  obtain ⟨fuel, hf⟩ := h
  have hw : ∀ k ∈ d.weights Try.prog 22, k ≤ 140737488351232 := fun k hk => by
    have := List.all_eq_true.1 hsz k (DataW.weights_mem_each ht hd k hk)
    exact of_decide_eq_true this
  have hf' : DataW.trod enc Try.prog w 0 sp held fuel 22 [.slice A n c] = some (d, p) := by simpa [Value.cells] using hf
  exact dos_w hf' hw
end Go.Proofs.Ytabcbpcfleociaa
