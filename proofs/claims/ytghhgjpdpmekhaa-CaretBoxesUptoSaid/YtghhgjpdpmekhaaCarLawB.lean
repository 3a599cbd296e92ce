/- The law CaretBoxes of chapter 17 holds (its argument of bulk at most 1048576): the call returns true and leaves its argument as it was. -/
import Derived.Test.YtghhgjpdpmekhaaCarH
import Derived.Test.YtghhgjpdpmekhaaFrame
import Derived.Lib.SmallJoins
namespace Go.Proofs.Ytghhgjpdpmekhaa
open Go.ChangeShapes Go.WideShapes Go.ChangeAt Go.RowKit Go.Joins
set_option linter.unusedVariables false

namespace caretBoxes
set_option maxRecDepth 100000 in
theorem contract (H : Type) (enc : TypeId × Value → H) (W : World) (base : Nat) (args : Array Value) (ds gs : List (DataW H)) (before : List MemPlace)
    (hval : ∀ (j : Nat) t v, Try.f12.params[j]? = some t → args[j]? = some v → Value.okWide Try.prog W .any base t v)
    (hW : DataW.Whole enc Try.prog Try.f12.params.toList Rows.caretBoxesSpec.vars false W args.toList ds gs before) (hk : Rows.uptoSmall H (ds ++ gs) = true) :
    Calls Try.prog 12 args W fun e W' => ∃ v, e = .returned v ∧ Rows.caretBoxesSpec.post enc Try.prog Try.f12 false true false false W args v W' := by
  have hW' := hW
  obtain ⟨p, q, hA0, hV, rfl, hfz, hnd⟩ := hW
  have hA : DataW.TrodAll enc Try.prog W 0 (fun _ => true) true Try.f12.params.toList args.toList ds p := hA0
  rw [Try.params12] at hA hval
  obtain ⟨v0, vs0, d0, ds0, p0, q0, hargs, rfl, rfl, h0, r0⟩ := trodAll_cons hA
  obtain ⟨rfl, rfl, rfl⟩ := trodAll_nil r0
  obtain rfl : args = #[v0] := by cases args; simp_all
  obtain ⟨rfl, rfl⟩ := trodVars_none hV
  obtain ⟨c0_0, c0_1, c0_2, c0_3, y0_0, y0_1, y0_2, y0_3, m0, rfl, rfl, rfl, g0_0, g0_1, g0_2, g0_3⟩ := open_agg4 Try.underlying50 (by kernel_rfl) (by kernel_rfl) (hval 0 50 v0 rfl rfl) h0
  obtain ⟨s0_0, e0_0, rfl, w0_0⟩ := DataW.trod_string Try.underlying9 g0_0
  simp at e0_0; subst e0_0
  obtain ⟨x0_1, e0_1, rfl, w0_1⟩ := DataW.trod_int Try.underlying3 g0_1
  simp at e0_1; subst e0_1
  obtain ⟨x0_2, e0_2, rfl, w0_2⟩ := DataW.trod_int Try.underlying3 g0_2
  simp at e0_2; subst e0_2
  obtain ⟨x0_3, e0_3, rfl, w0_3⟩ := DataW.trod_int Try.underlying3 g0_3
  simp at e0_3; subst e0_3
  have hn0 : s0_0.size ≤ 1048576 := by
    have h : Rows.uptoBulkAll _ ≤ 1048576 := of_decide_eq_true hk
    have e : s0_0.data.toList.length = s0_0.size := by rw [Array.length_toList]; rfl
    simp only [List.cons_append, List.nil_append, Rows.uptoBulkAll, Rows.uptoBulk] at h
    omega
  clear hA0
  refine (caretBoxes_walk s0_0 x0_1 x0_2 x0_3 W hn0).mono fun e W' ⟨he, bel⟩ => ?_
  subst he
  exact ⟨_, rfl, _, _, _, [], _, [], hW', trodAll_mk1 (shut_bool Try.underlying4 _), (trodAll_cons_mk (shut_agg4 Try.underlying50 (by kernel_rfl) (by kernel_rfl) (Go.ChangeMaps.shut_string Try.underlying9 w0_0) ⟨_, trod_int_mk 0 Try.underlying3 w0_1⟩ ⟨_, trod_int_mk 0 Try.underlying3 w0_2⟩ ⟨_, trod_int_mk 0 Try.underlying3 w0_3⟩) trodAll_mk0), rfl, bel.frame _, fun h => by cases h⟩

set_option maxRecDepth 100000 in
theorem lifted (os : Os) (started : os.Started) (H : Type) (enc : TypeId × Value → H) (F : Stop.Interp) :
    ReturnsInHanded {} Try.checked os 12 .any ((Rows.OpenSpec.upto Rows.caretBoxesSpec).pre6 enc Try.prog Try.f12 Rows.caretBoxesUptoRow.domain false) (((Rows.OpenSpec.upto Rows.caretBoxesSpec).at F).post enc Try.prog Try.f12 false true false false) := by
  refine returnsInHanded_of_cond (C := Try.checked) (s := Rows.OpenSpec.upto Rows.caretBoxesSpec) (k := Rows.uptoSmall) rfl own started (by kernel_rfl) Try.func12
    (OpenSpec.witness (enc := enc) (C := Try.checked) (s := Rows.OpenSpec.upto Rows.caretBoxesSpec) (k := Rows.uptoSmall) rfl false ⟨#[], #[.agg #[.string ByteArray.empty, .int .i64 0, .int .i64 0, .int .i64 0]], []⟩ 8 (by kernel_rfl) (by kernel_rfl) (by kernel_rfl)
      (x := ([.agg [.lit (.string []), .lit (.int .i64 0), .lit (.int .i64 0), .lit (.int .i64 0)]], [], [])) (by kernel_rfl) rfl (by kernel_rfl)) ?_
  intro W base args ds gs before hval hW _ hk _
  exact contract H enc W base args ds gs before hval hW hk

theorem proved : Rows.CaretBoxesUptoSaid :=
  OpenClaim.holds_of_cond 12 Try.f12 rfl rfl rfl rfl rfl rfl rfl ⟨rfl, rfl, rfl, rfl, rfl⟩ rfl rfl rfl rfl rfl (by kernel_rfl) Try.func12 (by kernel_rfl)
    (of_decide_eq_true (by kernel_rfl)) (by unfold Func.isWrapper; first | (rw [if_pos (by decide +kernel)]; kernel_rfl) | (rw [if_neg (by decide +kernel)]; exact ⟨rfl, rfl⟩))
    (fun os started H enc _ F => lifted os started H enc F)
end caretBoxes

end Go.Proofs.Ytghhgjpdpmekhaa
