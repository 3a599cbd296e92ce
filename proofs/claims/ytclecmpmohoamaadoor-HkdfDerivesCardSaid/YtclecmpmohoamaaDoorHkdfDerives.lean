/- The law HkdfDerives holds for every input: bytes derived of any key are the document's, or they are too many. The tied card: condition: the package variables start as the program's text lays them (tied). -/
import Derived.Test.YtclecmpmohoamaaDoorHkaI
import Derived.Test.YtclecmpmohoamaaDoorShaW
import Derived.Test.YtclecmpmohoamaaDoorTie
import Derived.Test.YtclecmpmohoamaaDoorCards
namespace Go.Proofs.YtclecmpmohoamaaDoor
open Go.ChangeShapes Go.WideShapes Go.ChangeAt Go.RowKit
set_option linter.unusedVariables false
namespace hkdfDerives
set_option maxRecDepth 100000 in
theorem lifted (os : Os) (started : os.Started) (H : Type) (enc : TypeId × Value → H) :
    ReturnsInHanded {} Tryd.checked os 14 .any (fun w args => (Rows.hkdfDerivesSpec.pre enc Tryd.prog Tryd.f14 Rows.hkdfDerivesRow.domain false w args ∧ laidMetH Tryd.prog laid2 w) ∧ sizedMet enc Tryd.prog Tryd.f14 (OpenSpec.ofChange Rows.hkdfDerivesSpec) false w args) (Rows.hkdfDerivesSpec.post enc Tryd.prog Tryd.f14 false true false false) := by
  refine returnsInHanded_of_change_and (C := Tryd.checked) (X := fun w _ => laidMetH Tryd.prog laid2 w) (fun _ _ _ hh h => h.of_heap hh) own started (by kernel_rfl) Tryd.func14
    (ChangeSpec.witness_shaped (enc := enc) (C := Tryd.checked) (os := os) (X := fun w _ => laidMetH Tryd.prog laid2 w) false (World.doorLaid Tryd.prog 37 os) #[.agg #[.slice none 0 0, .slice none 0 0, .slice none 0 0, .int .i64 0]] 8 rfl (World.shaped_of_RefB (by kernel_rfl) (by kernel_rfl)) (by kernel_rfl) (by kernel_rfl) (by kernel_rfl) (door2 os _)) ?_
  intro W base args ds gs before hval0 hW hcnd hsz0 hLaid _
  have hsz : (DataW.weightsEach Tryd.prog (Tryd.f14.params.toList ++ Rows.hkdfDerivesSpec.plain.varTypes Tryd.prog) (ds ++ gs)).all (· ≤ reachBytes) = true := hsz0
  have hval : ∀ (j : Nat) t v, Tryd.f14.params[j]? = some t → args[j]? = some v → Value.okWide Tryd.prog W .any base t v := hval0
  have hW' := hW
  obtain ⟨p, q, hA0, hV, rfl, hfz, hnd⟩ := hW
  have hA : DataW.TrodAll enc Tryd.prog W 0 (fun _ => true) true Tryd.f14.params.toList args.toList ds p := hA0
  rw [Tryd.params14] at hA hval hsz
  obtain ⟨v0, vs0, d0, ds0, p0, q0, hargs, rfl, rfl, h0, r0⟩ := trodAll_cons hA
  obtain ⟨rfl, rfl, rfl⟩ := trodAll_nil r0
  obtain rfl : args = #[v0] := by cases args; simp_all
  obtain ⟨rfl, rfl⟩ := trodVars_none hV
  have k0 := h0
  have lt0 : ∀ x ∈ p0, x.block < W.heap.size := by obtain ⟨m, hm⟩ := k0; exact DataW.trod_lt m _ _ _ hm
  obtain ⟨u0, u1, u2, u3, y0, y1, y2, y3, m0, rfl, rfl, rfl, g0, g1, g2, g3⟩ := Go.Joins.open_agg4 Tryd.underlying44 (by kernel_rfl) (by kernel_rfl) (hval 0 44 v0 rfl rfl) h0
  obtain ⟨A0, n0, c0, l0, rfl, hr0, hc0⟩ := field_bytes Tryd.underlying22 Tryd.underlying5 (by kernel_rfl) g0
  obtain ⟨A1, n1, c1, l1, rfl, hr1, hc1⟩ := field_bytes Tryd.underlying22 Tryd.underlying5 (by kernel_rfl) g1
  obtain ⟨A2, n2, c2, l2, rfl, hr2, hc2⟩ := field_bytes Tryd.underlying22 Tryd.underlying5 (by kernel_rfl) g2
  obtain ⟨x3, e3, _, w3⟩ := DataW.trod_int Tryd.underlying3 g3
  simp at e3; subst e3
  clear hA0 hval0
  refine (hkdfDerives_walk A0 n0 c0 l0 A1 n1 c1 l1 A2 n2 c2 l2 x3 W hr0 hc0 hr1 hc1 hr2 hc2 w3 (of_laid2 hLaid)).mono fun e W' ⟨he, bel⟩ => ?_
  subst he
  exact ⟨_, rfl, _, _, _, [], _, [], hW', trodAll_mk1 (shut_bool Tryd.underlying4 _), (trodAll_cons_mk (Below.trod laidOut (by kernel_rfl) (of_decide_eq_true (by kernel_rfl)) k0 bel lt0) trodAll_mk0), rfl, bel.frame _, fun h => by cases h⟩

theorem over : Rows.hkdfDerivesRow.holds Tryd.pinned (OpenSpec.ofChange Rows.hkdfDerivesSpec) :=
  OpenClaim.holds_of_wide 14 Tryd.f14 rfl rfl rfl rfl rfl rfl rfl ⟨rfl, rfl, rfl, rfl, rfl⟩ rfl rfl rfl rfl rfl (by kernel_rfl) Tryd.func14 (by kernel_rfl)
    (of_decide_eq_true (by kernel_rfl)) (by unfold Func.isWrapper; first | (rw [if_pos (by decide +kernel)]; kernel_rfl) | (rw [if_neg (by decide +kernel)]; exact ⟨rfl, rfl⟩))
    (fun os started H enc _ => lifted os started H enc)
theorem proved : Rows.HkdfDerivesCardSaid :=
  Claim7.holds_tied_plain_at .later [] [.data, .data] true (true, "0c5cab817c13cb487e46db62f477a8bfa4e2505f41e5e6e9d6a242ae7ceb3d09") false
    over (fun _ h => by cases h) (by kernel_rfl) (fun _ h => by cases h) hkdfDerives_row_tie rfl ⟨rfl, rfl⟩ (by kernel_rfl) rfl
    (fun f fn hf hfn => by
      obtain rfl : f = 14 := Option.some.inj ((show Tryd.prog.funcNamed "sealwax/sealwaxlaw07.HkdfDerives" = some 14 by kernel_rfl).symm.trans hf) |>.symm
      obtain rfl : fn = Tryd.f14 := (Option.some.inj (Tryd.func14.symm.trans hfn)).symm
      exact ⟨by kernel_rfl, fun j t ht => by
        rw [Tryd.params14] at ht
        rcases j with _ | j
        · obtain rfl := Option.some.inj ht; kernel_rfl
        · simp at ht⟩)
    (by kernel_rfl)
end hkdfDerives
#print axioms hkdfDerives.proved
end Go.Proofs.YtclecmpmohoamaaDoor
