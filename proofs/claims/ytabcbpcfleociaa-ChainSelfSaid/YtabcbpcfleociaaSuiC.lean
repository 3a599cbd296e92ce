/- The name of a hash's term. (Printed by gen_suc.py.) -/
import Derived.Test.YtabcbpcfleociaaSuiB
import Derived.Test.YtabcbpcfleociaaReg
namespace Go.Proofs.Ytabcbpcfleociaa
open Go.RowKit
attribute [local go_sem ↓] Go.wp_at_zero Go.wp_at_succ
set_option linter.unusedSimpArgs false
set_option linter.unusedVariables false
theorem own104 (w : World) : (w.alloc (.cells #[.int .u8 104] 5)).ownsRow w.heap.size 5 1 (.slice (some ⟨w.heap.size, 0, none⟩) 1 1) 1 (([104] : List UInt8).map B8) :=
  ⟨rfl, .inr ⟨w.heap.size, 1, #[.int .u8 104], rfl, Nat.le_refl _, heap_alloc_new w _, Nat.le_refl _, by simp [maxLen], rfl, rfl⟩⟩
theorem own_base {w : World} {b b' : Nat} {e : TypeId} {size : Nat} {v : Value} {n : Nat} {xs : List Value} (h : w.ownsRow b e size v n xs) (hb : b' ≤ b) : w.ownsRow b' e size v n xs := by
  rcases h with ⟨h1, h2 | ⟨g, cap, cur, e1, e2, e3⟩⟩
  · exact ⟨h1, .inl h2⟩
  · exact ⟨h1, .inr ⟨g, cap, cur, e1, Nat.le_trans hb e2, e3⟩⟩
theorem own_below {w w' : World} {b : Nat} {e : TypeId} {size : Nat} {v : Value} {n : Nat} {xs : List Value} (h : w.ownsRow b e size v n xs) (hb : Below w.heap.size w w') : w'.ownsRow b e size v n xs :=
  h.kept (row := none) ⟨hb.os, hb.tape, hb.output, hb.size, fun k hk _ => hb.block k hk⟩ (by cases v.ownBlock <;> simp)
theorem below_grown {w w' : World} {row : Option Nat} {B : Nat} (h : w.grownBy w' row) (hB : ∀ r, row = some r → B ≤ r) (hs : B ≤ w.heap.size) : Below B w w' :=
  ⟨h.os, h.tape, h.output, h.size, fun k hk => h.block k (Nat.lt_of_lt_of_le hk hs) (fun e => absurd (hB k e.symm) (by omega))⟩
theorem hname_app (k : Nat) : ([104] : List UInt8).map B8 ++ (eightL k).map B8 ++ List.replicate 23 (Value.int .u8 0) = (hname k).map B8 := by
  simp [hname, B8]
set_option maxRecDepth 20000 in
set_option maxHeartbeats 2000000 in
theorem called_ (Q : Option Addr) (n c k : Nat) (w : World) (hk : k < 4611686018427387904) :
    Calls Try.prog 102 #[.agg #[.int .u8 104, .slice Q n c], .int .i64 k] w fun e w' => ∃ A c', e = .returned (.slice A 32 c') ∧ OwnS w' w.heap.size A 32 c' ((hname k).map B8) ∧ Below w.heap.size w w' := by
  obtain ⟨Y, hY⟩ : ∃ Y, Hid (Y = w.alloc (.cells #[.int .u8 104, .slice Q n c] 68)) := ⟨_, Lib.hid rfl⟩
  have hb0 : Below w.heap.size w Y := by rw [hY.out]; exact (Below.refl _ _).alloc (Nat.le_refl _) _
  have hsW : Y.heap.size = w.heap.size + 1 := by rw [hY.out]; exact szAlloc _ _
  have hrg : Y.rangeAt w.heap.size 0 [.int .u8 104, .slice Q n c] := by
    rw [hY.out]
    intro j v hj
    refine cell_blk (heap_alloc_new w _) _ ?_
    rw [Nat.zero_add, ← hj]; simp
  have HB0 := Lib.hid hb0
  have HRG := Lib.hid hrg
  have HSW := Lib.hid hsW
  obtain ⟨G, hG⟩ : ∃ g, Hid (g = w.heap.size) := ⟨_, Lib.hid rfl⟩
  have hGW : G < Y.heap.size := by rw [hG.out, hsW]; exact Nat.lt_succ_self _
  rw [← hG.out] at HRG
  clear hb0 hrg hsW
  go_enter Try.func102, Try.ntmps102
  go_wp2_with fail
  rw [← hY.out, ← hG.out]
  have hB : Hid (Below Y.heap.size Y Y) := Below.refl _ _
  obtain ⟨X, hX⟩ : ∃ W, Hid (W = Y.drew) := ⟨_, Lib.hid rfl⟩
  have dX : Below Y.heap.size Y X := by rw [hX.out]; exact below_drew (Below.refl _ _)
  have HX := Lib.hid (range_keep HRG.out dX hGW)
  have ho8 := Lib.hid (oneB (eightL k))
  refine wp_region_noPanic ?_
  refine wp_region_held_drew (S := fun w' => Below X.heap.size X w') (by kernel_rfl) (by rw [hX.out]; exact Below.refl _ _) (fun hS => ?_)
  rw [← hX.out]
  clear hS
  have hS : Below X.heap.size X X := Below.refl _ _
  refine wpAnyH_take (i := 0) (v := ?v0) rfl (by kernel_rfl) (by kernel_rfl) (by kernel_rfl) (fun _ _ _ h => h) (Or.inl ⟨by rfl, ?hy0⟩) hS ?rest0
  case hy0 => (intro w hSw; go_simp; first | done | with_reducible rfl)
  try simp only [Act.put, List.getElem_toArray, List.getElem_cons_zero, List.getElem_cons_succ, List.setIfInBounds_toArray, List.set_cons_zero, List.set_cons_succ]
  refine wpAnyH_take (i := 1) (v := .int .u8 104) rfl (by kernel_rfl) (by kernel_rfl) (by kernel_rfl) (fun _ _ _ h => h) (Or.inl ⟨by rfl, ?hy1⟩) hS ?rest1
  case hy1 => (intro w' hSw; have hc := range_keep HX.out hSw (Nat.lt_of_lt_of_le hGW dX.size) 0 _ rfl; go_simp; first | done | with_reducible rfl)
  try simp only [Act.put, List.getElem_toArray, List.getElem_cons_zero, List.getElem_cons_succ, List.setIfInBounds_toArray, List.set_cons_zero, List.set_cons_succ]
  refine wpAnyH_take (i := 3) (v := ?v3) rfl (by kernel_rfl) (by kernel_rfl) (by kernel_rfl) (fun _ _ _ h => h) (Or.inl ⟨by rfl, ?hy3⟩) hS ?rest3
  case hy3 => (intro w hSw; go_simp; first | done | with_reducible rfl)
  try simp only [Act.put, List.getElem_toArray, List.getElem_cons_zero, List.getElem_cons_succ, List.setIfInBounds_toArray, List.set_cons_zero, List.set_cons_succ]
  refine wpAnyH_ready (rs := [2, 4]) (by kernel_rfl) (by simp) ?_
  refine AllReadyH.cons rfl (fun K hK => ?_) (AllReadyH.cons rfl (fun K hK => ?_) AllReadyH.nil)
  · go_simp
    have p13 := (Below.refl X.heap.size X).alloc (Nat.le_refl _) (.cells #[.int .u8 104] 5)
    refine hK.out _ _ p13 ?_
    intro hS
    clear hK K
    try simp only [Act.put, List.getElem_toArray, List.getElem_cons_zero, List.getElem_cons_succ, List.setIfInBounds_toArray, List.set_cons_zero, List.set_cons_succ]
    have l8 := Lib.hid (own104 X)
    obtain ⟨U, hU⟩ : ∃ U, Hid (U = X.alloc (.cells #[.int .u8 104] 5)) := ⟨_, Lib.hid rfl⟩
    rw [← hU.out] at p13 l8 ⊢
    clear hS
    refine wpAnyH_ready (rs := [4]) (by kernel_rfl) (by simp) ?_
    refine AllReadyH.cons rfl (fun K hK => ?_) AllReadyH.nil
    go_simp
    refine (eight_ k U hk).mono ?_
    rintro e V ⟨A9, c9, rfl, o9, p9⟩
    have P := Lib.hid (p13.trans (p9.mono p13.size))
    have q9 := Lib.hid o9.rd
    have q8 := Lib.hid (own_below l8.out p9)
    clear o9 l8
    go_wp2_with fail
    refine hK.out _ _ P.out ?_
    intro hS
    clear hK K
    try simp only [Act.put, List.getElem_toArray, List.getElem_cons_zero, List.getElem_cons_succ, List.setIfInBounds_toArray, List.set_cons_zero, List.set_cons_succ]
    refine wpAnyH_ready (rs := [5]) (by kernel_rfl) (by simp) ?_
    refine AllReadyH.cons rfl (fun K hK => ?_) AllReadyH.nil
    refine step_app (.tmp 8) (.tmp 10) 38 rfl rfl X.heap.size 5 1 1 (.int .u8 0) Try.underlying38 infoB rfl (by decide) _ 1 _ rfl q8.out _ A9 8 c9 _ rfl q9.out ho8.out (by simp [maxLen]) (by decide) P.out.size ?_
    intro A' c' u' o' g' _
    have P' := Lib.hid (P.out.trans (below_grown g' (own_block_ge q8.out) P.out.size))
    refine hK.out _ _ P'.out ?_
    intro hS
    clear hK K
    try simp only [Act.put, List.getElem_toArray, List.getElem_cons_zero, List.getElem_cons_succ, List.setIfInBounds_toArray, List.set_cons_zero, List.set_cons_succ]
    refine wpAnyH_take (i := 6) (v := ?va6) rfl (by kernel_rfl) (by kernel_rfl) (by kernel_rfl) (fun _ _ _ h => h) (Or.inl ⟨by rfl, ?hya6⟩) hS ?resta6
    case hya6 => (intro w hSw; go_simp; first | done | with_reducible rfl)
    try simp only [Act.put, List.getElem_toArray, List.getElem_cons_zero, List.getElem_cons_succ, List.setIfInBounds_toArray, List.set_cons_zero, List.set_cons_succ]
    refine wpAnyH_done (by kernel_rfl) (NoPanic.normal ?_) _
    have O := Lib.hid (own_base o' dX.size)
    have HU := Lib.hid (range_keep HX.out P'.out (Nat.lt_of_lt_of_le hGW dX.size))
    have hc0 := HU.out 0 _ rfl
    have hc1 := HU.out 1 _ rfl
    have PW := Lib.hid (dX.trans (P'.out.mono dX.size))
    clear o' g' hS
    go_wp2_with fail
    refine (size_ Q n c u').mono ?_
    rintro e u2 ⟨rfl, b2⟩
    clear hc0 hc1
    have O2 := Lib.hid (own_below O.out b2)
    have PW2 := Lib.hid (PW.out.trans (b2.mono PW.out.size))
    go_wp2_with (at_builtin
                 refine wpList_app_zeros rfl (.tmp 12) (.tmp 15) 38 3 rfl Y.heap.size 5 Try.underlying38 Try.underlying3 9 Try.underlying9 infoB A' (1 + 8) c' _ rfl O2.out 23 rfl (by simp [maxLen]) (by decide) PW2.out.size ?_
                 intro A3 c3 u3 o3 g3
                 have B3 := Lib.hid (PW2.out.trans (below_grown g3 (own_block_ge O2.out) PW2.out.size))
                 rw [hname_app] at o3
                 have O3 := Lib.hid (OwnS.of_own o3)
                 clear o3 g3)
    go_ret
    exact ⟨A3, c3, rfl, O3.out.mono (Nat.le_of_lt (hG.out ▸ hGW)), HB0.out.trans (B3.out.mono HB0.out.size)⟩
  · go_simp
    refine (eight_ k X hk).mono ?_
    rintro e U ⟨A9, c9, rfl, o9, p9⟩
    go_wp2_with fail
    refine hK.out _ _ p9 ?_
    intro hS
    clear hK K
    try simp only [Act.put, List.getElem_toArray, List.getElem_cons_zero, List.getElem_cons_succ, List.setIfInBounds_toArray, List.set_cons_zero, List.set_cons_succ]
    refine wpAnyH_ready (rs := [2]) (by kernel_rfl) (by simp) ?_
    refine AllReadyH.cons rfl (fun K hK => ?_) AllReadyH.nil
    go_simp
    have P := Lib.hid (p9.trans ((Below.refl X.heap.size U).alloc p9.size (.cells #[.int .u8 104] 5)))
    refine hK.out _ _ P.out ?_
    intro hS
    clear hK K
    try simp only [Act.put, List.getElem_toArray, List.getElem_cons_zero, List.getElem_cons_succ, List.setIfInBounds_toArray, List.set_cons_zero, List.set_cons_succ]
    have q8 := Lib.hid (own_base (own104 U) p9.size)
    have q9 := Lib.hid (o9.rd.at0 ((Below.refl U.heap.size U).alloc (Nat.le_refl _) (.cells #[.int .u8 104] 5)) (by rw [szAlloc]; omega))
    obtain ⟨V, hV⟩ : ∃ V, Hid (V = U.alloc (.cells #[.int .u8 104] 5)) := ⟨_, Lib.hid rfl⟩
    rw [← hV.out] at P q8 q9 ⊢
    clear o9
    refine wpAnyH_ready (rs := [5]) (by kernel_rfl) (by simp) ?_
    refine AllReadyH.cons rfl (fun K hK => ?_) AllReadyH.nil
    refine step_app (.tmp 8) (.tmp 10) 38 rfl rfl X.heap.size 5 1 1 (.int .u8 0) Try.underlying38 infoB rfl (by decide) _ 1 _ rfl q8.out _ A9 8 c9 _ rfl q9.out ho8.out (by simp [maxLen]) (by decide) P.out.size ?_
    intro A' c' u' o' g' _
    have P' := Lib.hid (P.out.trans (below_grown g' (own_block_ge q8.out) P.out.size))
    refine hK.out _ _ P'.out ?_
    intro hS
    clear hK K
    try simp only [Act.put, List.getElem_toArray, List.getElem_cons_zero, List.getElem_cons_succ, List.setIfInBounds_toArray, List.set_cons_zero, List.set_cons_succ]
    refine wpAnyH_take (i := 6) (v := ?vb6) rfl (by kernel_rfl) (by kernel_rfl) (by kernel_rfl) (fun _ _ _ h => h) (Or.inl ⟨by rfl, ?hyb6⟩) hS ?restb6
    case hyb6 => (intro w hSw; go_simp; first | done | with_reducible rfl)
    try simp only [Act.put, List.getElem_toArray, List.getElem_cons_zero, List.getElem_cons_succ, List.setIfInBounds_toArray, List.set_cons_zero, List.set_cons_succ]
    refine wpAnyH_done (by kernel_rfl) (NoPanic.normal ?_) _
    have O := Lib.hid (own_base o' dX.size)
    have HU := Lib.hid (range_keep HX.out P'.out (Nat.lt_of_lt_of_le hGW dX.size))
    have hc0 := HU.out 0 _ rfl
    have hc1 := HU.out 1 _ rfl
    have PW := Lib.hid (dX.trans (P'.out.mono dX.size))
    clear o' g' hS
    go_wp2_with fail
    refine (size_ Q n c u').mono ?_
    rintro e u2 ⟨rfl, b2⟩
    clear hc0 hc1
    have O2 := Lib.hid (own_below O.out b2)
    have PW2 := Lib.hid (PW.out.trans (b2.mono PW.out.size))
    go_wp2_with (at_builtin
                 refine wpList_app_zeros rfl (.tmp 12) (.tmp 15) 38 3 rfl Y.heap.size 5 Try.underlying38 Try.underlying3 9 Try.underlying9 infoB A' (1 + 8) c' _ rfl O2.out 23 rfl (by simp [maxLen]) (by decide) PW2.out.size ?_
                 intro A3 c3 u3 o3 g3
                 have B3 := Lib.hid (PW2.out.trans (below_grown g3 (own_block_ge O2.out) PW2.out.size))
                 rw [hname_app] at o3
                 have O3 := Lib.hid (OwnS.of_own o3)
                 clear o3 g3)
    go_ret
    exact ⟨A3, c3, rfl, O3.out.mono (Nat.le_of_lt (hG.out ▸ hGW)), HB0.out.trans (B3.out.mono HB0.out.size)⟩
end Go.Proofs.Ytabcbpcfleociaa
