/- A book's At, Head. (Printed by gen_chd.py.) -/
import Derived.Test.YtabcbpcfleociaaChC
import Derived.Test.YtabcbpcfleociaaReg
namespace Go.Proofs.Ytabcbpcfleociaa
open Go.RowKit Go.Maps
attribute [local go_sem ↓] Go.wp_at_zero Go.wp_at_succ
set_option linter.unusedSimpArgs false
set_option linter.unusedVariables false
set_option maxHeartbeats 1000000 in
theorem at_no (g : Nat) (S : Bk) (own R : List Nat) (a q : Int) (w : World) (hB : BookAt w g S own R) (ha : inI a) (hq : q < 1 ∨ (ofA S a).length < q) :
    Calls Try.prog 23 #[.pointer (some ⟨g, 0, none⟩), .int .i64 a, .int .i64 q] w fun e w' => e = .returned (.tuple #[.slice none 0 0, .int .i64 0]) ∧ w' = w := by
  obtain ⟨b, n, f, hv⟩ := hB
  obtain ⟨A, c, e, hc, hr⟩ := hv.rows a
  have h0 : w.cell? ⟨g, 0, none⟩ = some (.map (some b)) := cell_blk hv.blk 0 rfl
  have hl := hv.look ha e
  obtain ⟨L, hL⟩ : ∃ L, Hid (L = (ofA S a).length) := ⟨_, Lib.hid rfl⟩
  rw [← hL.out] at hl hq
  clear hv hr e hc
  by_cases hq1 : q < 1
  · go_enter Try.func23, Try.ntmps23
    go_wp2_with fail
    go_ret2
    exact ⟨rfl, rfl⟩
  · have hq2 : (L : Int) < q := hq.resolve_left hq1
    go_enter Try.func23, Try.ntmps23
    go_wp2_with fail
    go_ret2
    exact ⟨rfl, rfl⟩
theorem at_nil (a q : Int) (w : World) : Calls Try.prog 23 #[.pointer none, .int .i64 a, .int .i64 q] w fun e w' => e = .returned (.tuple #[.slice none 0 0, .int .i64 0]) ∧ w' = w := by
  go_enter Try.func23, Try.ntmps23
  go_wp2_with fail
  go_ret2
  exact ⟨rfl, rfl⟩
theorem info65 : (Try.prog.info? 114).map (·.size) = some 65 := by kernel_rfl
theorem row65 : ∃ d, Try.prog.underlying 114 = some d ∧ d.isRow = true := ⟨_, Try.underlying114, rfl⟩
/-- A new block of noughts, written over. -/
theorem row_new (w : World) (z cs : Array Value) (t : TypeId) {X : World} (h : (w.alloc (.cells z t)).setRow w.heap.size cs = X) : X.heap[w.heap.size]? = some (.cells cs t (0, 0)) ∧ Below w.heap.size w X ∧ X.heap.size = w.heap.size + 1 := by
  subst h
  refine ⟨setRow_heap _ _ _ _ _ _ (heap_alloc_new w _), below_setRow ((Below.refl _ _).alloc (Nat.le_refl _) _) (Nat.le_refl _) _, ?_⟩
  rw [setRow_size, szAlloc]
theorem knC_one (k : Kn) : ∀ v ∈ knC k, v.oneCell' = true := by
  intro v hv
  simp only [knC, List.mem_append, List.mem_map, List.mem_singleton] at hv
  rcases hv with (⟨b, _, rfl⟩ | ⟨b, _, rfl⟩) | rfl <;> rfl
theorem knC_ep {k : Kn} (h : k.ok) : (knC k)[64]? = some (.int .i64 k.ep) := by
  rw [knC, List.getElem?_append_right (by simp [h.dg, h.bd])]
  simp [h.dg, h.bd]
theorem knC_dg {k : Kn} (h : k.ok) {j : Nat} {v : Value} (hj : (k.dg.map B8)[j]? = some v) : (knC k)[j]? = some v := by
  have hl : j < (k.dg.map B8).length := by
    rcases Nat.lt_or_ge j (k.dg.map B8).length with h | h
    · exact h
    · rw [List.getElem?_eq_none h] at hj; cases hj
  rw [knC, List.append_assoc, List.getElem?_append_left hl]
  exact hj
theorem Rd.of_kn {w : World} {g o : Nat} {k : Kn} (h : w.rangeAt g o (knC k)) (hk : k.ok) : Rd w w.heap.size 1 (some ⟨g, o, none⟩) 32 (k.dg.map B8) := by
  refine ⟨by simp [hk.dg], fun _ => ⟨g, o, rfl, World.block_lt_of_cell? _ _ (h 64 _ (knC_ep hk)), fun j u hu => h j u (knC_dg hk hu)⟩⟩
set_option maxRecDepth 20000 in
set_option maxHeartbeats 1000000 in
theorem at_ (g : Nat) (S : Bk) (own R : List Nat) (a : Int) (i : Nat) (k : Kn) (w : World) (hB : BookAt w g S own R) (ha : inI a) (hk : (ofA S a)[i]? = some k) :
    Calls Try.prog 23 #[.pointer (some ⟨g, 0, none⟩), .int .i64 a, .int .i64 (i + 1 : Nat)] w fun e w' => ∃ A' c', e = .returned (.tuple #[.slice A' 32 c', .int .i64 k.ep]) ∧ OwnS w' w.heap.size A' 32 c' (k.dg.map B8) ∧ Below w.heap.size w w' := by
  obtain ⟨b, n, f, hv⟩ := hB
  obtain ⟨A, c, e, hc, hr⟩ := hv.rows a
  have h0 : w.cell? ⟨g, 0, none⟩ = some (.map (some b)) := cell_blk hv.blk 0 rfl
  have hl := hv.look ha e
  have hko := Lib.hid (hv.ok.of (List.mem_of_getElem? hk))
  obtain ⟨rb, ro, rfl, hrb, hrg⟩ := hr.1.kn (fun k h => hv.ok.of h) rfl hk
  have HRG := Lib.hid hrg
  have hsz : Hid ((knC k).toArray.size = 65) := by unfold Hid; rw [List.size_toArray, knC_len hko.out]
  have hil : i < (ofA S a).length := by
    rcases Nat.lt_or_ge i (ofA S a).length with h | h
    · exact h
    · rw [List.getElem?_eq_none h] at hk; cases hk
  have hLb : (ofA S a).length < 4611686018427387904 := by have := ofA_len S a; have := hv.sm; omega
  obtain ⟨L, hL⟩ : ∃ L, Hid (L = (ofA S a).length) := ⟨_, Lib.hid rfl⟩
  rw [← hL.out] at hl hil hLb
  have hi1 : ¬ ((i + 1 : Nat) : Int) < 1 := by omega
  have hi2 : ¬ (L : Int) < ((i + 1 : Nat) : Int) := by omega
  have hqi : IntKind.i64.wrap (((i + 1 : Nat) : Int) - 1) = (i : Int) := by rw [IntWalk.i64_in _ (by omega)]; omega
  obtain ⟨q, hq⟩ : ∃ q : Int, Hid (((i + 1 : Nat) : Int) = q) := ⟨_, Lib.hid rfl⟩
  rw [hq.out] at hi1 hi2 hqi ⊢
  clear hv hr e hc hrg hLb
  go_enter Try.func23, Try.ntmps23
  go_wp2_with (first
    | refine wpList_load_mid rfl 114 (.tmp 34) rfl rb (ro + i * 65) rfl (knC k) _ HRG.out Try.underlying114 rfl (by rw [knC_len hko.out]; exact info65) ?_
    | (refine wpList_store_row rfl 114 (.tmp 8) (.tmp 35) rfl w.heap.size (knC k).toArray rfl rfl _ _ (heap_alloc_new w _) (by rw [hsz.out]; exact info65) (by rw [hsz.out]; kernel_rfl) (all_oneCell_toArray (knC_one k)) ?_))
  generalize hY0 : World.setRow _ _ _ = Y
  obtain ⟨hYg, hYb, hYs⟩ := row_new w _ _ _ hY0
  obtain ⟨G, hG⟩ : ∃ g, Hid (g = w.heap.size) := ⟨_, Lib.hid rfl⟩
  rw [← hG.out] at hYg ⊢
  have RY : Hid (Y.rangeAt G 0 (knC k)) := range_of hYg
  have BY := Lib.hid hYb
  have hGY : Hid (G < Y.heap.size) := by unfold Hid; rw [hG.out, hYs]; exact Nat.lt_succ_self _
  clear hY0 hYg hYb hYs HRG hsz
  obtain ⟨X, hX⟩ : ∃ W, Hid (W = Y.drew) := ⟨_, Lib.hid rfl⟩
  have dX : Below Y.heap.size Y X := by rw [hX.out]; exact below_drew (Below.refl _ _)
  have RX := Lib.hid (range_keep RY.out dX hGY.out)
  have hGX : Hid (G < X.heap.size) := Nat.lt_of_lt_of_le hGY.out dX.size
  have BX := Lib.hid (BY.out.trans (dX.mono BY.out.size))
  refine wp_region_noPanic ?_
  refine wp_region_held_drew (S := fun w' => w'.rangeAt G 0 (knC k)) (by kernel_rfl) (by rw [← hX.out]; exact RX.out) (fun hS => ?_)
  rw [← hX.out]
  clear hS
  have hS : X.rangeAt G 0 (knC k) := RX.out
  refine wpAnyH_take (i := 1) (v := ?v1) rfl (by kernel_rfl) (by kernel_rfl) (by kernel_rfl) (fun _ _ _ h => h) (Or.inl ⟨by rfl, ?hy1⟩) hS ?rest1
  case hy1 => (intro w' hSw; go_simp; first | done | with_reducible rfl)
  try simp only [Act.put, List.getElem_toArray, List.getElem_cons_zero, List.getElem_cons_succ, List.setIfInBounds_toArray, List.set_cons_zero, List.set_cons_succ]
  refine wpAnyH_take (i := 2) (v := ?v2) rfl (by kernel_rfl) (by kernel_rfl) (by kernel_rfl) (fun _ _ _ h => h) (Or.inl ⟨by rfl, ?hy2⟩) hS ?rest2
  case hy2 => (intro w' hSw; go_simp; first | done | with_reducible rfl)
  try simp only [Act.put, List.getElem_toArray, List.getElem_cons_zero, List.getElem_cons_succ, List.setIfInBounds_toArray, List.set_cons_zero, List.set_cons_succ]
  refine wpAnyH_take (i := 4) (v := ?v4) rfl (by kernel_rfl) (by kernel_rfl) (by kernel_rfl) (fun _ _ _ h => h) (Or.inl ⟨by rfl, ?hy4⟩) hS ?rest4
  case hy4 => (intro w' hSw; go_simp; first | done | with_reducible rfl)
  try simp only [Act.put, List.getElem_toArray, List.getElem_cons_zero, List.getElem_cons_succ, List.setIfInBounds_toArray, List.set_cons_zero, List.set_cons_succ]
  refine wpAnyH_take (i := 5) (v := .int .i64 k.ep) rfl (by kernel_rfl) (by kernel_rfl) (by kernel_rfl) (fun _ _ _ h => h) (Or.inl ⟨by rfl, ?hy5⟩) hS ?rest5
  case hy5 => (intro w' hSw; have c0 := hSw 64 _ (knC_ep hko.out); go_simp; first | done | with_reducible rfl)
  try simp only [Act.put, List.getElem_toArray, List.getElem_cons_zero, List.getElem_cons_succ, List.setIfInBounds_toArray, List.set_cons_zero, List.set_cons_succ]
  refine wpAnyH_ready (rs := [0]) (by kernel_rfl) (by simp) ?_
  refine AllReadyH.cons rfl (fun K hK => ?_) AllReadyH.nil
  go_simp
  have P1 := Lib.hid ((Below.refl X.heap.size X).alloc (Nat.le_refl _) (.cells #[] 5))
  have S1 := range_keep RX.out P1.out hGX.out
  refine hK.out _ _ S1 ?_
  intro hS
  clear hK K hS
  try simp only [Act.put, List.getElem_toArray, List.getElem_cons_zero, List.getElem_cons_succ, List.setIfInBounds_toArray, List.set_cons_zero, List.set_cons_succ]
  have l0 := Lib.hid (World.ownsRow_lit (e := 5) (size := 1) X #[] 0 (Nat.le_refl _) (by simp [maxLen]) rfl)
  obtain ⟨U, hU⟩ : ∃ U, Hid (U = X.alloc (.cells #[] 5)) := ⟨_, Lib.hid rfl⟩
  rw [← hU.out] at P1 S1 l0 ⊢
  have hS : U.rangeAt G 0 (knC k) := S1
  refine wpAnyH_ready (rs := [3]) (by kernel_rfl) (by simp) ?_
  refine AllReadyH.cons rfl (fun K hK => ?_) AllReadyH.nil
  have hd := Lib.hid (Rd.of_kn S1 hko.out)
  have ho := Lib.hid (oneB k.dg)
  refine step_app (.tmp 36) (.tmp 38) 38 rfl rfl X.heap.size 5 1 1 (.int .u8 0) Try.underlying38 infoB rfl (by decide) _ 0 [] rfl l0.out _ (some ⟨G, 0, none⟩) 32 32 _ rfl hd.out ho.out (by simp [maxLen]) (by decide) P1.out.size ?_
  intro A' c' u' o' g' _
  have O := Lib.hid (OwnS.of_own o')
  have P2 := Lib.hid (P1.out.trans (below_grown g' (own_block_ge l0.out) P1.out.size))
  have S2 := range_keep RX.out P2.out hGX.out
  refine hK.out _ _ S2 ?_
  intro hS
  clear hK K hS o' g'
  try simp only [Act.put, List.getElem_toArray, List.getElem_cons_zero, List.getElem_cons_succ, List.setIfInBounds_toArray, List.set_cons_zero, List.set_cons_succ]
  have hS : u'.rangeAt G 0 (knC k) := S2
  refine wpAnyH_take (i := 6) (v := ?v6) rfl (by kernel_rfl) (by kernel_rfl) (by kernel_rfl) (fun _ _ _ h => h) (Or.inl ⟨by rfl, ?hy6⟩) hS ?rest6
  case hy6 => (intro w' hSw; go_simp; first | done | with_reducible rfl)
  try simp only [Act.put, List.getElem_toArray, List.getElem_cons_zero, List.getElem_cons_succ, List.setIfInBounds_toArray, List.set_cons_zero, List.set_cons_succ]
  refine wpAnyH_take (i := 7) (v := ?v7) rfl (by kernel_rfl) (by kernel_rfl) (by kernel_rfl) (fun _ _ _ h => h) (Or.inl ⟨by rfl, ?hy7⟩) hS ?rest7
  case hy7 => (intro w' hSw; go_simp; first | done | with_reducible rfl)
  try simp only [Act.put, List.getElem_toArray, List.getElem_cons_zero, List.getElem_cons_succ, List.setIfInBounds_toArray, List.set_cons_zero, List.set_cons_succ]
  refine wpAnyH_done (by kernel_rfl) (NoPanic.normal ?_) _
  go_wp2_with fail
  go_ret2
  refine ⟨A', c', rfl, ?_, BX.out.trans (P2.out.mono BX.out.size)⟩
  exact O.out.mono BX.out.size
end Go.Proofs.Ytabcbpcfleociaa
