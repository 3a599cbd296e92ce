/- The document's Hash. (Printed by gen_vac.py.) -/
import Derived.Test.YtabcbpcfleociaaVaC
namespace Go.Proofs.Ytabcbpcfleociaa
open Go.RowKit
attribute [local go_sem ↓] Go.wp_at_zero Go.wp_at_succ
set_option linter.unusedSimpArgs false
set_option linter.unusedVariables false
set_option maxRecDepth 4000 in
set_option maxHeartbeats 1000000 in
theorem refHash_ (A : Option Addr) (n c : Nat) (dr : Int) (B : Option Addr) (m d : Nat) (hs : List (List UInt8)) (h : List UInt8) (w : World) (hv : VtL w w.heap.size A n hs) (hr : Rd w w.heap.size 1 B m (h.map B8)) (hn : n ≤ 1000000) (hnc : n ≤ c) :
    Calls Try.prog 29 #[.agg #[.slice A n c, .int .i64 dr], .slice B m d] w fun e w' => ∃ A' n' c' D dc, e = .returned (.tuple #[.agg #[.slice A' n' c', .int .i64 dr], .slice D 32 dc]) ∧ n' ≤ c' ∧ VtL w' w'.heap.size A' n' (note hs h) ∧ OwnS w' w.heap.size D 32 dc ((hname (hs.idxOf h + 1)).map B8) ∧ Below w.heap.size w w' := by
  have hm : h.length = m := by simpa using hr.len
  obtain ⟨W, hW⟩ : ∃ W, Hid (W = ((w.alloc (.cells #[.slice A n c, .int .i64 dr] 33)).alloc (.cells #[.slice none 0 0, .int .i64 0] 33)).alloc (.cells #[.slice B m d] 38)) := ⟨_, Lib.hid rfl⟩
  obtain ⟨G, hG⟩ : ∃ g, Hid (g = w.heap.size) := ⟨_, Lib.hid rfl⟩
  have hs1 : (w.alloc (.cells #[.slice A n c, .int .i64 dr] 33)).heap.size = w.heap.size + 1 := szAlloc _ _
  have hs2 : ((w.alloc (.cells #[.slice A n c, .int .i64 dr] 33)).alloc (.cells #[.slice none 0 0, .int .i64 0] 33)).heap.size = w.heap.size + 2 := by rw [szAlloc, hs1]
  have BW : Hid (Below w.heap.size w W) := by rw [hW.out]; exact (((Below.refl _ _).alloc (Nat.le_refl _) _).alloc (by rw [hs1]; omega) _).alloc (by rw [hs2]; omega) _
  have R1 : Hid (W.heap[G + 1]? = some (.cells #[.slice none 0 0, .int .i64 0] 33 (0, 0))) := by
    unfold Hid
    rw [hW.out, hG.out, heap_alloc_old _ _ (by rw [hs2]; omega), ← hs1]
    exact heap_alloc_new _ _
  have hGs : Hid (G + 1 < W.heap.size) := lt_of_blk R1.out
  have hWs : Hid (W.heap.size = G + 3) := by unfold Hid; rw [hW.out, szAlloc, hs2, hG.out]
  have HV : Hid (VtP W (fun b => b < G ∨ b = G + 2) A n hs) := hv.p.same (fun b hb => BW.out.block b hb) (fun b hb => Or.inl (by rw [hG.out]; exact hb))
  have HO : Hid (OneP W (fun b => b < G ∨ b = G + 2) (G + 2) 0 h) := by
    refine ⟨Or.inr rfl, B, d, ?_, ?_⟩
    · rw [hW.out, hG.out, ← hs2, hm]; exact cell_blk (heap_alloc_new _ _) 0 rfl
    · rw [hm]; exact RdP.same (ok := fun b => b < w.heap.size) hr (fun b hb => BW.out.block b hb) (fun b hb => Or.inl (by rw [hG.out]; exact hb))
  clear hv hr hs1 hs2
  go_enter Try.func29, Try.ntmps29
  go_wp2_with fail
  rw [← hW.out, ← hG.out]
  refine (refName_ A n c dr (G + 2) 0 1 hs h W (fun b => b < G ∨ b = G + 2) (fun b hb => by have := hWs.out; omega) HV.out HO.out hn hnc).mono ?_
  rintro e t ⟨A', n', c', D, dc, rfl, q1, q2, q3, q4⟩
  have Q1 := Lib.hid q1
  have Q2 := Lib.hid q2
  have Q3 := Lib.hid q3
  have Bt := Lib.hid q4
  have Rt : Hid (t.heap[G + 1]? = some (.cells #[.slice none 0 0, .int .i64 0] 33 (0, 0))) := (q4.block (G + 1) hGs.out).trans R1.out
  clear q1 q2 q3 q4
  go_wp2_with (refine wpList_store_row rfl 33 (.tmp 4) (.tmp 11) rfl (G + 1) #[.slice A' n' c', .int .i64 dr] rfl rfl _ _ Rt.out (by kernel_rfl) rfl (by kernel_rfl) ?_)
  generalize hQ : World.setRow _ _ _ = Qz
  have hQg : Qz.heap[G + 1]? = some (.cells #[.slice A' n' c', .int .i64 dr] 33 (0, 0)) := by rw [← hQ]; exact setRow_heap _ _ _ _ _ _ Rt.out
  have hQb : Below w.heap.size w Qz := by rw [← hQ]; exact below_setRow (BW.out.trans (Bt.out.mono BW.out.size)) (by have := hG.out; omega) _
  go_wp2_with fail
  refine bodyPost_ret (v := .tuple #[.agg #[.slice A' n' c', .int .i64 dr], .slice D 32 dc]) ?_ rfl ?_
  · exact results_cell_tmp Try.results29 rfl (run_loadVar_mid (P := Try.prog) Qz (G + 1) 0 33 _ _ (range_of hQg) Try.underlying33 rfl (by kernel_rfl))
  · refine ⟨A', n', c', D, dc, rfl, Q1.out, ?_, ?_, hQb⟩
    · refine (Q2.out.same (w' := Qz) (ok' := fun b => b < Qz.heap.size) (fun b hb => ?_) (fun b hb => ?_)).l (fun b hb => hb)
      · rw [← hQ]; exact setRow_other _ _ _ _ (by have := hWs.out; omega)
      · rw [← hQ, setRow_size]; have := hWs.out; have := Bt.out.size; omega
    · rw [← hQ]
      refine (Q3.out.same fun b' o' e' _ => setRow_other _ _ _ _ ?_).mono BW.out.size
      obtain ⟨b2, o2, e2, hb2, _⟩ := Q3.out.mem (by have := Q3.out.le; omega)
      rw [e'] at e2; injection e2 with e2; injection e2 with e3
      have := hGs.out; omega
end Go.Proofs.Ytabcbpcfleociaa
