/- A book's Head. -/
import Derived.Test.YtabcbpcfleociaaChD
namespace Go.Proofs.Ytabcbpcfleociaa
open Go.RowKit Go.Maps
attribute [local go_sem ↓] Go.wp_at_zero Go.wp_at_succ
set_option linter.unusedSimpArgs false
set_option linter.unusedVariables false
theorem lastDg_nil : lastDg [] = [] := rfl
theorem last_at {L : List Kn} (h : L ≠ []) : ∃ k, L[L.length - 1]? = some k ∧ L.getLast? = some k := by
  have hl : 0 < L.length := List.length_pos_iff.2 h
  refine ⟨L[L.length - 1], List.getElem?_eq_getElem (by omega), ?_⟩
  rw [List.getLast?_eq_getElem?, List.getElem?_eq_getElem (by omega)]
theorem head_off (b : Option Addr) (a : Int) (w : World) (h : b = none ∨ a < 0 ∨ 5 ≤ a) :
    Calls Try.prog 18 #[.pointer b, .int .i64 a] w fun e w' => e = .returned (.agg #[.int .i64 0, .int .i64 0, .slice none 0 0]) ∧ Below w.heap.size w w' := by
  have hb : Below w.heap.size w (w.alloc (.cells #[.int .i64 0, .int .i64 0, .slice none 0 0] 45)) := (Below.refl _ _).alloc (Nat.le_refl _) _
  rcases b with _ | b
  · go_enter Try.func18, Try.ntmps18
    go_wp2_with fail
    go_returns
    refine ⟨rfl, ?_⟩
    go_grown
  · by_cases h1 : a < 0
    · go_enter Try.func18, Try.ntmps18
      go_wp2_with fail
      go_returns
      refine ⟨rfl, ?_⟩
      go_grown
    · have h2 : 5 ≤ a := by rcases h with h | h | h; cases h; exact absurd h h1; exact h
      go_enter Try.func18, Try.ntmps18
      go_wp2_with fail
      go_returns
      refine ⟨rfl, ?_⟩
      go_grown
set_option maxRecDepth 20000 in
set_option maxHeartbeats 1000000 in
theorem head_in (g : Nat) (S : Bk) (own R : List Nat) (a : Int) (w : World) (hB : BookAt w g S own R) (h0 : 0 ≤ a) (h5 : a < 5) :
    Calls Try.prog 18 #[.pointer (some ⟨g, 0, none⟩), .int .i64 a] w fun e w' => ∃ A m c, e = .returned (.agg #[.int .i64 a, .int .i64 (ofA S a).length, .slice A m c]) ∧ (lastDg (ofA S a)).length = m ∧ OwnS w' w.heap.size A m c ((lastDg (ofA S a)).map B8) ∧ Below w.heap.size w w' := by
  have ha : inI a := ⟨by omega, by omega⟩
  have hB' := Lib.hid hB.ok
  have hna : ¬ a < 0 := by omega
  have hn5 : ¬ 5 ≤ a := by omega
  obtain ⟨Y, hY⟩ : ∃ Y, Hid (Y = w.alloc (.cells #[.int .i64 0, .int .i64 0, .slice none 0 0] 45)) := ⟨_, Lib.hid rfl⟩
  have BY : Hid (Below w.heap.size w Y) := by rw [hY.out]; exact (Below.refl _ _).alloc (Nat.le_refl _) _
  obtain ⟨G, hG⟩ : ∃ g, Hid (g = w.heap.size) := ⟨_, Lib.hid rfl⟩
  have HG : Hid (Y.heap[G]? = some (.cells #[.int .i64 0, .int .i64 0, .slice none 0 0] 45 (0, 0))) := by rw [hY.out, hG.out]; exact heap_alloc_new w _
  have HB := Lib.hid (hB.below BY.out)
  have hc0 : Y.cell? ⟨g, 0, none⟩ = some (.map (some HB.out.choose)) := cell_blk HB.out.choose_spec.choose_spec.choose_spec.blk 0 rfl
  obtain ⟨b, n, f, hv⟩ := HB.out
  obtain ⟨A, c, e, hc, hr⟩ := hv.rows a
  have hcell : Y.cell? ⟨g, 0, none⟩ = some (.map (some b)) := cell_blk hv.blk 0 rfl
  have hl := hv.look ha e
  clear hc0 hr e hc
  obtain ⟨L, hL⟩ : ∃ L, Hid ((ofA S a).length = L) := ⟨_, Lib.hid rfl⟩
  rw [hL.out] at hl ⊢
  clear hv hB
  rw [hY.out] at hl hcell
  have hi45 := Try.underlying45
  go_enter Try.func18, Try.ntmps18
  go_wp2_with fail
  rw [← hY.out, ← hG.out]
  clear hl hcell
  by_cases hz : ofA S a = []
  · have hL0 : L = 0 := by rw [← hL.out, hz]; rfl
    subst hL0
    refine (at_no g S own R a _ Y HB.out ha (Or.inl (by decide))).mono ?_
    rintro e w1 ⟨rfl, rfl⟩
    go_wp2_with (refine wpList_store_row rfl 45 (.tmp 4) (.tmp 36) rfl G #[.int .i64 a, .int .i64 0, .slice none 0 0] rfl rfl _ _ HG.out (by kernel_rfl) rfl (by kernel_rfl) ?_)
    generalize hZ : World.setRow _ _ _ = Z
    have hZg : Z.heap[G]? = some (.cells #[.int .i64 a, .int .i64 0, .slice none 0 0] 45 (0, 0)) := by rw [← hZ]; exact setRow_heap _ _ _ _ _ _ HG.out
    have hZb : Below w.heap.size w Z := by rw [← hZ]; exact below_setRow BY.out (by rw [hG.out]; exact Nat.le_refl _) _
    refine bodyPost_ret (v := .agg #[.int .i64 a, .int .i64 0, .slice none 0 0]) (results_cell Try.results18 rfl (run_loadVar_mid (P := Try.prog) Z G 0 45 _ _ (range_of hZg) Try.underlying45 rfl (by kernel_rfl))) rfl ?_
    refine ⟨none, 0, 0, rfl, by rw [hz]; rfl, ?_, hZb⟩
    rw [hz]
    exact OwnS.nil _ _ _
  · obtain ⟨k, hk1, hk2⟩ := last_at hz
    have hD : lastDg (ofA S a) = k.dg := by rw [lastDg, hk2]; rfl
    rw [hL.out] at hk1
    obtain ⟨i, rfl⟩ : ∃ i, L = i + 1 := ⟨L - 1, by have := List.length_pos_iff.2 hz; have := hL.out; omega⟩
    refine (at_ g S own R a i k Y HB.out ha hk1).mono ?_
    rintro e u ⟨A', c', rfl, o, b1⟩
    have O := Lib.hid o
    have HGu : Hid (u.heap[G]? = some (.cells #[.int .i64 0, .int .i64 0, .slice none 0 0] 45 (0, 0))) := (b1.block G (lt_of_blk HG.out)).trans HG.out
    have Bu := Lib.hid (BY.out.trans (b1.mono BY.out.size))
    have hkd : Hid (k.dg.length = 32) := (hB'.out.of (List.mem_of_getElem? hk1)).dg
    have hGY : Hid (G < Y.heap.size) := lt_of_blk HG.out
    clear o b1
    obtain ⟨M, hM⟩ : ∃ M : Nat, Hid (M = i + 1) := ⟨_, Lib.hid rfl⟩
    rw [← hM.out]
    go_wp2_with (refine wpList_store_row rfl 45 (.tmp 4) (.tmp 36) rfl G #[.int .i64 a, .int .i64 M, .slice A' 32 c'] rfl rfl _ _ HGu.out (by kernel_rfl) rfl (by kernel_rfl) ?_)
    generalize hZ : World.setRow _ _ _ = Z
    have hZg : Z.heap[G]? = some (.cells #[.int .i64 a, .int .i64 M, .slice A' 32 c'] 45 (0, 0)) := by rw [← hZ]; exact setRow_heap _ _ _ _ _ _ HGu.out
    have hZb : Below w.heap.size w Z := by rw [← hZ]; exact below_setRow Bu.out (by rw [hG.out]; exact Nat.le_refl _) _
    have hZo : OwnS Z w.heap.size A' 32 c' (k.dg.map B8) := by
      have hne : ∀ b o, A' = some ⟨b, o, none⟩ → b ≠ G := fun b o e => by
        obtain ⟨b', o', e', hb', _⟩ := O.out.mem (by have := O.out.le; omega)
        rw [e] at e'
        injection e' with e'
        injection e' with e1
        have := hGY.out
        omega
      rw [← hZ]
      exact (O.out.same fun b o e _ => setRow_other _ _ _ _ (hne b o e)).mono BY.out.size
    refine bodyPost_ret (v := .agg #[.int .i64 a, .int .i64 M, .slice A' 32 c']) (results_cell Try.results18 rfl (run_loadVar_mid (P := Try.prog) Z G 0 45 _ _ (range_of hZg) Try.underlying45 rfl (by kernel_rfl))) rfl ?_
    rw [hD]
    exact ⟨A', 32, c', by rw [hM.out], hkd.out, hZo, hZb⟩
end Go.Proofs.Ytabcbpcfleociaa
