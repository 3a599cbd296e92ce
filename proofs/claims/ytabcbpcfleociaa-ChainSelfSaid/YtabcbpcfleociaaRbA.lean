/- The document's book: an author's links; At, Head. -/
import Derived.Test.YtabcbpcfleociaaVaE
namespace Go.Proofs.Ytabcbpcfleociaa
open Go.RowKit
attribute [local go_sem ↓] Go.wp_at_zero Go.wp_at_succ
set_option linter.unusedSimpArgs false
set_option linter.unusedVariables false
theorem infoK : (Try.prog.info? 127).map (fun i => (i.zero, i.size, i.bytes)) = some (some (.agg #[.int .i64 0, .slice none 0 0, .slice none 0 0, .int .i64 0]), 4, 64) := by kernel_rfl
theorem rkC_one (q : Rk) : ∀ u ∈ rkC q, u.oneCell' = true := by
  intro u hu
  simp [rkC] at hu
  rcases hu with rfl | rfl | rfl | rfl <;> rfl
theorem selA_snoc {S : Bk} {i : Nat} {x : Int × Kn} (hx : S[i]? = some x) (a : Int) : selA (S.take (i + 1)) a = if x.1 = a then selA (S.take i) a ++ [x] else selA (S.take i) a := by
  unfold selA
  rw [List.take_add_one, hx, List.filter_append]
  by_cases h : x.1 = a
  · rw [if_pos h]; simp [h]
  · rw [if_neg h]; simp [h]
theorem rowK (w : World) (q : Rk) (t : TypeId) : Rd (w.alloc (.cells #[.int .i64 q.au, .slice q.dA q.dn q.dc, .slice q.bA q.bn q.bc, .int .i64 q.ep] t)) (w.heap.size + 1) 4 (some ⟨w.heap.size, 0, none⟩) 1 (rkC q) :=
  ⟨rfl, fun _ => ⟨w.heap.size, 0, rfl, Nat.lt_succ_self _, fun j u hj => rangeNew w (rkC q) t j u hj⟩⟩
set_option maxRecDepth 4000 in
set_option maxHeartbeats 2000000 in
theorem refOf_ (A : Option Addr) (n c : Nat) (S : Bk) (a : Int) (no : List Nat) (w : World) (hv : RkN no w A n S) (hn : n ≤ 1000000) (hno : ∀ k, k ∈ no → k < w.heap.size) :
    Calls Try.prog 64 #[.agg #[.slice A n c], .int .i64 a] w fun e w' => ∃ A' n' c', e = .returned (.slice A' n' c') ∧ n' ≤ c' ∧ RkN no w' A' n' (selA S a) ∧ Below w.heap.size w w' := by
  obtain ⟨Qs, e1, e2, e3, e4⟩ := hv
  obtain ⟨W, hW⟩ : ∃ W, Hid (W = w.alloc (.cells #[.slice A n c] 30)) := ⟨_, Lib.hid rfl⟩
  obtain ⟨G, hG⟩ : ∃ g, Hid (g = w.heap.size) := ⟨_, Lib.hid rfl⟩
  have BW : Hid (Below w.heap.size w W) := by rw [hW.out]; exact (Below.refl _ _).alloc (Nat.le_refl _) _
  have RW : Hid (W.rangeAt G 0 [.slice A n c]) := by rw [hW.out, hG.out]; exact rangeNew w _ _
  have hGW : Hid (G < W.heap.size) := by unfold Hid; rw [hG.out, hW.out, szAlloc]; exact Nat.lt_succ_self _
  have E1 := Lib.hid e1
  have E2 := Lib.hid e2
  have E3 := Lib.hid e3
  have E4 := Lib.hid e4
  have HNO := Lib.hid hno
  clear e1 e2 e3 e4 hno
  go_enter Try.func64, Try.ntmps64
  go_wp2_with fail
  rw [← hW.out, ← hG.out]
  go_loopw [5, 6] (fun x5 x6 wr => ∃ (i m : Nat) (A' : Option Addr) (c' : Nat), x5 = .slice A' m c' ∧ x6 = .int .i64 i ∧ i ≤ n ∧ m ≤ i ∧ Hid (Below W.heap.size W wr) ∧ Hid (∃ Qs' : List Rk, Qs'.length = m ∧ (selA (S.take i) a).length = m ∧ wr.ownsRow W.heap.size 127 4 (.slice A' m c') m (Qs'.flatMap rkC) ∧ ∀ (j : Nat) (q : Rk) (x : Int × Kn), Qs'[j]? = some q → (selA (S.take i) a)[j]? = some x → RkX no w q x)) (fun _ x6 _ => n - (intOf x6).toNat)
  case atStart => exact ⟨0, 0, none, 0, rfl, rfl, by omega, by omega, Below.refl _ _, [], rfl, rfl, World.ownsRow_nil _ _ _ _, fun j q x h => by simp at h⟩
  case round =>
    obtain ⟨i, m, A', c', rfl, rfl, hi, hmi, hb, hQ⟩ := hrel
    have r0 := range_keep RW.out hb.out hGW.out
    have c0 := r0 0 _ rfl
    by_cases hin : i < n
    · have hin' : (i : Int) < (n : Int) := by omega
      have hi0 : (0 : Int) ≤ (i : Int) := by omega
      have e8 : IntKind.i64.wrap ((i : Int) + 1) = ((i + 1 : Nat) : Int) := by rw [IntWalk.i64_in _ (by omega)]; omega
      obtain ⟨x, hx⟩ : ∃ x, S[i]? = some x := ⟨_, List.getElem?_eq_getElem (by rw [E2.out]; exact hin)⟩
      obtain ⟨q, hq⟩ : ∃ q, Qs[i]? = some q := ⟨_, List.getElem?_eq_getElem (by rw [E1.out]; exact hin)⟩
      have HX := Lib.hid (E4.out i q x hq hx)
      obtain ⟨b, o, rfl, hbb, hrb⟩ := E3.out.1.elem (fun _ _ => rfl) E1.out hq
      have HRB : Hid (wr.rangeAt b (o + i * 4) (rkC q)) := fun j v hj => (World.cell?_of_block (a := ⟨b, o + i * 4 + j, none⟩) ((hb.out.block b (Nat.lt_of_lt_of_le hbb BW.out.size)).trans (BW.out.block b hbb))).trans (hrb j v hj)
      have c1 : wr.cell? ⟨b, o + i * 4, none⟩ = some (.int .i64 q.au) := HRB.out 0 _ rfl
      have hss := Lib.hid (selA_snoc hx a)
      have HXI := Lib.hid hx
      clear hrb hbb hx hq
      by_cases hxa : x.1 = a
      · have hqa : (q.au == a) = true := by rw [HX.out.au, hxa]; exact beq_self_eq_true a
        rw [if_pos hxa] at hss
        have c2 : wr.cell? ⟨b, o + i * 4 + 1, none⟩ = some (.slice q.dA q.dn q.dc) := HRB.out 1 _ rfl
        have c3 : wr.cell? ⟨b, o + i * 4 + 2, none⟩ = some (.slice q.bA q.bn q.bc) := HRB.out 2 _ rfl
        have c4 : wr.cell? ⟨b, o + i * 4 + 3, none⟩ = some (.int .i64 q.ep) := HRB.out 3 _ rfl
        clear hxa
        go_wp2_with (at_builtin
                     obtain ⟨Qs', g1, g2, g3, g4⟩ := hQ.out
                     have B4 : Hid (Below W.heap.size W (wr.alloc (.cells #[.int .i64 q.au, .slice q.dA q.dn q.dc, .slice q.bA q.bn q.bc, .int .i64 q.ep] 127))) := hb.out.alloc hb.out.size _
                     have g3' := own_to g3 ((Below.refl wr.heap.size wr).alloc (Nat.le_refl _) (.cells #[.int .i64 q.au, .slice q.dA q.dn q.dc, .slice q.bA q.bn q.bc, .int .i64 q.ep] 127))
                     refine wpList_app rfl (.tmp 22) (.tmp 28) 28 rfl W.heap.size 127 4 64 _ Try.underlying28 infoK rfl (by decide) (.slice A' m c') m _ rfl g3' _ (some ⟨wr.heap.size, 0, none⟩) 1 1 (rkC q) rfl (rowK wr q _) (rkC_one q) (by simp only [maxLen]; omega) (by omega) B4.out.size ?_
                     intro A6 c6 w6 o6 g6 _
                     have B6 : Hid (Below W.heap.size W w6) := B4.out.trans (below_grown g6 (own_block_ge2 g3') B4.out.size)
                     have Q6 : Hid (∃ Qs' : List Rk, Qs'.length = m + 1 ∧ (selA (S.take (i + 1)) a).length = m + 1 ∧ w6.ownsRow W.heap.size 127 4 (.slice A6 (m + 1) c6) (m + 1) (Qs'.flatMap rkC) ∧ ∀ (j : Nat) (q : Rk) (x : Int × Kn), Qs'[j]? = some q → (selA (S.take (i + 1)) a)[j]? = some x → RkX no w q x) := by
                       rw [hss.out]
                       refine ⟨Qs' ++ [q], by simp [g1], by simp [g2], by rw [List.flatMap_append, show [q].flatMap rkC = rkC q by simp]; exact o6, fun j q' x' f1 f2 => ?_⟩
                       rcases Nat.lt_or_ge j m with h | h
                       · rw [List.getElem?_append_left (by omega)] at f1
                         rw [List.getElem?_append_left (by omega)] at f2
                         exact g4 j q' x' f1 f2
                       · rw [List.getElem?_append_right (by omega)] at f1
                         rw [List.getElem?_append_right (by omega)] at f2
                         rcases hz : j - m with _ | z
                         · rw [g1, hz] at f1
                           rw [g2, hz] at f2
                           simp at f1 f2
                           subst f1 f2
                           exact HX.out
                         · rw [g1, hz] at f1
                           simp at f1
                     clear o6 g6 g3' g3 g4)
        go_roundw
        case rel => exact ⟨i + 1, m + 1, A6, c6, rfl, by go_num, hin, by omega, B6, Q6⟩
        case measure => simp only [intOf]; omega
      · have hqa : (q.au == a) = false := by rw [HX.out.au]; simpa using hxa
        rw [if_neg hxa] at hss
        clear hxa
        go_wp2_with fail
        go_roundw
        case rel => exact ⟨i + 1, m, A', c', rfl, by go_num, hin, by omega, hb, by rw [hss.out]; exact hQ⟩
        case measure => simp only [intOf]; omega
    · have hiS : Hid (i = n) := (by omega : i = n)
      have hin' : ¬ (i : Int) < (n : Int) := by omega
      go_wp2_with fail
      go_ret
      have BB := BW.out.trans (hb.out.mono BW.out.size)
      obtain ⟨Qs', g1, g2, g3, g4⟩ := hQ.out
      rw [hiS.out, List.take_of_length_le (by rw [E2.out]; exact Nat.le_refl _)] at g2 g4
      refine ⟨A', m, c', rfl, own_cap g3, ⟨Qs', g1, g2, ⟨Rd.of_own g3, fun b o h0 e hm => ?_⟩, fun j q x f1 f2 => (g4 j q x f1 f2).fr (own := []) (own' := []) (Fr.below BB) (fun _ h => absurd h (by simp)) (fun _ h => Or.inl h)⟩, BB⟩
      obtain ⟨g', e', h3, _⟩ := own_addr g3 h0
      rw [e] at e'; injection e' with e'; injection e' with e5
      have h6 := HNO.out b hm
      have h7 := BW.out.size
      omega
end Go.Proofs.Ytabcbpcfleociaa
