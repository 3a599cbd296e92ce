/- The document's book: an author's links; At, Head. -/
import Derived.Test.YtabcbpcfleociaaMVak
namespace Go.Proofs.Ytabcbpcfleociaa
open Go.RowKit
attribute [local go_sem ↓] Go.wp_at_zero Go.wp_at_succ
set_option linter.unusedSimpArgs false
set_option linter.unusedVariables false
theorem infoK : (Try.prog.info? 127).map (fun i => (i.zero, i.size, i.bytes)) = some (some (.agg #[.int .i64 0, .slice none 0 0, .slice none 0 0, .int .i64 0]), 4, 64) := by kernel_rfl
theorem rkC_one (q : Rk) : ∀ u ∈ rkC q, u.oneCell' = true := by
  intro u hu
  simp [rkC] at hu
  rcases hu with rfl | rfl | rfl | rfl <;> rfl
theorem selA_snoc {S : Bk} {i : Nat} {x : Int × Kn} (hx : S[i]? = some x) (a : Int) : selA (S.take (i + 1)) a = if x.1 = a then selA (S.take i) a ++ [x] else selA (S.take i) a := by
  unfold selA
  rw [List.take_add_one, hx, List.filter_append]
  by_cases h : x.1 = a
  · rw [if_pos h]; simp [h]
  · rw [if_neg h]; simp [h]
theorem rowK (w : World) (q : Rk) (t : TypeId) : Rd (w.alloc (.cells #[.int .i64 q.au, .slice q.dA q.dn q.dc, .slice q.bA q.bn q.bc, .int .i64 q.ep] t)) (w.heap.size + 1) 4 (some ⟨w.heap.size, 0, none⟩) 1 (rkC q) :=
  ⟨rfl, fun _ => ⟨w.heap.size, 0, rfl, Nat.lt_succ_self _, fun j u hj => rangeNew w (rkC q) t j u hj⟩⟩
set_option maxRecDepth 4000 in
set_option maxHeartbeats 2000000 in
theorem refOf_ (A : Option Addr) (n c : Nat) (S : Bk) (a : Int) (no : List Nat) (w : World) (hv : RkN no w A n S) (hn : n ≤ 1000000) (hno : ∀ k, k ∈ no → k < w.heap.size) :
    Calls Try.prog 64 #[.agg #[.slice A n c], .int .i64 a] w fun e w' => ∃ A' n' c', e = .returned (.slice A' n' c') ∧ n' ≤ c' ∧ RkN no w' A' n' (selA S a) ∧ Below w.heap.size w w' := by
  obtain ⟨Qs, e1, e2, e3, e4⟩ := hv
  obtain ⟨W, hW⟩ : ∃ W, Hid (W = w.alloc (.cells #[.slice A n c] 30)) := ⟨_, Lib.hid rfl⟩
  obtain ⟨G, hG⟩ : ∃ g, Hid (g = w.heap.size) := ⟨_, Lib.hid rfl⟩
  have BW : Hid (Below w.heap.size w W) := by rw [hW.out]; exact (Below.refl _ _).alloc (Nat.le_refl _) _
  have RW : Hid (W.rangeAt G 0 [.slice A n c]) := by rw [hW.out, hG.out]; exact rangeNew w _ _
  have hGW : Hid (G < W.heap.size) := by unfold Hid; rw [hG.out, hW.out, szAlloc]; exact Nat.lt_succ_self _
  have E1 := Lib.hid e1
  have E2 := Lib.hid e2
  have E3 := Lib.hid e3
  have E4 := Lib.hid e4
  have HNO := Lib.hid hno
  clear e1 e2 e3 e4 hno
  go_enter Try.func64, Try.ntmps64
  go_wp2_with fail
  rw [← hW.out, ← hG.out]
  go_loopw [5, 6] (fun x5 x6 wr => ∃ (i m : Nat) (A' : Option Addr) (c' : Nat), x5 = .slice A' m c' ∧ x6 = .int .i64 i ∧ i ≤ n ∧ m ≤ i ∧ Hid (Below W.heap.size W wr) ∧ Hid (∃ Qs' : List Rk, Qs'.length = m ∧ (selA (S.take i) a).length = m ∧ wr.ownsRow W.heap.size 127 4 (.slice A' m c') m (Qs'.flatMap rkC) ∧ ∀ (j : Nat) (q : Rk) (x : Int × Kn), Qs'[j]? = some q → (selA (S.take i) a)[j]? = some x → RkX no w q x)) (fun _ x6 _ => n - (intOf x6).toNat)
  case atStart => exact ⟨0, 0, none, 0, rfl, rfl, by omega, by omega, Below.refl _ _, [], rfl, rfl, World.ownsRow_nil _ _ _ _, fun j q x h => by simp at h⟩
  case round =>
    obtain ⟨i, m, A', c', rfl, rfl, hi, hmi, hb, hQ⟩ := hrel
    have r0 := range_keep RW.out hb.out hGW.out
    have c0 := r0 0 _ rfl
    by_cases hin : i < n
    · have hin' : (i : Int) < (n : Int) := by omega
      have hi0 : (0 : Int) ≤ (i : Int) := by omega
      have e8 : IntKind.i64.wrap ((i : Int) + 1) = ((i + 1 : Nat) : Int) := by rw [IntWalk.i64_in _ (by omega)]; omega
      obtain ⟨x, hx⟩ : ∃ x, S[i]? = some x := ⟨_, List.getElem?_eq_getElem (by rw [E2.out]; exact hin)⟩
      obtain ⟨q, hq⟩ : ∃ q, Qs[i]? = some q := ⟨_, List.getElem?_eq_getElem (by rw [E1.out]; exact hin)⟩
      have HX := Lib.hid (E4.out i q x hq hx)
      obtain ⟨b, o, rfl, hbb, hrb⟩ := E3.out.1.elem (fun _ _ => rfl) E1.out hq
      have HRB : Hid (wr.rangeAt b (o + i * 4) (rkC q)) := fun j v hj => (World.cell?_of_block (a := ⟨b, o + i * 4 + j, none⟩) ((hb.out.block b (Nat.lt_of_lt_of_le hbb BW.out.size)).trans (BW.out.block b hbb))).trans (hrb j v hj)
      have c1 : wr.cell? ⟨b, o + i * 4, none⟩ = some (.int .i64 q.au) := HRB.out 0 _ rfl
      have hss := Lib.hid (selA_snoc hx a)
      have HXI := Lib.hid hx
      clear hrb hbb hx hq
      by_cases hxa : x.1 = a
      · have hqa : (q.au == a) = true := by rw [HX.out.au, hxa]; exact beq_self_eq_true a
        rw [if_pos hxa] at hss
        have c2 : wr.cell? ⟨b, o + i * 4 + 1, none⟩ = some (.slice q.dA q.dn q.dc) := HRB.out 1 _ rfl
        have c3 : wr.cell? ⟨b, o + i * 4 + 2, none⟩ = some (.slice q.bA q.bn q.bc) := HRB.out 2 _ rfl
        have c4 : wr.cell? ⟨b, o + i * 4 + 3, none⟩ = some (.int .i64 q.ep) := HRB.out 3 _ rfl
        clear hxa
        go_wp2_with (at_builtin
                     obtain ⟨Qs', g1, g2, g3, g4⟩ := hQ.out
                     have B4 : Hid (Below W.heap.size W (wr.alloc (.cells #[.int .i64 q.au, .slice q.dA q.dn q.dc, .slice q.bA q.bn q.bc, .int .i64 q.ep] 127))) := hb.out.alloc hb.out.size _
                     have g3' := own_to g3 ((Below.refl wr.heap.size wr).alloc (Nat.le_refl _) (.cells #[.int .i64 q.au, .slice q.dA q.dn q.dc, .slice q.bA q.bn q.bc, .int .i64 q.ep] 127))
                     refine wpList_app rfl (.tmp 22) (.tmp 28) 28 rfl W.heap.size 127 4 64 _ Try.underlying28 infoK rfl (by decide) (.slice A' m c') m _ rfl g3' _ (some ⟨wr.heap.size, 0, none⟩) 1 1 (rkC q) rfl (rowK wr q _) (rkC_one q) (by simp only [maxLen]; omega) (by omega) B4.out.size ?_
                     intro A6 c6 w6 o6 g6 _
                     have B6 : Hid (Below W.heap.size W w6) := B4.out.trans (below_grown g6 (own_block_ge2 g3') B4.out.size)
                     have Q6 : Hid (∃ Qs' : List Rk, Qs'.length = m + 1 ∧ (selA (S.take (i + 1)) a).length = m + 1 ∧ w6.ownsRow W.heap.size 127 4 (.slice A6 (m + 1) c6) (m + 1) (Qs'.flatMap rkC) ∧ ∀ (j : Nat) (q : Rk) (x : Int × Kn), Qs'[j]? = some q → (selA (S.take (i + 1)) a)[j]? = some x → RkX no w q x) := by
                       rw [hss.out]
                       refine ⟨Qs' ++ [q], by simp [g1], by simp [g2], by rw [List.flatMap_append, show [q].flatMap rkC = rkC q by simp]; exact o6, fun j q' x' f1 f2 => ?_⟩
                       rcases Nat.lt_or_ge j m with h | h
                       · rw [List.getElem?_append_left (by omega)] at f1
                         rw [List.getElem?_append_left (by omega)] at f2
                         exact g4 j q' x' f1 f2
                       · rw [List.getElem?_append_right (by omega)] at f1
                         rw [List.getElem?_append_right (by omega)] at f2
                         rcases hz : j - m with _ | z
                         · rw [g1, hz] at f1
                           rw [g2, hz] at f2
                           simp at f1 f2
                           subst f1 f2
                           exact HX.out
                         · rw [g1, hz] at f1
                           simp at f1
                     clear o6 g6 g3' g3 g4)
        go_roundw
        case rel => exact ⟨i + 1, m + 1, A6, c6, rfl, by go_num, hin, by omega, B6, Q6⟩
        case measure => simp only [intOf]; omega
      · have hqa : (q.au == a) = false := by rw [HX.out.au]; simpa using hxa
        rw [if_neg hxa] at hss
        clear hxa
        go_wp2_with fail
        go_roundw
        case rel => exact ⟨i + 1, m, A', c', rfl, by go_num, hin, by omega, hb, by rw [hss.out]; exact hQ⟩
        case measure => simp only [intOf]; omega
    · have hiS : Hid (i = n) := (by omega : i = n)
      have hin' : ¬ (i : Int) < (n : Int) := by omega
      go_wp2_with fail
      go_ret
      have BB := BW.out.trans (hb.out.mono BW.out.size)
      obtain ⟨Qs', g1, g2, g3, g4⟩ := hQ.out
      rw [hiS.out, List.take_of_length_le (by rw [E2.out]; exact Nat.le_refl _)] at g2 g4
      refine ⟨A', m, c', rfl, own_cap g3, ⟨Qs', g1, g2, ⟨Rd.of_own g3, fun b o h0 e hm => ?_⟩, fun j q x f1 f2 => (g4 j q x f1 f2).fr (own := []) (own' := []) (Fr.below BB) (fun _ h => absurd h (by simp)) (fun _ h => Or.inl h)⟩, BB⟩
      obtain ⟨g', e', h3, _⟩ := own_addr g3 h0
      rw [e] at e'; injection e' with e'; injection e' with e5
      have h6 := HNO.out b hm
      have h7 := BW.out.size
      omega
end Go.Proofs.Ytabcbpcfleociaa

/- The document's book: At, Head. (Printed by gen_rbb.py.) -/
namespace Go.Proofs.Ytabcbpcfleociaa
open Go.RowKit
attribute [local go_sem ↓] Go.wp_at_zero Go.wp_at_succ
set_option linter.unusedSimpArgs false
set_option linter.unusedVariables false
theorem sel_get {S : Bk} {a : Int} {i : Nat} {k : Kn} (h : (ofA S a)[i]? = some k) : ∃ x, (selA S a)[i]? = some x ∧ x.2 = k := by
  rw [selA_of, List.getElem?_map] at h
  rcases hx : (selA S a)[i]? with _ | x
  · rw [hx] at h; cases h
  · rw [hx] at h; exact ⟨x, rfl, by simpa using h⟩
theorem refAt_no (A : Option Addr) (n c : Nat) (S : Bk) (a q : Int) (no : List Nat) (w : World) (hv : RkN no w A n S) (hn : n ≤ 1000000) (hno : ∀ k, k ∈ no → k < w.heap.size) (hq : q < 1 ∨ (ofA S a).length < q) :
    Calls Try.prog 34 #[.agg #[.slice A n c], .int .i64 a, .int .i64 q] w fun e w' => e = .returned (.tuple #[.slice none 0 0, .int .i64 0]) ∧ Below w.heap.size w w' := by
  obtain ⟨W, hW⟩ : ∃ W, Hid (W = w.alloc (.cells #[.slice A n c] 30)) := ⟨_, Lib.hid rfl⟩
  have BW : Hid (Below w.heap.size w W) := by rw [hW.out]; exact (Below.refl _ _).alloc (Nat.le_refl _) _
  have HV := Lib.hid (hv.below BW.out)
  have HNO : Hid (∀ k, k ∈ no → k < W.heap.size) := fun k hk => Nat.lt_of_lt_of_le (hno k hk) BW.out.size
  clear hv hno
  go_enter Try.func34, Try.ntmps34
  go_wp2_with fail
  rw [← hW.out]
  refine (refOf_ A n c S a no W HV.out hn HNO.out).mono ?_
  rintro e u ⟨A', n', c', rfl, hc, hr, b⟩
  have hl : (ofA S a).length = n' := by rw [← selA_len]; exact hr.len
  rw [hl] at hq
  have BB := Lib.hid (BW.out.trans (b.mono BW.out.size))
  clear hr b hl hc
  by_cases h1 : q < 1
  · go_wp2_with fail
    go_ret2
    exact ⟨rfl, BB.out⟩
  · have h2 : (n' : Int) < q := hq.resolve_left h1
    go_wp2_with fail
    go_ret2
    exact ⟨rfl, BB.out⟩
set_option maxRecDepth 4000 in
set_option maxHeartbeats 1000000 in
theorem refAt_ (A : Option Addr) (n c : Nat) (S : Bk) (a : Int) (i : Nat) (k : Kn) (no : List Nat) (w : World) (hv : RkN no w A n S) (hn : n ≤ 1000000) (hno : ∀ k, k ∈ no → k < w.heap.size) (hk : (ofA S a)[i]? = some k) :
    Calls Try.prog 34 #[.agg #[.slice A n c], .int .i64 a, .int .i64 (i + 1 : Nat)] w fun e w' => ∃ D dn dc, e = .returned (.tuple #[.slice D dn dc, .int .i64 k.ep]) ∧ dn ≤ dc ∧ RdN no w' 1 D dn (k.dg.map B8) ∧ Below w.heap.size w w' := by
  obtain ⟨W, hW⟩ : ∃ W, Hid (W = w.alloc (.cells #[.slice A n c] 30)) := ⟨_, Lib.hid rfl⟩
  have BW : Hid (Below w.heap.size w W) := by rw [hW.out]; exact (Below.refl _ _).alloc (Nat.le_refl _) _
  have hlen : Hid (S.length = n) := hv.len
  have HV := Lib.hid (hv.below BW.out)
  have HNO : Hid (∀ k, k ∈ no → k < W.heap.size) := fun k hk => Nat.lt_of_lt_of_le (hno k hk) BW.out.size
  obtain ⟨x, hx, hxk⟩ := sel_get hk
  have HX := Lib.hid hx
  have HXK := Lib.hid hxk
  have hil : i < (ofA S a).length := by
    rcases Nat.lt_or_ge i (ofA S a).length with h | h
    · exact h
    · rw [List.getElem?_eq_none h] at hk; cases hk
  clear hv hno hk hx hxk
  obtain ⟨q, hq⟩ : ∃ q : Int, Hid (((i + 1 : Nat) : Int) = q) := ⟨_, Lib.hid rfl⟩
  rw [hq.out]
  go_enter Try.func34, Try.ntmps34
  go_wp2_with fail
  rw [← hW.out]
  refine (refOf_ A n c S a no W HV.out hn HNO.out).mono ?_
  rintro e u ⟨A', n', c', rfl, hc, hr, b⟩
  have hl : (ofA S a).length = n' := by rw [← selA_len]; exact hr.len
  rw [hl] at hil
  have hnb : n' ≤ 1000000 := by have := selA_le S a; rw [hr.len] at this; have := hlen.out; omega
  have h1 : ¬ q < 1 := by have := hq.out; omega
  have h2 : ¬ (n' : Int) < q := by have := hq.out; omega
  have hqi : IntKind.i64.wrap (q - 1) = (i : Int) := by rw [IntWalk.i64_in _ (by have := hq.out; omega)]; have := hq.out; omega
  have hi0 : (0 : Int) ≤ (i : Int) := by omega
  have hi1 : (i : Int) < (n' : Int) := by omega
  have BB := Lib.hid (BW.out.trans (b.mono BW.out.size))
  obtain ⟨rb, ro, y, rfl, hrb, hrn, hrg, hrx⟩ := hr.at_ HX.out
  have HRG := Lib.hid hrg
  have HRX := Lib.hid hrx
  have HRB := Lib.hid hrb
  clear hr b hl hrg hrx hrb
  go_wp2_with fail
  obtain ⟨X, hX⟩ : ∃ W, Hid (W = u.drew) := ⟨_, Lib.hid rfl⟩
  have dX : Below u.heap.size u X := by rw [hX.out]; exact below_drew (Below.refl _ _)
  have c1 : X.cell? ⟨rb, ro + i * 4 + 1, none⟩ = some (.slice y.dA y.dn y.dc) := (World.cell?_of_block (a := ⟨rb, ro + i * 4 + 1, none⟩) (dX.block rb HRB.out)).trans (HRG.out 1 _ rfl)
  have c3 : X.cell? ⟨rb, ro + i * 4 + 3, none⟩ = some (.int .i64 y.ep) := (World.cell?_of_block (a := ⟨rb, ro + i * 4 + 3, none⟩) (dX.block rb HRB.out)).trans (HRG.out 3 _ rfl)
  have BX := Lib.hid (BB.out.trans (dX.mono BB.out.size))
  have RX := Lib.hid (HRX.out.fr (no' := no) (Fr.below (own := []) dX) (fun _ h => absurd h (by simp)) (fun _ h => Or.inl h))
  refine wp_region_noPanic ?_
  refine wp_region_held_drew (S := fun w' => w' = X) (by kernel_rfl) hX.out.symm (fun hS => ?_)
  rw [← hX.out]
  clear hS
  have hS : X = X := rfl
  refine wpAnyH_take (i := 0) (v := ?v0) rfl (by kernel_rfl) (by kernel_rfl) (by kernel_rfl) (fun _ _ _ h => h) (Or.inl ⟨by rfl, ?hy0⟩) hS ?rest0
  case hy0 => ((intro w' hSw; subst hSw; go_simp; first | done | with_reducible rfl))
  try simp only [Act.put, List.getElem_toArray, List.getElem_cons_zero, List.getElem_cons_succ, List.setIfInBounds_toArray, List.set_cons_zero, List.set_cons_succ]
  refine wpAnyH_take (i := 1) (v := ?v1) rfl (by kernel_rfl) (by kernel_rfl) (by kernel_rfl) (fun _ _ _ h => h) (Or.inl ⟨by rfl, ?hy1⟩) hS ?rest1
  case hy1 => ((intro w' hSw; subst hSw; go_simp; first | done | with_reducible rfl))
  try simp only [Act.put, List.getElem_toArray, List.getElem_cons_zero, List.getElem_cons_succ, List.setIfInBounds_toArray, List.set_cons_zero, List.set_cons_succ]
  refine wpAnyH_take (i := 2) (v := .int .i64 (i : Int)) rfl (by kernel_rfl) (by kernel_rfl) (by kernel_rfl) (fun _ _ _ h => h) (Or.inl ⟨by rfl, ?hy2⟩) hS ?rest2
  case hy2 => ((intro w' hSw; subst hSw; go_simp; first | done | with_reducible rfl))
  try simp only [Act.put, List.getElem_toArray, List.getElem_cons_zero, List.getElem_cons_succ, List.setIfInBounds_toArray, List.set_cons_zero, List.set_cons_succ]
  refine wpAnyH_take (i := 3) (v := .pointer (some ⟨rb, ro + i * 4, none⟩)) rfl (by kernel_rfl) (by kernel_rfl) (by kernel_rfl) (fun _ _ _ h => h) (Or.inl ⟨by rfl, ?hy3⟩) hS ?rest3
  case hy3 => ((intro w' hSw; subst hSw; go_simp; first | done | with_reducible rfl))
  try simp only [Act.put, List.getElem_toArray, List.getElem_cons_zero, List.getElem_cons_succ, List.setIfInBounds_toArray, List.set_cons_zero, List.set_cons_succ]
  refine wpAnyH_take (i := 4) (v := .pointer (some ⟨rb, ro + i * 4 + 1, none⟩)) rfl (by kernel_rfl) (by kernel_rfl) (by kernel_rfl) (fun _ _ _ h => h) (Or.inl ⟨by rfl, ?hy4⟩) hS ?rest4
  case hy4 => ((intro w' hSw; subst hSw; go_simp; first | done | with_reducible rfl))
  try simp only [Act.put, List.getElem_toArray, List.getElem_cons_zero, List.getElem_cons_succ, List.setIfInBounds_toArray, List.set_cons_zero, List.set_cons_succ]
  refine wpAnyH_take (i := 5) (v := .slice y.dA y.dn y.dc) rfl (by kernel_rfl) (by kernel_rfl) (by kernel_rfl) (fun _ _ _ h => h) (Or.inl ⟨by rfl, ?hy5⟩) hS ?rest5
  case hy5 => ((intro w' hSw; subst hSw; go_simp; first | done | with_reducible rfl))
  try simp only [Act.put, List.getElem_toArray, List.getElem_cons_zero, List.getElem_cons_succ, List.setIfInBounds_toArray, List.set_cons_zero, List.set_cons_succ]
  refine wpAnyH_take (i := 6) (v := ?v6) rfl (by kernel_rfl) (by kernel_rfl) (by kernel_rfl) (fun _ _ _ h => h) (Or.inl ⟨by rfl, ?hy6⟩) hS ?rest6
  case hy6 => ((intro w' hSw; subst hSw; go_simp; first | done | with_reducible rfl))
  try simp only [Act.put, List.getElem_toArray, List.getElem_cons_zero, List.getElem_cons_succ, List.setIfInBounds_toArray, List.set_cons_zero, List.set_cons_succ]
  refine wpAnyH_take (i := 7) (v := ?v7) rfl (by kernel_rfl) (by kernel_rfl) (by kernel_rfl) (fun _ _ _ h => h) (Or.inl ⟨by rfl, ?hy7⟩) hS ?rest7
  case hy7 => ((intro w' hSw; subst hSw; go_simp; first | done | with_reducible rfl))
  try simp only [Act.put, List.getElem_toArray, List.getElem_cons_zero, List.getElem_cons_succ, List.setIfInBounds_toArray, List.set_cons_zero, List.set_cons_succ]
  refine wpAnyH_take (i := 8) (v := .int .i64 (i : Int)) rfl (by kernel_rfl) (by kernel_rfl) (by kernel_rfl) (fun _ _ _ h => h) (Or.inl ⟨by rfl, ?hy8⟩) hS ?rest8
  case hy8 => ((intro w' hSw; subst hSw; go_simp; first | done | with_reducible rfl))
  try simp only [Act.put, List.getElem_toArray, List.getElem_cons_zero, List.getElem_cons_succ, List.setIfInBounds_toArray, List.set_cons_zero, List.set_cons_succ]
  refine wpAnyH_take (i := 9) (v := .pointer (some ⟨rb, ro + i * 4, none⟩)) rfl (by kernel_rfl) (by kernel_rfl) (by kernel_rfl) (fun _ _ _ h => h) (Or.inl ⟨by rfl, ?hy9⟩) hS ?rest9
  case hy9 => ((intro w' hSw; subst hSw; go_simp; first | done | with_reducible rfl))
  try simp only [Act.put, List.getElem_toArray, List.getElem_cons_zero, List.getElem_cons_succ, List.setIfInBounds_toArray, List.set_cons_zero, List.set_cons_succ]
  refine wpAnyH_take (i := 10) (v := .pointer (some ⟨rb, ro + i * 4 + 3, none⟩)) rfl (by kernel_rfl) (by kernel_rfl) (by kernel_rfl) (fun _ _ _ h => h) (Or.inl ⟨by rfl, ?hy10⟩) hS ?rest10
  case hy10 => ((intro w' hSw; subst hSw; go_simp; first | done | with_reducible rfl))
  try simp only [Act.put, List.getElem_toArray, List.getElem_cons_zero, List.getElem_cons_succ, List.setIfInBounds_toArray, List.set_cons_zero, List.set_cons_succ]
  refine wpAnyH_take (i := 11) (v := .int .i64 y.ep) rfl (by kernel_rfl) (by kernel_rfl) (by kernel_rfl) (fun _ _ _ h => h) (Or.inl ⟨by rfl, ?hy11⟩) hS ?rest11
  case hy11 => ((intro w' hSw; subst hSw; go_simp; first | done | with_reducible rfl))
  try simp only [Act.put, List.getElem_toArray, List.getElem_cons_zero, List.getElem_cons_succ, List.setIfInBounds_toArray, List.set_cons_zero, List.set_cons_succ]
  refine wpAnyH_take (i := 12) (v := ?v12) rfl (by kernel_rfl) (by kernel_rfl) (by kernel_rfl) (fun _ _ _ h => h) (Or.inl ⟨by rfl, ?hy12⟩) hS ?rest12
  case hy12 => ((intro w' hSw; subst hSw; go_simp; first | done | with_reducible rfl))
  try simp only [Act.put, List.getElem_toArray, List.getElem_cons_zero, List.getElem_cons_succ, List.setIfInBounds_toArray, List.set_cons_zero, List.set_cons_succ]
  refine wpAnyH_take (i := 13) (v := ?v13) rfl (by kernel_rfl) (by kernel_rfl) (by kernel_rfl) (fun _ _ _ h => h) (Or.inl ⟨by rfl, ?hy13⟩) hS ?rest13
  case hy13 => ((intro w' hSw; subst hSw; go_simp; first | done | with_reducible rfl))
  try simp only [Act.put, List.getElem_toArray, List.getElem_cons_zero, List.getElem_cons_succ, List.setIfInBounds_toArray, List.set_cons_zero, List.set_cons_succ]
  refine wpAnyH_done (by kernel_rfl) (NoPanic.normal ?_) _
  go_wp2_with fail
  go_ret2
  refine ⟨y.dA, y.dn, y.dc, ?_, RX.out.dl, ?_, BX.out⟩
  · rw [← HXK.out, ← RX.out.ep]; rfl
  · rw [← HXK.out]; exact RX.out.dg
theorem refHead_off (A : Option Addr) (n c : Nat) (a : Int) (w : World) (h : a < 0 ∨ 5 ≤ a) :
    Calls Try.prog 33 #[.agg #[.slice A n c], .int .i64 a] w fun e w' => e = .returned (.agg #[.int .i64 0, .int .i64 0, .slice none 0 0]) ∧ Below w.heap.size w w' := by
  have hb : Below w.heap.size w ((w.alloc (.cells #[.slice A n c] 30)).alloc (.cells #[.int .i64 0, .int .i64 0, .slice none 0 0] 45)) := ((Below.refl _ _).alloc (Nat.le_refl _) _).alloc (by rw [szAlloc]; omega) _
  by_cases h1 : a < 0
  · go_enter Try.func33, Try.ntmps33
    go_wp2_with fail
    go_returns
    exact ⟨rfl, hb⟩
  · have h2 : 4 < a := by omega
    go_enter Try.func33, Try.ntmps33
    go_wp2_with fail
    go_returns
    exact ⟨rfl, hb⟩
set_option maxRecDepth 4000 in
set_option maxHeartbeats 1000000 in
theorem refHead_in (A : Option Addr) (n c : Nat) (S : Bk) (a : Int) (no : List Nat) (w : World) (hv : RkN no w A n S) (hn : n ≤ 1000000) (hno : ∀ k, k ∈ no → k < w.heap.size) (h0 : 0 ≤ a) (h5 : a < 5) :
    Calls Try.prog 33 #[.agg #[.slice A n c], .int .i64 a] w fun e w' => ∃ D dn dc, e = .returned (.agg #[.int .i64 a, .int .i64 (ofA S a).length, .slice D dn dc]) ∧ dn ≤ dc ∧ RdN no w' 1 D dn ((lastDg (ofA S a)).map B8) ∧ Below w.heap.size w w' := by
  have hlen : Hid (S.length = n) := hv.len
  have hna : ¬ a < 0 := by omega
  have hn4 : ¬ 4 < a := by omega
  obtain ⟨W, hW⟩ : ∃ W, Hid (W = (w.alloc (.cells #[.slice A n c] 30)).alloc (.cells #[.int .i64 0, .int .i64 0, .slice none 0 0] 45)) := ⟨_, Lib.hid rfl⟩
  have hs1 : (w.alloc (.cells #[.slice A n c] 30)).heap.size = w.heap.size + 1 := szAlloc _ _
  have BW : Hid (Below w.heap.size w W) := by rw [hW.out]; exact ((Below.refl _ _).alloc (Nat.le_refl _) _).alloc (by rw [szAlloc]; omega) _
  obtain ⟨G, hG⟩ : ∃ g, Hid (g = w.heap.size + 1) := ⟨_, Lib.hid rfl⟩
  have R1 : Hid (W.heap[G]? = some (.cells #[.int .i64 0, .int .i64 0, .slice none 0 0] 45 (0, 0))) := by
    unfold Hid
    rw [hW.out, hG.out, ← hs1]
    exact heap_alloc_new _ _
  have hGW : Hid (G < W.heap.size) := lt_of_blk R1.out
  have HV := Lib.hid (hv.fr (no' := G :: no) (own := []) (own' := []) (Fr.below BW.out) (fun _ h => absurd h (by simp)) (fun k hk => by rcases List.mem_cons.1 hk with h | h; exact Or.inr (by rw [h, hG.out]; omega); exact Or.inl h))
  have HNO : Hid (∀ k, k ∈ G :: no → k < W.heap.size) := fun k hk => by rcases List.mem_cons.1 hk with h | h; exact h ▸ hGW.out; exact Nat.lt_of_lt_of_le (hno k h) BW.out.size
  clear hv hno hs1
  go_enter Try.func33, Try.ntmps33
  go_wp2_with fail
  rw [← hW.out, ← hG.out]
  refine (refOf_ A n c S a (G :: no) W HV.out hn HNO.out).mono ?_
  rintro e u ⟨A', n', c', rfl, hc, hr, b⟩
  have hl : Hid ((ofA S a).length = n') := by unfold Hid; rw [← selA_len]; exact hr.len
  have hnb : n' ≤ 1000000 := by have := selA_le S a; rw [hr.len] at this; have := hlen.out; omega
  have BB := Lib.hid (BW.out.trans (b.mono BW.out.size))
  have HR := Lib.hid hr
  have hGu : Hid (G < u.heap.size) := Nat.lt_of_lt_of_le hGW.out b.size
  have HB := Lib.hid b
  clear hr b hc
  by_cases hz : n' = 0
  · subst hz
    have hzz : ofA S a = [] := List.length_eq_zero_iff.1 hl.out
    have hB1 : ∀ o, (u.alloc o).heap[G]? = some (.cells #[.int .i64 0, .int .i64 0, .slice none 0 0] 45 (0, 0)) := fun o => (heap_alloc_old u o hGu.out).trans ((HB.out.block G hGW.out).trans R1.out)
    go_wp2_with (refine wpList_store_row rfl 45 (.tmp 4) (.tmp 32) rfl G #[.int .i64 a, .int .i64 0, .slice none 0 0] rfl rfl _ _ (hB1 _) (by kernel_rfl) rfl (by kernel_rfl) ?_)
    generalize hQ : World.setRow _ _ _ = Z
    have hQg : Z.heap[G]? = some (.cells #[.int .i64 a, .int .i64 0, .slice none 0 0] 45 (0, 0)) := by rw [← hQ]; exact setRow_heap _ _ _ _ _ _ (hB1 _)
    have hQb : Below w.heap.size w Z := by rw [← hQ]; exact below_setRow (BB.out.alloc BB.out.size _) (by have := hG.out; omega) _
    refine bodyPost_ret (v := .agg #[.int .i64 a, .int .i64 0, .slice none 0 0]) (results_cell Try.results33 rfl (run_loadVar_mid (P := Try.prog) Z G 0 45 _ _ (range_of hQg) Try.underlying45 rfl (by kernel_rfl))) rfl ?_
    exact ⟨none, 0, 0, by rw [hl.out]; rfl, Nat.le_refl _, by rw [hzz]; exact RdN.nil _ _ _, hQb⟩
  · obtain ⟨k, hk1, hk2⟩ := last_at (L := ofA S a) (fun h => hz (by rw [← hl.out, h]; rfl))
    have hD : Hid (lastDg (ofA S a) = k.dg) := by unfold Hid; rw [lastDg, hk2]; rfl
    obtain ⟨x, hx, hxk⟩ := sel_get hk1
    rw [hl.out] at hx
    obtain ⟨i, hi⟩ : ∃ i, Hid (n' = i + 1) := ⟨n' - 1, by unfold Hid; omega⟩
    rw [show n' - 1 = i by have := hi.out; omega] at hx
    have HXK := Lib.hid hxk
    obtain ⟨rb, ro, y, rfl, hrb, hrn, hrg, hrx⟩ := HR.out.at_ hx
    have hlp : (0 : Int) < (n' : Int) := by omega
    have hlp2 : 0 < n' := by omega
    have hwi : IntKind.i64.wrap ((n' : Int) - 1) = (i : Int) := by rw [IntWalk.i64_in _ (by omega)]; have := hi.out; omega
    have hi0 : (0 : Int) ≤ (i : Int) := by omega
    have hi1 : (i : Int) < (n' : Int) := by have := hi.out; omega
    have hi2 : i < n' := by have := hi.out; omega
    have c1 : ∀ o, (u.alloc o).cell? ⟨rb, ro + i * 4 + 1, none⟩ = some (.slice y.dA y.dn y.dc) := fun o => (World.cell?_alloc_lt u o _ hrb).trans (hrg 1 _ rfl)
    have HRX := Lib.hid hrx
    have hB2 : ∀ o, (u.alloc o).heap[G]? = some (.cells #[.int .i64 0, .int .i64 0, .slice none 0 0] 45 (0, 0)) := fun o => (heap_alloc_old u o hGu.out).trans ((HB.out.block G hGW.out).trans R1.out)
    clear hk1 hk2 hx hxk hrg hrx
    go_wp2_with (refine wpList_store_row rfl 45 (.tmp 4) (.tmp 32) rfl G #[.int .i64 a, .int .i64 n', .slice y.dA y.dn y.dc] rfl rfl _ _ (hB2 _) (by kernel_rfl) rfl (by kernel_rfl) ?_)
    generalize hQ : World.setRow _ _ _ = Z
    have hQg : Z.heap[G]? = some (.cells #[.int .i64 a, .int .i64 n', .slice y.dA y.dn y.dc] 45 (0, 0)) := by rw [← hQ]; exact setRow_heap _ _ _ _ _ _ (hB2 _)
    have hQf : Fr [G] u Z [G] := by
      rw [← hQ]
      refine ⟨rfl, rfl, rfl, by rw [setRow_size, szAlloc]; omega, fun k hk hn => ?_, fun k hk => Or.inl hk⟩
      rw [setRow_other _ _ _ _ (by simpa using hn)]
      exact heap_alloc_old u _ hk
    have hQb : Below w.heap.size w Z := by rw [← hQ]; exact below_setRow (BB.out.alloc BB.out.size _) (by have := hG.out; omega) _
    refine bodyPost_ret (v := .agg #[.int .i64 a, .int .i64 n', .slice y.dA y.dn y.dc]) (results_cell Try.results33 rfl (run_loadVar_mid (P := Try.prog) Z G 0 45 _ _ (range_of hQg) Try.underlying45 rfl (by kernel_rfl))) rfl ?_
    refine ⟨y.dA, y.dn, y.dc, by rw [hl.out], HRX.out.dl, ?_, hQb⟩
    rw [hD.out, ← HXK.out]
    exact (HRX.out.fr (no' := no) hQf (fun k hk => by simp at hk; simp [hk]) (fun k hk => Or.inl (List.mem_cons_of_mem _ hk))).dg
end Go.Proofs.Ytabcbpcfleociaa
