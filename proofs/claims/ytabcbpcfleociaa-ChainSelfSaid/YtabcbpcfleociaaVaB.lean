/- The document's vault: its terms in memory; same, Called. (Printed by gen_vab.py.) -/
import Derived.Test.YtabcbpcfleociaaVaA
import Derived.Test.YtabcbpcfleociaaChF
namespace Go.Proofs.Ytabcbpcfleociaa
open Go.RowKit
attribute [local go_sem ↓] Go.wp_at_zero Go.wp_at_succ
set_option linter.unusedSimpArgs false
set_option linter.unusedVariables false
/-- A slice of one text. -/
def OneAt (w : World) (B : Nat) (qb qo : Nat) (h : List UInt8) : Prop := qb < B ∧ ∃ Ai ci, w.cell? ⟨qb, qo, none⟩ = some (.slice Ai h.length ci) ∧ Rd w B 1 Ai h.length (h.map B8)
def trC (q : Nat × Nat × Nat) : List Value := [.int .u8 104, .slice (some ⟨q.1, q.2.1, none⟩) 1 q.2.2]
/-- A vault's terms. -/
def VtL (w : World) (B : Nat) (A : Option Addr) (n : Nat) (hs : List (List UInt8)) : Prop := ∃ Qs : List (Nat × Nat × Nat), Qs.length = n ∧ hs.length = n ∧ Rd w B 2 A n (Qs.flatMap trC) ∧ ∀ (i : Nat) (q : Nat × Nat × Nat) (h : List UInt8), Qs[i]? = some q → hs[i]? = some h → OneAt w B q.1 q.2.1 h
theorem OneAt.below {w w' : World} {B qb qo : Nat} {h : List UInt8} (H : OneAt w B qb qo h) (hb : Below B w w') : OneAt w' B qb qo h := by
  obtain ⟨h1, A, c, h2, h3⟩ := H
  exact ⟨h1, A, c, (World.cell?_of_block (a := ⟨qb, qo, none⟩) (hb.block qb h1)).trans h2, h3.below hb⟩
theorem OneAt.more {w : World} {B B' qb qo : Nat} {h : List UInt8} (H : OneAt w B qb qo h) (hb : B ≤ B') : OneAt w B' qb qo h := by
  obtain ⟨h1, A, c, h2, h3⟩ := H
  exact ⟨Nat.lt_of_lt_of_le h1 hb, A, c, h2, h3.more hb⟩
theorem VtL.below {w w' : World} {B n : Nat} {A : Option Addr} {hs : List (List UInt8)} (H : VtL w B A n hs) (hb : Below B w w') : VtL w' B A n hs := by
  obtain ⟨Qs, h1, h2, h3, h4⟩ := H
  exact ⟨Qs, h1, h2, h3.below hb, fun i q h e1 e2 => (h4 i q h e1 e2).below hb⟩
theorem VtL.more {w : World} {B B' n : Nat} {A : Option Addr} {hs : List (List UInt8)} (H : VtL w B A n hs) (hb : B ≤ B') : VtL w B' A n hs := by
  obtain ⟨Qs, h1, h2, h3, h4⟩ := H
  exact ⟨Qs, h1, h2, h3.more hb, fun i q h e1 e2 => (h4 i q h e1 e2).more hb⟩
theorem VtL.to {w w' : World} {n : Nat} {A : Option Addr} {hs : List (List UInt8)} (H : VtL w w.heap.size A n hs) (hb : Below w.heap.size w w') : VtL w' w'.heap.size A n hs := (H.below hb).more hb.size
theorem VtL.nil (w : World) (B : Nat) (A : Option Addr) : VtL w B A 0 [] := ⟨[], rfl, rfl, Rd.nil _ _ _ _, fun i q h hi => by simp at hi⟩
theorem flat_get {α : Type} {f : α → List Value} {s : Nat} : ∀ (L : List α), (∀ k ∈ L, (f k).length = s) → ∀ (i : Nat) (k : α), L[i]? = some k → ∀ j v, (f k)[j]? = some v → (L.flatMap f)[i * s + j]? = some v := by
  intro L
  induction L with
  | nil => intro _ i k h; simp at h
  | cons a t ih =>
    intro hL i k hi j v hj
    have ha := hL a (by simp)
    rw [List.flatMap_cons]
    rcases i with _ | i
    · simp at hi
      subst hi
      have hjl : j < (f a).length := by
        rcases Nat.lt_or_ge j (f a).length with h | h
        · exact h
        · rw [List.getElem?_eq_none h] at hj; cases hj
      rw [Nat.zero_mul, Nat.zero_add, List.getElem?_append_left hjl]
      exact hj
    · rw [List.getElem?_append_right (by rw [ha, Nat.succ_mul]; omega), ha, show (i + 1) * s + j - s = i * s + j by rw [Nat.succ_mul]; omega]
      exact ih (fun k hk => hL k (by simp [hk])) i k (by simpa using hi) j v hj
/-- The i-th element's cells of a row. -/
theorem Rd.elem {α : Type} {f : α → List Value} {s : Nat} {w : World} {B n : Nat} {A : Option Addr} {L : List α} (h : Rd w B s A n (L.flatMap f)) (hf : ∀ k ∈ L, (f k).length = s) (hn : L.length = n) {i : Nat} {k : α} (hk : L[i]? = some k) :
    ∃ b o, A = some ⟨b, o, none⟩ ∧ b < B ∧ w.rangeAt b (o + i * s) (f k) := by
  have hi : i < L.length := by
    rcases Nat.lt_or_ge i L.length with h | h
    · exact h
    · rw [List.getElem?_eq_none h] at hk; cases hk
  obtain ⟨b, o, e, hb, hc⟩ := h.2 (by omega)
  refine ⟨b, o, e, hb, fun j v hj => ?_⟩
  have := hc (i * s + j) v (flat_get L hf i k hk j v hj)
  rwa [← Nat.add_assoc] at this
theorem VtL.at_ {w : World} {B n : Nat} {A : Option Addr} {hs : List (List UInt8)} (H : VtL w B A n hs) {i : Nat} {h : List UInt8} (hi : hs[i]? = some h) : ∃ b o qb qo qc, A = some ⟨b, o, none⟩ ∧ b < B ∧ w.rangeAt b (o + i * 2) [.int .u8 104, .slice (some ⟨qb, qo, none⟩) 1 qc] ∧ OneAt w B qb qo h := by
  obtain ⟨Qs, h1, h2, h3, h4⟩ := H
  have hil : i < Qs.length := by
    rcases Nat.lt_or_ge i hs.length with h | h
    · omega
    · rw [List.getElem?_eq_none h] at hi; cases hi
  obtain ⟨b, o, e, hb, hr⟩ := h3.elem (fun _ _ => rfl) h1 (List.getElem?_eq_getElem hil)
  exact ⟨b, o, _, _, _, e, hb, hr, h4 i _ h (List.getElem?_eq_getElem hil) hi⟩
theorem OneAt.to {w w' : World} {qb qo : Nat} {h : List UInt8} (H : OneAt w w.heap.size qb qo h) (hb : Below w.heap.size w w') : OneAt w' w'.heap.size qb qo h := (H.below hb).more hb.size
theorem neq_str (a b : List UInt8) : ((str a).toList != (str b).toList) = !decide (a = b) := by
  rw [bne, eq_str]
set_option maxHeartbeats 1000000 in
theorem same_ (qb qo qc qb' qo' qc' : Nat) (h h' : List UInt8) (w : World) (h1 : OneAt w w.heap.size qb qo h) (h2 : OneAt w w.heap.size qb' qo' h') :
    Calls Try.prog 73 #[.agg #[.int .u8 104, .slice (some ⟨qb, qo, none⟩) 1 qc], .agg #[.int .u8 104, .slice (some ⟨qb', qo', none⟩) 1 qc']] w fun e w' => e = .returned (.bool (decide (h = h'))) ∧ Below w.heap.size w w' := by
  obtain ⟨W, hW⟩ : ∃ W, Hid (W = (w.alloc (.cells #[.int .u8 104, .slice (some ⟨qb, qo, none⟩) 1 qc] 124)).alloc (.cells #[.int .u8 104, .slice (some ⟨qb', qo', none⟩) 1 qc'] 124)) := ⟨_, Lib.hid rfl⟩
  obtain ⟨G, hG⟩ : ∃ g, Hid (g = w.heap.size) := ⟨_, Lib.hid rfl⟩
  have hs1 : (w.alloc (.cells #[.int .u8 104, .slice (some ⟨qb, qo, none⟩) 1 qc] 124)).heap.size = w.heap.size + 1 := szAlloc _ _
  have BW : Hid (Below w.heap.size w W) := by rw [hW.out]; exact ((Below.refl _ _).alloc (Nat.le_refl _) _).alloc (by rw [szAlloc]; omega) _
  have R1 : Hid (W.rangeAt G 0 [.int .u8 104, .slice (some ⟨qb, qo, none⟩) 1 qc]) := by rw [hW.out, hG.out]; exact fun j v hj => (World.cell?_alloc_lt _ _ _ (by rw [hs1]; exact Nat.lt_succ_self _)).trans (rangeNew w _ _ j v hj)
  have R2 : Hid (W.rangeAt (G + 1) 0 [.int .u8 104, .slice (some ⟨qb', qo', none⟩) 1 qc']) := by rw [hW.out, hG.out, ← hs1]; exact rangeNew _ _ _
  have hGs : Hid (G + 1 < W.heap.size) := by unfold Hid; rw [hG.out, hW.out, szAlloc, hs1]; exact Nat.lt_succ_self _
  have H1 := Lib.hid (h1.to BW.out)
  have H2 := Lib.hid (h2.to BW.out)
  have c10 := R1.out 0 _ rfl
  have c11 := R1.out 1 _ rfl
  have c20 := R2.out 0 _ rfl
  have c21 := R2.out 1 _ rfl
  rw [hW.out, hG.out] at c10 c11 c20 c21
  clear h1 h2 hs1
  go_enter Try.func73, Try.ntmps73
  go_wp2_with fail
  rw [← hW.out, ← hG.out]
  clear c10 c11 c20 c21
  obtain ⟨bb, hbb⟩ : ∃ b, Hid (decide (h = h') = b) := ⟨_, Lib.hid rfl⟩
  go_loopw [5] (fun x5 wr => ∃ i : Nat, x5 = .int .i64 i ∧ i ≤ 1 ∧ (i = 1 → bb = true) ∧ Hid (Below W.heap.size W wr)) (fun x5 _ => 1 - (intOf x5).toNat)
  case atStart => exact ⟨0, rfl, by omega, fun h => absurd h (by omega), Below.refl _ _⟩
  case round =>
    obtain ⟨i, rfl, hi, hib, hb⟩ := hrel
    have r1 := range_keep R1.out hb.out (Nat.lt_of_succ_lt hGs.out)
    have r2 := range_keep R2.out hb.out hGs.out
    have c11 := r1 1 _ rfl
    have c21 := r2 1 _ rfl
    by_cases h0 : i = 0
    · subst h0
      obtain ⟨q1, A1, n1, k1, k2⟩ := H1.out.to hb.out
      obtain ⟨q2, A2, n2, k3, k4⟩ := H2.out.to hb.out
      have e8 : IntKind.i64.wrap (0 + 1) = 1 := by decide
      obtain ⟨ln1, hln1⟩ : ∃ n, Hid (n = h.length) := ⟨_, Lib.hid rfl⟩
      obtain ⟨ln2, hln2⟩ : ∃ n, Hid (n = h'.length) := ⟨_, Lib.hid rfl⟩
      rw [← hln1.out] at k1 k2
      rw [← hln2.out] at k3 k4
      have K2 := Lib.hid k2
      have K4 := Lib.hid k4
      clear k2 k4
      go_wp2_with fail
      obtain ⟨X, hX⟩ : ∃ W, Hid (W = wr.drew) := ⟨_, Lib.hid rfl⟩
      have dX : Below wr.heap.size wr X := by rw [hX.out]; exact below_drew (Below.refl _ _)
      have x11 := (range_keep r1 dX (Nat.lt_of_lt_of_le (Nat.lt_of_succ_lt hGs.out) hb.out.size)) 1 _ rfl
      have x21 := (range_keep r2 dX (Nat.lt_of_lt_of_le hGs.out hb.out.size)) 1 _ rfl
      have y1 : X.cell? ⟨qb, qo, none⟩ = some (.slice A1 ln1 n1) := (World.cell?_of_block (a := ⟨qb, qo, none⟩) (dX.block qb q1)).trans k1
      have y2 : X.cell? ⟨qb', qo', none⟩ = some (.slice A2 ln2 n2) := (World.cell?_of_block (a := ⟨qb', qo', none⟩) (dX.block qb' q2)).trans k3
      have v1 := conv8 X A1 ln1 n1 h (K2.out.to dX)
      have v2 := conv8 X A2 ln2 n2 h' (K4.out.to dX)
      have BX := Lib.hid (hb.out.trans (dX.mono hb.out.size))
      clear c11 c21
      refine wp_region_noPanic ?_
      refine wp_region_held_drew (S := fun w' => w' = X) (by kernel_rfl) hX.out.symm (fun hS => ?_)
      rw [← hX.out]
      clear hS
      have hS : X = X := rfl
      refine wpAnyH_take (i := 0) (v := ?v0) rfl (by kernel_rfl) (by kernel_rfl) (by kernel_rfl) (fun _ _ _ h => h) (Or.inl ⟨by rfl, ?hy0⟩) hS ?rest0
      case hy0 => ((intro w' hSw; subst hSw; go_simp; first | done | with_reducible rfl))
      try simp only [Act.put, List.getElem_toArray, List.getElem_cons_zero, List.getElem_cons_succ, List.setIfInBounds_toArray, List.set_cons_zero, List.set_cons_succ]
      refine wpAnyH_take (i := 1) (v := .slice (some ⟨qb, qo, none⟩) 1 qc) rfl (by kernel_rfl) (by kernel_rfl) (by kernel_rfl) (fun _ _ _ h => h) (Or.inl ⟨by rfl, ?hy1⟩) hS ?rest1
      case hy1 => ((intro w' hSw; subst hSw; go_simp; first | done | with_reducible rfl))
      try simp only [Act.put, List.getElem_toArray, List.getElem_cons_zero, List.getElem_cons_succ, List.setIfInBounds_toArray, List.set_cons_zero, List.set_cons_succ]
      refine wpAnyH_take (i := 2) (v := ?v2) rfl (by kernel_rfl) (by kernel_rfl) (by kernel_rfl) (fun _ _ _ h => h) (Or.inl ⟨by rfl, ?hy2⟩) hS ?rest2
      case hy2 => ((intro w' hSw; subst hSw; go_simp; first | done | with_reducible rfl))
      try simp only [Act.put, List.getElem_toArray, List.getElem_cons_zero, List.getElem_cons_succ, List.setIfInBounds_toArray, List.set_cons_zero, List.set_cons_succ]
      refine wpAnyH_take (i := 3) (v := .pointer (some ⟨qb, qo, none⟩)) rfl (by kernel_rfl) (by kernel_rfl) (by kernel_rfl) (fun _ _ _ h => h) (Or.inl ⟨by rfl, ?hy3⟩) hS ?rest3
      case hy3 => ((intro w' hSw; subst hSw; go_simp; first | done | with_reducible rfl))
      try simp only [Act.put, List.getElem_toArray, List.getElem_cons_zero, List.getElem_cons_succ, List.setIfInBounds_toArray, List.set_cons_zero, List.set_cons_succ]
      refine wpAnyH_take (i := 4) (v := .slice A1 ln1 n1) rfl (by kernel_rfl) (by kernel_rfl) (by kernel_rfl) (fun _ _ _ h => h) (Or.inl ⟨by rfl, ?hy4⟩) hS ?rest4
      case hy4 => ((intro w' hSw; subst hSw; go_simp; first | done | with_reducible rfl))
      try simp only [Act.put, List.getElem_toArray, List.getElem_cons_zero, List.getElem_cons_succ, List.setIfInBounds_toArray, List.set_cons_zero, List.set_cons_succ]
      refine wpAnyH_take (i := 5) (v := .string (str h)) rfl (by kernel_rfl) (by kernel_rfl) (by kernel_rfl) (fun _ _ _ h => h) (Or.inl ⟨by rfl, ?hy5⟩) hS ?rest5
      case hy5 => ((intro w' hSw; subst hSw; go_simp; first | done | with_reducible rfl))
      try simp only [Act.put, List.getElem_toArray, List.getElem_cons_zero, List.getElem_cons_succ, List.setIfInBounds_toArray, List.set_cons_zero, List.set_cons_succ]
      refine wpAnyH_take (i := 6) (v := ?v6) rfl (by kernel_rfl) (by kernel_rfl) (by kernel_rfl) (fun _ _ _ h => h) (Or.inl ⟨by rfl, ?hy6⟩) hS ?rest6
      case hy6 => ((intro w' hSw; subst hSw; go_simp; first | done | with_reducible rfl))
      try simp only [Act.put, List.getElem_toArray, List.getElem_cons_zero, List.getElem_cons_succ, List.setIfInBounds_toArray, List.set_cons_zero, List.set_cons_succ]
      refine wpAnyH_take (i := 7) (v := .slice (some ⟨qb', qo', none⟩) 1 qc') rfl (by kernel_rfl) (by kernel_rfl) (by kernel_rfl) (fun _ _ _ h => h) (Or.inl ⟨by rfl, ?hy7⟩) hS ?rest7
      case hy7 => ((intro w' hSw; subst hSw; go_simp; first | done | with_reducible rfl))
      try simp only [Act.put, List.getElem_toArray, List.getElem_cons_zero, List.getElem_cons_succ, List.setIfInBounds_toArray, List.set_cons_zero, List.set_cons_succ]
      refine wpAnyH_take (i := 8) (v := ?v8) rfl (by kernel_rfl) (by kernel_rfl) (by kernel_rfl) (fun _ _ _ h => h) (Or.inl ⟨by rfl, ?hy8⟩) hS ?rest8
      case hy8 => ((intro w' hSw; subst hSw; go_simp; first | done | with_reducible rfl))
      try simp only [Act.put, List.getElem_toArray, List.getElem_cons_zero, List.getElem_cons_succ, List.setIfInBounds_toArray, List.set_cons_zero, List.set_cons_succ]
      refine wpAnyH_take (i := 9) (v := .pointer (some ⟨qb', qo', none⟩)) rfl (by kernel_rfl) (by kernel_rfl) (by kernel_rfl) (fun _ _ _ h => h) (Or.inl ⟨by rfl, ?hy9⟩) hS ?rest9
      case hy9 => ((intro w' hSw; subst hSw; go_simp; first | done | with_reducible rfl))
      try simp only [Act.put, List.getElem_toArray, List.getElem_cons_zero, List.getElem_cons_succ, List.setIfInBounds_toArray, List.set_cons_zero, List.set_cons_succ]
      refine wpAnyH_take (i := 10) (v := .slice A2 ln2 n2) rfl (by kernel_rfl) (by kernel_rfl) (by kernel_rfl) (fun _ _ _ h => h) (Or.inl ⟨by rfl, ?hy10⟩) hS ?rest10
      case hy10 => ((intro w' hSw; subst hSw; go_simp; first | done | with_reducible rfl))
      try simp only [Act.put, List.getElem_toArray, List.getElem_cons_zero, List.getElem_cons_succ, List.setIfInBounds_toArray, List.set_cons_zero, List.set_cons_succ]
      refine wpAnyH_take (i := 11) (v := .string (str h')) rfl (by kernel_rfl) (by kernel_rfl) (by kernel_rfl) (fun _ _ _ h => h) (Or.inl ⟨by rfl, ?hy11⟩) hS ?rest11
      case hy11 => ((intro w' hSw; subst hSw; go_simp; first | done | with_reducible rfl))
      try simp only [Act.put, List.getElem_toArray, List.getElem_cons_zero, List.getElem_cons_succ, List.setIfInBounds_toArray, List.set_cons_zero, List.set_cons_succ]
      refine wpAnyH_take (i := 12) (v := .bool (!decide (h = h'))) rfl (by kernel_rfl) (by kernel_rfl) (by kernel_rfl) (fun _ _ _ h => h) (Or.inl ⟨by rfl, ?hy12⟩) hS ?rest12
      case hy12 => ((intro w' hSw; subst hSw; go_simp; first | done | with_reducible rfl | exact eq_str h h'))
      try simp only [Act.put, List.getElem_toArray, List.getElem_cons_zero, List.getElem_cons_succ, List.setIfInBounds_toArray, List.set_cons_zero, List.set_cons_succ]
      refine wpAnyH_done (by kernel_rfl) (NoPanic.normal ?_) _
      rw [hbb.out]
      clear x11 x21 y1 y2 v1 v2 hS
      cases bb
      · go_wp2_with fail
        go_ret
        exact ⟨by rw [hbb.out]; rfl, BW.out.trans (BX.out.mono BW.out.size)⟩
      · go_wp2_with fail
        go_roundw
        case rel => exact ⟨1, rfl, by omega, by simp, BX⟩
        case measure => simp only [intOf]; omega
    · have h1 : i = 1 := by omega
      subst h1
      have hbt := hib rfl
      go_wp2_with fail
      go_ret
      exact ⟨by rw [hbb.out, hbt]; rfl, BW.out.trans (hb.out.mono BW.out.size)⟩
theorem hname_take9 (k : Nat) : (hname k).take 9 = [104] ++ eightL k := by
  show (104 :: (eightL k ++ List.replicate 23 0)).take 9 = _
  rw [List.take_succ_cons, List.take_append_of_le_length (by rw [eightL_len]; exact Nat.le_refl _), List.take_of_length_le (by rw [eightL_len]; exact Nat.le_refl _)]
  rfl
theorem hname_step (k : Nat) {n : Nat} (h9 : 9 ≤ n) (h : n < 32) : (hname k).take n ++ [0] = (hname k).take (n + 1) := by
  rw [List.take_add_one]
  congr 1
  obtain ⟨j, rfl⟩ : ∃ j, n = 9 + j := ⟨n - 9, by omega⟩
  show _ = ((104 :: (eightL k ++ List.replicate 23 0))[9 + j]?).toList
  rw [show 9 + j = (8 + j) + 1 by omega, List.getElem?_cons_succ, List.getElem?_append_right (by rw [eightL_len]; omega), eightL_len, show 8 + j - 8 = j by omega, List.getElem?_replicate, if_pos (by omega)]
  rfl
set_option maxRecDepth 20000 in
set_option maxHeartbeats 2000000 in
theorem refCalled_ (Q : Option Addr) (n c k : Nat) (w : World) (hk : k < 4611686018427387904) :
    Calls Try.prog 74 #[.agg #[.int .u8 104, .slice Q n c], .int .i64 k] w fun e w' => ∃ A c', e = .returned (.slice A 32 c') ∧ OwnS w' w.heap.size A 32 c' ((hname k).map B8) ∧ Below w.heap.size w w' := by
  obtain ⟨Y, hY⟩ : ∃ Y, Hid (Y = w.alloc (.cells #[.int .u8 104, .slice Q n c] 124)) := ⟨_, Lib.hid rfl⟩
  have hb0 : Below w.heap.size w Y := by rw [hY.out]; exact (Below.refl _ _).alloc (Nat.le_refl _) _
  have hsW : Y.heap.size = w.heap.size + 1 := by rw [hY.out]; exact szAlloc _ _
  have hrg : Y.rangeAt w.heap.size 0 [.int .u8 104, .slice Q n c] := by
    rw [hY.out]
    intro j v hj
    refine cell_blk (heap_alloc_new w _) _ ?_
    rw [Nat.zero_add, ← hj]; simp
  have HB0 := Lib.hid hb0
  have HRG := Lib.hid hrg
  have HSW := Lib.hid hsW
  obtain ⟨G, hG⟩ : ∃ g, Hid (g = w.heap.size) := ⟨_, Lib.hid rfl⟩
  have hGW : G < Y.heap.size := by rw [hG.out, hsW]; exact Nat.lt_succ_self _
  rw [← hG.out] at HRG
  clear hb0 hrg hsW
  have hc0' : (w.alloc (.cells #[.int .u8 104, .slice Q n c] 124)).cell? ⟨w.heap.size, 0, none⟩ = some (.int .u8 104) := cell_blk (heap_alloc_new w _) 0 rfl
  go_enter Try.func74, Try.ntmps74
  go_wp2_with fail
  clear hc0'
  rw [← hY.out, ← hG.out]
  have hB : Hid (Below Y.heap.size Y Y) := Below.refl _ _
  obtain ⟨X, hX⟩ : ∃ W, Hid (W = Y.drew) := ⟨_, Lib.hid rfl⟩
  have dX : Below Y.heap.size Y X := by rw [hX.out]; exact below_drew (Below.refl _ _)
  have HX := Lib.hid (range_keep HRG.out dX hGW)
  have ho8 := Lib.hid (oneB (eightL k))
  refine wp_region_noPanic ?_
  refine wp_region_held_drew (S := fun w' => Below X.heap.size X w') (by kernel_rfl) (by rw [hX.out]; exact Below.refl _ _) (fun hS => ?_)
  rw [← hX.out]
  clear hS
  have hS : Below X.heap.size X X := Below.refl _ _
  refine wpAnyH_take (i := 0) (v := ?v0) rfl (by kernel_rfl) (by kernel_rfl) (by kernel_rfl) (fun _ _ _ h => h) (Or.inl ⟨by rfl, ?hy0⟩) hS ?rest0
  case hy0 => (intro w hSw; go_simp; first | done | with_reducible rfl)
  try simp only [Act.put, List.getElem_toArray, List.getElem_cons_zero, List.getElem_cons_succ, List.setIfInBounds_toArray, List.set_cons_zero, List.set_cons_succ]
  refine wpAnyH_take (i := 1) (v := .int .u8 104) rfl (by kernel_rfl) (by kernel_rfl) (by kernel_rfl) (fun _ _ _ h => h) (Or.inl ⟨by rfl, ?hy1⟩) hS ?rest1
  case hy1 => (intro w' hSw; have hc := range_keep HX.out hSw (Nat.lt_of_lt_of_le hGW dX.size) 0 _ rfl; go_simp; first | done | with_reducible rfl)
  try simp only [Act.put, List.getElem_toArray, List.getElem_cons_zero, List.getElem_cons_succ, List.setIfInBounds_toArray, List.set_cons_zero, List.set_cons_succ]
  refine wpAnyH_take (i := 3) (v := ?v3) rfl (by kernel_rfl) (by kernel_rfl) (by kernel_rfl) (fun _ _ _ h => h) (Or.inl ⟨by rfl, ?hy3⟩) hS ?rest3
  case hy3 => (intro w hSw; go_simp; first | done | with_reducible rfl)
  try simp only [Act.put, List.getElem_toArray, List.getElem_cons_zero, List.getElem_cons_succ, List.setIfInBounds_toArray, List.set_cons_zero, List.set_cons_succ]
  refine wpAnyH_ready (rs := [2, 4]) (by kernel_rfl) (by simp) ?_
  refine AllReadyH.cons rfl (fun K hK => ?_) (AllReadyH.cons rfl (fun K hK => ?_) AllReadyH.nil)
  · go_simp
    have p13 := (Below.refl X.heap.size X).alloc (Nat.le_refl _) (.cells #[.int .u8 104] 5)
    refine hK.out _ _ p13 ?_
    intro hS
    clear hK K
    try simp only [Act.put, List.getElem_toArray, List.getElem_cons_zero, List.getElem_cons_succ, List.setIfInBounds_toArray, List.set_cons_zero, List.set_cons_succ]
    have l8 := Lib.hid (own104 X)
    obtain ⟨U, hU⟩ : ∃ U, Hid (U = X.alloc (.cells #[.int .u8 104] 5)) := ⟨_, Lib.hid rfl⟩
    rw [← hU.out] at p13 l8 ⊢
    clear hS
    refine wpAnyH_ready (rs := [4]) (by kernel_rfl) (by simp) ?_
    refine AllReadyH.cons rfl (fun K hK => ?_) AllReadyH.nil
    go_simp
    refine (refEight_ k U hk).mono ?_
    rintro e V ⟨A9, c9, rfl, o9, p9⟩
    have P := Lib.hid (p13.trans (p9.mono p13.size))
    have q9 := Lib.hid o9.rd
    have q8 := Lib.hid (own_below l8.out p9)
    clear o9 l8
    go_wp2_with fail
    refine hK.out _ _ P.out ?_
    intro hS
    clear hK K
    try simp only [Act.put, List.getElem_toArray, List.getElem_cons_zero, List.getElem_cons_succ, List.setIfInBounds_toArray, List.set_cons_zero, List.set_cons_succ]
    refine wpAnyH_ready (rs := [5]) (by kernel_rfl) (by simp) ?_
    refine AllReadyH.cons rfl (fun K hK => ?_) AllReadyH.nil
    refine step_app (.tmp 21) (.tmp 23) 38 rfl rfl X.heap.size 5 1 1 (.int .u8 0) Try.underlying38 infoB rfl (by decide) _ 1 _ rfl q8.out _ A9 8 c9 _ rfl q9.out ho8.out (by simp [maxLen]) (by decide) P.out.size ?_
    intro A' c' u' o' g' _
    have P' := Lib.hid (P.out.trans (below_grown g' (own_block_ge q8.out) P.out.size))
    refine hK.out _ _ P'.out ?_
    intro hS
    clear hK K
    try simp only [Act.put, List.getElem_toArray, List.getElem_cons_zero, List.getElem_cons_succ, List.setIfInBounds_toArray, List.set_cons_zero, List.set_cons_succ]
    refine wpAnyH_take (i := 6) (v := ?va6) rfl (by kernel_rfl) (by kernel_rfl) (by kernel_rfl) (fun _ _ _ h => h) (Or.inl ⟨by rfl, ?hya6⟩) hS ?resta6
    case hya6 => (intro w hSw; go_simp; first | done | with_reducible rfl)
    try simp only [Act.put, List.getElem_toArray, List.getElem_cons_zero, List.getElem_cons_succ, List.setIfInBounds_toArray, List.set_cons_zero, List.set_cons_succ]
    refine wpAnyH_done (by kernel_rfl) (NoPanic.normal ?_) _
    have O := Lib.hid (own_base o' dX.size)
    have HU := Lib.hid (range_keep HX.out P'.out (Nat.lt_of_lt_of_le hGW dX.size))
    have hc0 := HU.out 0 _ rfl
    have hc1 := HU.out 1 _ rfl
    have PW := Lib.hid (dX.trans (P'.out.mono dX.size))
    clear o' g' hS
    clear hc0 hc1 HU P'
    rw [show (1 : Nat) + 8 = 9 from rfl] at O ⊢
    go_wp2_with fail
    go_loopw [6] (fun x6 wr => ∃ (n : Nat) (A : Option Addr) (c : Nat), x6 = .slice A n c ∧ 9 ≤ n ∧ n ≤ 32 ∧ Hid (OwnS wr Y.heap.size A n c (((hname k).take n).map B8)) ∧ Hid (Below Y.heap.size Y wr)) (fun x6 _ => 32 - slN x6)
    case atStart => exact ⟨9, _, _, rfl, by omega, by omega, by unfold Hid; rw [hname_take9]; exact OwnS.of_own O.out, PW.out⟩
    case round =>
      obtain ⟨n, A, c, rfl, hn9, hn, hO, hb⟩ := hrel
      by_cases h32 : n < 32
      · have h32' : (n : Int) < 32 := by omega
        have hO1 := Lib.hid (hO.out.to ((Below.refl wr.heap.size wr).alloc (Nat.le_refl _) (.cells #[.int .u8 0] 5)))
        have hb1 := Lib.hid (hb.out.trans ((Below.refl Y.heap.size wr).alloc hb.out.size (.cells #[.int .u8 0] 5)))
        have hl1 : Hid (Rd (wr.alloc (.cells #[.int .u8 0] 5)) (wr.alloc (.cells #[.int .u8 0] 5)).heap.size 1 (some ⟨wr.heap.size, 0, none⟩) 1 (([0] : List UInt8).map B8)) := one_lit wr 0
        have hoz := Lib.hid (oneB [0])
        have hsn := Lib.hid (hname_step k hn9 h32)
        go_wp2_with (at_builtin
                     refine wpList_apT rfl (.tmp 29) (.tmp 30) 38 rfl Y.heap.size 5 1 (.int .u8 0) Try.underlying38 infoB rfl A n c _ rfl hO1.out _ (some ⟨wr.heap.size, 0, none⟩) 1 1 (([0] : List UInt8).map B8) rfl hl1.out hoz.out (by simp only [maxLen]; omega) (by omega) hb1.out.size ?_
                     intro A3 c3 w3 o3 b3 _ _ _
                     rw [← List.map_append, hsn.out] at o3
                     have O3 := Lib.hid o3
                     have B3 := Lib.hid (hb1.out.trans b3)
                     clear o3 b3)
        go_roundw
        case rel => exact ⟨n + 1, A3, c3, rfl, by omega, h32, O3, B3⟩
        case measure => simp only [slN]; omega
      · have hnS : Hid (n = 32) := (by omega : n = 32)
        have h32' : ¬ (n : Int) < 32 := by omega
        go_wp2_with fail
        go_ret
        have ho := hO.out
        rw [hnS.out, List.take_of_length_le (by rw [hname_len]; exact Nat.le_refl _)] at ho
        exact ⟨A, c, by rw [hnS.out]; rfl, ho.mono (Nat.le_of_lt (hG.out ▸ hGW)), HB0.out.trans (hb.out.mono HB0.out.size)⟩
  · go_simp
    refine (refEight_ k X hk).mono ?_
    rintro e U ⟨A9, c9, rfl, o9, p9⟩
    go_wp2_with fail
    refine hK.out _ _ p9 ?_
    intro hS
    clear hK K
    try simp only [Act.put, List.getElem_toArray, List.getElem_cons_zero, List.getElem_cons_succ, List.setIfInBounds_toArray, List.set_cons_zero, List.set_cons_succ]
    refine wpAnyH_ready (rs := [2]) (by kernel_rfl) (by simp) ?_
    refine AllReadyH.cons rfl (fun K hK => ?_) AllReadyH.nil
    go_simp
    have P := Lib.hid (p9.trans ((Below.refl X.heap.size U).alloc p9.size (.cells #[.int .u8 104] 5)))
    refine hK.out _ _ P.out ?_
    intro hS
    clear hK K
    try simp only [Act.put, List.getElem_toArray, List.getElem_cons_zero, List.getElem_cons_succ, List.setIfInBounds_toArray, List.set_cons_zero, List.set_cons_succ]
    have q8 := Lib.hid (own_base (own104 U) p9.size)
    have q9 := Lib.hid (o9.rd.at0 ((Below.refl U.heap.size U).alloc (Nat.le_refl _) (.cells #[.int .u8 104] 5)) (by rw [szAlloc]; omega))
    obtain ⟨V, hV⟩ : ∃ V, Hid (V = U.alloc (.cells #[.int .u8 104] 5)) := ⟨_, Lib.hid rfl⟩
    rw [← hV.out] at P q8 q9 ⊢
    clear o9
    refine wpAnyH_ready (rs := [5]) (by kernel_rfl) (by simp) ?_
    refine AllReadyH.cons rfl (fun K hK => ?_) AllReadyH.nil
    refine step_app (.tmp 21) (.tmp 23) 38 rfl rfl X.heap.size 5 1 1 (.int .u8 0) Try.underlying38 infoB rfl (by decide) _ 1 _ rfl q8.out _ A9 8 c9 _ rfl q9.out ho8.out (by simp [maxLen]) (by decide) P.out.size ?_
    intro A' c' u' o' g' _
    have P' := Lib.hid (P.out.trans (below_grown g' (own_block_ge q8.out) P.out.size))
    refine hK.out _ _ P'.out ?_
    intro hS
    clear hK K
    try simp only [Act.put, List.getElem_toArray, List.getElem_cons_zero, List.getElem_cons_succ, List.setIfInBounds_toArray, List.set_cons_zero, List.set_cons_succ]
    refine wpAnyH_take (i := 6) (v := ?vb6) rfl (by kernel_rfl) (by kernel_rfl) (by kernel_rfl) (fun _ _ _ h => h) (Or.inl ⟨by rfl, ?hyb6⟩) hS ?restb6
    case hyb6 => (intro w hSw; go_simp; first | done | with_reducible rfl)
    try simp only [Act.put, List.getElem_toArray, List.getElem_cons_zero, List.getElem_cons_succ, List.setIfInBounds_toArray, List.set_cons_zero, List.set_cons_succ]
    refine wpAnyH_done (by kernel_rfl) (NoPanic.normal ?_) _
    have O := Lib.hid (own_base o' dX.size)
    have HU := Lib.hid (range_keep HX.out P'.out (Nat.lt_of_lt_of_le hGW dX.size))
    have hc0 := HU.out 0 _ rfl
    have hc1 := HU.out 1 _ rfl
    have PW := Lib.hid (dX.trans (P'.out.mono dX.size))
    clear o' g' hS
    clear hc0 hc1 HU P'
    rw [show (1 : Nat) + 8 = 9 from rfl] at O ⊢
    go_wp2_with fail
    go_loopw [6] (fun x6 wr => ∃ (n : Nat) (A : Option Addr) (c : Nat), x6 = .slice A n c ∧ 9 ≤ n ∧ n ≤ 32 ∧ Hid (OwnS wr Y.heap.size A n c (((hname k).take n).map B8)) ∧ Hid (Below Y.heap.size Y wr)) (fun x6 _ => 32 - slN x6)
    case atStart => exact ⟨9, _, _, rfl, by omega, by omega, by unfold Hid; rw [hname_take9]; exact OwnS.of_own O.out, PW.out⟩
    case round =>
      obtain ⟨n, A, c, rfl, hn9, hn, hO, hb⟩ := hrel
      by_cases h32 : n < 32
      · have h32' : (n : Int) < 32 := by omega
        have hO1 := Lib.hid (hO.out.to ((Below.refl wr.heap.size wr).alloc (Nat.le_refl _) (.cells #[.int .u8 0] 5)))
        have hb1 := Lib.hid (hb.out.trans ((Below.refl Y.heap.size wr).alloc hb.out.size (.cells #[.int .u8 0] 5)))
        have hl1 : Hid (Rd (wr.alloc (.cells #[.int .u8 0] 5)) (wr.alloc (.cells #[.int .u8 0] 5)).heap.size 1 (some ⟨wr.heap.size, 0, none⟩) 1 (([0] : List UInt8).map B8)) := one_lit wr 0
        have hoz := Lib.hid (oneB [0])
        have hsn := Lib.hid (hname_step k hn9 h32)
        go_wp2_with (at_builtin
                     refine wpList_apT rfl (.tmp 29) (.tmp 30) 38 rfl Y.heap.size 5 1 (.int .u8 0) Try.underlying38 infoB rfl A n c _ rfl hO1.out _ (some ⟨wr.heap.size, 0, none⟩) 1 1 (([0] : List UInt8).map B8) rfl hl1.out hoz.out (by simp only [maxLen]; omega) (by omega) hb1.out.size ?_
                     intro A3 c3 w3 o3 b3 _ _ _
                     rw [← List.map_append, hsn.out] at o3
                     have O3 := Lib.hid o3
                     have B3 := Lib.hid (hb1.out.trans b3)
                     clear o3 b3)
        go_roundw
        case rel => exact ⟨n + 1, A3, c3, rfl, by omega, h32, O3, B3⟩
        case measure => simp only [slN]; omega
      · have hnS : Hid (n = 32) := (by omega : n = 32)
        have h32' : ¬ (n : Int) < 32 := by omega
        go_wp2_with fail
        go_ret
        have ho := hO.out
        rw [hnS.out, List.take_of_length_le (by rw [hname_len]; exact Nat.le_refl _)] at ho
        exact ⟨A, c, by rw [hnS.out]; rfl, ho.mono (Nat.le_of_lt (hG.out ▸ hGW)), HB0.out.trans (hb.out.mono HB0.out.size)⟩
end Go.Proofs.Ytabcbpcfleociaa
