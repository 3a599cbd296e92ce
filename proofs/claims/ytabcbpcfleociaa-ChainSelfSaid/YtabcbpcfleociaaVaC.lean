/- The document's vault: Name, Hash. (Printed by gen_vac.py.) -/
import Derived.Test.YtabcbpcfleociaaVaB
namespace Go.Proofs.Ytabcbpcfleociaa
open Go.RowKit
attribute [local go_sem ↓] Go.wp_at_zero Go.wp_at_succ
set_option linter.unusedSimpArgs false
set_option linter.unusedVariables false
/-- A row of values whose block is one of 'ok'. -/
def RdP (w : World) (ok : Nat → Prop) (size : Nat) (A : Option Addr) (n : Nat) (xs : List Value) : Prop := xs.length = n * size ∧ (0 < n → ∃ b o, A = some ⟨b, o, none⟩ ∧ ok b ∧ ∀ j u, xs[j]? = some u → w.cell? ⟨b, o + j, none⟩ = some u)
theorem RdP.rd {w : World} {ok : Nat → Prop} {size n B : Nat} {A : Option Addr} {xs : List Value} (h : RdP w ok size A n xs) (hB : ∀ b, ok b → b < B) : Rd w B size A n xs :=
  ⟨h.1, fun h0 => by obtain ⟨b, o, e, hb, hc⟩ := h.2 h0; exact ⟨b, o, e, hB b hb, hc⟩⟩
theorem RdP.same {w w' : World} {ok ok' : Nat → Prop} {size n : Nat} {A : Option Addr} {xs : List Value} (h : RdP w ok size A n xs) (e : ∀ b, ok b → w'.heap[b]? = w.heap[b]?) (hk : ∀ b, ok b → ok' b) : RdP w' ok' size A n xs :=
  ⟨h.1, fun h0 => by obtain ⟨b, o, e1, hb, hc⟩ := h.2 h0; exact ⟨b, o, e1, hk b hb, fun j u hu => (World.cell?_of_block (a := ⟨b, o + j, none⟩) (e b hb)).trans (hc j u hu)⟩⟩
def OneP (w : World) (ok : Nat → Prop) (qb qo : Nat) (h : List UInt8) : Prop := ok qb ∧ ∃ Ai ci, w.cell? ⟨qb, qo, none⟩ = some (.slice Ai h.length ci) ∧ RdP w ok 1 Ai h.length (h.map B8)
theorem OneP.one {w : World} {ok : Nat → Prop} {B qb qo : Nat} {h : List UInt8} (H : OneP w ok qb qo h) (hB : ∀ b, ok b → b < B) : OneAt w B qb qo h := by
  obtain ⟨h1, A, c, h2, h3⟩ := H
  exact ⟨hB _ h1, A, c, h2, h3.rd hB⟩
theorem OneP.same {w w' : World} {ok ok' : Nat → Prop} {qb qo : Nat} {h : List UInt8} (H : OneP w ok qb qo h) (e : ∀ b, ok b → w'.heap[b]? = w.heap[b]?) (hk : ∀ b, ok b → ok' b) : OneP w' ok' qb qo h := by
  obtain ⟨h1, A, c, h2, h3⟩ := H
  exact ⟨hk _ h1, A, c, (World.cell?_of_block (a := ⟨qb, qo, none⟩) (e _ h1)).trans h2, h3.same e hk⟩
/-- A vault's terms, all in blocks of 'ok'. -/
def VtP (w : World) (ok : Nat → Prop) (A : Option Addr) (n : Nat) (hs : List (List UInt8)) : Prop := ∃ Qs : List (Nat × Nat × Nat), Qs.length = n ∧ hs.length = n ∧ RdP w ok 2 A n (Qs.flatMap trC) ∧ ∀ (i : Nat) (q : Nat × Nat × Nat) (h : List UInt8), Qs[i]? = some q → hs[i]? = some h → OneP w ok q.1 q.2.1 h
theorem VtP.l {w : World} {ok : Nat → Prop} {B n : Nat} {A : Option Addr} {hs : List (List UInt8)} (H : VtP w ok A n hs) (hB : ∀ b, ok b → b < B) : VtL w B A n hs := by
  obtain ⟨Qs, h1, h2, h3, h4⟩ := H
  exact ⟨Qs, h1, h2, h3.rd hB, fun i q h e1 e2 => (h4 i q h e1 e2).one hB⟩
theorem VtP.same {w w' : World} {ok ok' : Nat → Prop} {n : Nat} {A : Option Addr} {hs : List (List UInt8)} (H : VtP w ok A n hs) (e : ∀ b, ok b → w'.heap[b]? = w.heap[b]?) (hk : ∀ b, ok b → ok' b) : VtP w' ok' A n hs := by
  obtain ⟨Qs, h1, h2, h3, h4⟩ := H
  exact ⟨Qs, h1, h2, h3.same e hk, fun i q h e1 e2 => (h4 i q h e1 e2).same e hk⟩
theorem VtL.p {w : World} {B n : Nat} {A : Option Addr} {hs : List (List UInt8)} (H : VtL w B A n hs) : VtP w (fun b => b < B) A n hs := H
theorem step_store_row {P : Program} {w : World} {ops : Array Oper} {E : Prop} {o : Oper} {a : Act} {K : Act → World → Prop} {Q : Exit → Act → World → Prop} (ty : TypeId) (x y : Operand) (hgd : o.guard = none) (ho : o.op = .store ty x y)
    (g : Nat) (cells : Array Value) (hx : a.eval x = .pointer (some ⟨g, 0, none⟩)) (hy : a.eval y = .agg cells)
    (t : TypeId) (old : Array Value) (hg : w.heap[g]? = some (.cells old t (0, 0))) (hi : (P.info? ty).map (·.size) = some cells.size)
    (hold : old.size = cells.size) (h1 : cells.all (·.oneCell') = true)
    (h : K (a.put o.dst undef) (w.setRow g cells)) : if Region.wanted o (yielded ops a.tmps) = true then Oper.wp P o a w K Q else E := by
  rw [if_pos (by simp [Region.wanted, hgd])]
  exact wp_store_row ty x y ho g cells hx hy t old hg hi hold h1 h
theorem results_cell_tmp {P : Program} {fn : Func} {tmps : Array Value} {w : World} {a u : Nat} {t : TypeId} {v : Value} {p : Addr} (h : fn.results = #[.cell a t, .tmp u]) (ha : tmps.getD a undef = .pointer (some p)) (hl : (loadVar t p).run P w = .ok v w) : (results fn tmps).run P w = .ok (.tuple #[v, tmps.getD u undef]) w := by
  unfold results
  rw [h]
  have ha' : tmps[a]?.getD undef = .pointer (some p) := by simpa using ha
  simp [ha', hl, asAddr]
theorem range_row {w : World} {g k o : Nat} {cs : List Value} (cells : Array Value) (h : w.rangeAt g o cs) (hn : g ≠ k) : (w.setRow k cells).rangeAt g o cs := fun j v hj => (cell_setRow_other w k cells ⟨g, o + j, none⟩ hn).trans (h j v hj)
theorem idxOf_first {hs : List (List UInt8)} {h : List UInt8} {i : Nat} (hi : hs[i]? = some h) (hb : ∀ j, j < i → hs[j]? ≠ some h) : hs.idxOf h = i := by
  induction hs generalizing i with
  | nil => simp at hi
  | cons a t ih =>
    rcases i with _ | i
    · simp at hi; subst hi; simp
    · have h0 := hb 0 (by omega)
      have hne : a ≠ h := by intro e; apply h0; simp [e]
      have hbe : (a == h) = false := by simpa using hne
      rw [List.idxOf_cons, hbe, ih (by simpa using hi) (fun j hj => by simpa using hb (j + 1) (by omega))]
      rfl
theorem not_in {hs : List (List UInt8)} {h : List UInt8} (hb : ∀ j, j < hs.length → hs[j]? ≠ some h) : h ∉ hs := by
  intro hm
  obtain ⟨j, hj, e⟩ := List.getElem_of_mem hm
  exact hb j hj (by rw [List.getElem?_eq_getElem hj, e])
theorem own_block_ge2 {w : World} {base n c size : Nat} {A : Option Addr} {xs : List Value} {e : TypeId} (h : w.ownsRow base e size (.slice A n c) n xs) : ∀ k, (Value.slice A n c).ownBlock = some k → base ≤ k := by
  intro k hk
  rcases h.2 with ⟨e1, _⟩ | ⟨g, cap, cur, e1, hb, _⟩
  · rw [e1] at hk; simp [Value.ownBlock] at hk
  · rw [e1] at hk; simp [Value.ownBlock] at hk; omega
theorem infoT : (Try.prog.info? 124).map (fun i => (i.zero, i.size, i.bytes)) = some (some (.agg #[.int .u8 0, .slice none 0 0]), 2, 32) := by kernel_rfl
theorem trC_one (q : Nat × Nat × Nat) : ∀ u ∈ trC q, u.oneCell' = true := by
  intro u hu
  simp [trC] at hu
  rcases hu with rfl | rfl <;> rfl
theorem trCs_one (Qs : List (Nat × Nat × Nat)) : ∀ u ∈ Qs.flatMap trC, u.oneCell' = true := by
  intro u hu
  obtain ⟨q, _, hq⟩ := List.mem_flatMap.1 hu
  exact trC_one q u hq
set_option maxRecDepth 20000 in
set_option maxHeartbeats 4000000 in
theorem refName_ (A : Option Addr) (n c : Nat) (dr : Int) (qb qo qc : Nat) (hs : List (List UInt8)) (h : List UInt8) (w : World) (ok : Nat → Prop) (hok : ∀ b, ok b → b < w.heap.size) (hv : VtP w ok A n hs) (ho : OneP w ok qb qo h) (hn : n ≤ 1000000) (hnc : n ≤ c) :
    Calls Try.prog 60 #[.agg #[.slice A n c, .int .i64 dr], .agg #[.int .u8 104, .slice (some ⟨qb, qo, none⟩) 1 qc]] w fun e w' => ∃ A' n' c' D dc, e = .returned (.tuple #[.agg #[.slice A' n' c', .int .i64 dr], .slice D 32 dc]) ∧ n' ≤ c' ∧ VtP w' (fun b => ok b ∨ w.heap.size ≤ b ∧ b < w'.heap.size) A' n' (note hs h) ∧ OwnS w' w.heap.size D 32 dc ((hname (hs.idxOf h + 1)).map B8) ∧ Below w.heap.size w w' := by
  obtain ⟨W, hW⟩ : ∃ W, Hid (W = ((w.alloc (.cells #[.slice A n c, .int .i64 dr] 33)).alloc (.cells #[.int .u8 104, .slice (some ⟨qb, qo, none⟩) 1 qc] 124)).alloc (.cells #[.slice none 0 0, .int .i64 0] 33)) := ⟨_, Lib.hid rfl⟩
  obtain ⟨G, hG⟩ : ∃ g, Hid (g = w.heap.size) := ⟨_, Lib.hid rfl⟩
  have hs1 : (w.alloc (.cells #[.slice A n c, .int .i64 dr] 33)).heap.size = w.heap.size + 1 := szAlloc _ _
  have hs2 : ((w.alloc (.cells #[.slice A n c, .int .i64 dr] 33)).alloc (.cells #[.int .u8 104, .slice (some ⟨qb, qo, none⟩) 1 qc] 124)).heap.size = w.heap.size + 2 := by rw [szAlloc, hs1]
  have BW : Hid (Below w.heap.size w W) := by rw [hW.out]; exact (((Below.refl _ _).alloc (Nat.le_refl _) _).alloc (by rw [hs1]; omega) _).alloc (by rw [hs2]; omega) _
  have R0 : Hid (W.rangeAt G 0 [.slice A n c, .int .i64 dr]) := by rw [hW.out, hG.out]; exact fun j v hj => (World.cell?_alloc_lt _ _ _ (by rw [hs2]; show w.heap.size < _; omega)).trans ((World.cell?_alloc_lt _ _ _ (by rw [hs1]; exact Nat.lt_succ_self _)).trans (rangeNew w _ _ j v hj))
  have R1 : Hid (W.rangeAt (G + 1) 0 [.int .u8 104, .slice (some ⟨qb, qo, none⟩) 1 qc]) := by rw [hW.out, hG.out, ← hs1]; exact fun j v hj => (World.cell?_alloc_lt _ _ _ (by rw [hs2, hs1]; exact Nat.lt_succ_self _)).trans (rangeNew _ _ _ j v hj)
  have R2 : Hid (W.heap[G + 2]? = some (.cells #[.slice none 0 0, .int .i64 0] 33 (0, 0))) := by
    unfold Hid
    rw [hW.out, hG.out, ← hs2]
    exact heap_alloc_new _ _
  have hGs : Hid (G + 2 < W.heap.size) := lt_of_blk R2.out
  have HOK := Lib.hid hok
  have HV := Lib.hid ((hv.l hok).to BW.out)
  have HV0 := Lib.hid hv
  have HO := Lib.hid ((ho.one hok).to BW.out)
  have HO0 := Lib.hid ho
  have hlen : Hid (hs.length = n) := by obtain ⟨_, _, h2, _⟩ := hv; exact h2
  have c00 := R0.out 0 _ rfl
  rw [hW.out, hG.out] at c00
  clear hv ho hok hs1 hs2
  go_enter Try.func60, Try.ntmps60
  go_wp2_with fail
  rw [← hW.out, ← hG.out]
  clear c00
  go_loopw [6] (fun x6 wr => ∃ i : Nat, x6 = .int .i64 i ∧ i ≤ n ∧ Hid (∀ j, j < i → hs[j]? ≠ some h) ∧ Hid (Below W.heap.size W wr)) (fun x6 _ => n - (intOf x6).toNat)
  case atStart => exact ⟨0, rfl, by omega, fun j hj => absurd hj (by omega), Below.refl _ _⟩
  case round =>
    obtain ⟨i, rfl, hi, hib, hb⟩ := hrel
    have r0 := range_keep R0.out hb.out (by have := hGs.out; omega)
    have r1 := range_keep R1.out hb.out (by have := hGs.out; omega)
    have hGr : Hid (G + 2 < wr.heap.size) := Nat.lt_of_lt_of_le hGs.out hb.out.size
    have c00 := r0 0 _ rfl
    by_cases hin : i < n
    · have hin' : (i : Int) < (n : Int) := by omega
      have hi0 : (0 : Int) ≤ (i : Int) := by omega
      obtain ⟨hx, hhx⟩ : ∃ x, hs[i]? = some x := ⟨_, List.getElem?_eq_getElem (by rw [hlen.out]; exact hin)⟩
      obtain ⟨b, o, qb2, qo2, qc2, rfl, hbb, hrb, hone⟩ := (HV.out.to hb.out).at_ hhx
      have HRB := Lib.hid hrb
      have HBB := Lib.hid hbb
      have HONE := Lib.hid hone
      have e8 : IntKind.i64.wrap ((i : Int) + 1) = ((i + 1 : Nat) : Int) := by rw [IntWalk.i64_in _ (by omega)]; omega
      obtain ⟨bo, hbo⟩ : ∃ b, Hid (decide (hx = h) = b) := ⟨_, Lib.hid rfl⟩
      clear hrb hbb hone
      go_wp2_with fail
      obtain ⟨X, hX⟩ : ∃ W, Hid (W = wr.drew) := ⟨_, Lib.hid rfl⟩
      have dX : Below wr.heap.size wr X := by rw [hX.out]; exact below_drew (Below.refl _ _)
      have X0 := range_keep r0 dX (by have := hGr.out; omega)
      have X1 := range_keep r1 dX (by have := hGr.out; omega)
      have X2 : X.rangeAt b (o + i * 2) [.int .u8 104, .slice (some ⟨qb2, qo2, none⟩) 1 qc2] := fun j v hj => (World.cell?_of_block (a := ⟨b, o + i * 2 + j, none⟩) (dX.block b HBB.out)).trans (HRB.out j v hj)
      have BX := Lib.hid (hb.out.trans (dX.mono hb.out.size))
      have hGX : Hid (G + 2 < X.heap.size) := Nat.lt_of_lt_of_le hGr.out dX.size
      have hbX : Hid (b < X.heap.size) := Nat.lt_of_lt_of_le HBB.out dX.size
      have O1 := Lib.hid (HONE.out.to dX)
      have O2 := Lib.hid (HO.out.to BX.out)
      have SX : X.rangeAt G 0 [.slice (some ⟨b, o, none⟩) n c, .int .i64 dr] ∧ X.rangeAt (G + 1) 0 [.int .u8 104, .slice (some ⟨qb, qo, none⟩) 1 qc] ∧ X.rangeAt b (o + i * 2) [.int .u8 104, .slice (some ⟨qb2, qo2, none⟩) 1 qc2] := ⟨X0, X1, X2⟩
      clear c00
      refine wp_region_noPanic ?_
      refine wp_region_held_drew (S := fun w' => w'.rangeAt G 0 [.slice (some ⟨b, o, none⟩) n c, .int .i64 dr] ∧ w'.rangeAt (G + 1) 0 [.int .u8 104, .slice (some ⟨qb, qo, none⟩) 1 qc] ∧ w'.rangeAt b (o + i * 2) [.int .u8 104, .slice (some ⟨qb2, qo2, none⟩) 1 qc2]) (by kernel_rfl) (by rw [← hX.out]; exact SX) (fun hS => ?_)
      rw [← hX.out]
      clear hS
      have hS : X.rangeAt G 0 [.slice (some ⟨b, o, none⟩) n c, .int .i64 dr] ∧ X.rangeAt (G + 1) 0 [.int .u8 104, .slice (some ⟨qb, qo, none⟩) 1 qc] ∧ X.rangeAt b (o + i * 2) [.int .u8 104, .slice (some ⟨qb2, qo2, none⟩) 1 qc2] := SX
      refine wpAnyH_take (i := 0) (v := ?va0) rfl (by kernel_rfl) (by kernel_rfl) (by kernel_rfl) (fun _ _ _ h => h) (Or.inl ⟨by rfl, ?hya0⟩) hS ?resta0
      case hya0 => (intro w' hSw; go_simp; first | done | with_reducible rfl)
      try simp only [Act.put, List.getElem_toArray, List.getElem_cons_zero, List.getElem_cons_succ, List.setIfInBounds_toArray, List.set_cons_zero, List.set_cons_succ]
      refine wpAnyH_take (i := 1) (v := .slice (some ⟨b, o, none⟩) n c) rfl (by kernel_rfl) (by kernel_rfl) (by kernel_rfl) (fun _ _ _ h => h) (Or.inl ⟨by rfl, ?hya1⟩) hS ?resta1
      case hya1 => (intro w' hSw; have c0 := hSw.1 0 _ rfl; go_simp; first | done | with_reducible rfl)
      try simp only [Act.put, List.getElem_toArray, List.getElem_cons_zero, List.getElem_cons_succ, List.setIfInBounds_toArray, List.set_cons_zero, List.set_cons_succ]
      refine wpAnyH_take (i := 2) (v := ?va2) rfl (by kernel_rfl) (by kernel_rfl) (by kernel_rfl) (fun _ _ _ h => h) (Or.inl ⟨by rfl, ?hya2⟩) hS ?resta2
      case hya2 => (intro w' hSw; go_simp; first | done | with_reducible rfl)
      try simp only [Act.put, List.getElem_toArray, List.getElem_cons_zero, List.getElem_cons_succ, List.setIfInBounds_toArray, List.set_cons_zero, List.set_cons_succ]
      refine wpAnyH_take (i := 3) (v := .pointer (some ⟨b, o + i * 2, none⟩)) rfl (by kernel_rfl) (by kernel_rfl) (by kernel_rfl) (fun _ _ _ h => h) (Or.inl ⟨by rfl, ?hya3⟩) hS ?resta3
      case hya3 => (intro w' hSw; have h1 := hi0; have h2 := hin'; have h3 := hin; go_simp; first | done | with_reducible rfl)
      try simp only [Act.put, List.getElem_toArray, List.getElem_cons_zero, List.getElem_cons_succ, List.setIfInBounds_toArray, List.set_cons_zero, List.set_cons_succ]
      refine wpAnyH_take (i := 4) (v := .agg #[.int .u8 104, .slice (some ⟨qb2, qo2, none⟩) 1 qc2]) rfl (by kernel_rfl) (by kernel_rfl) (by kernel_rfl) (fun _ _ _ h => h) (Or.inl ⟨by rfl, ?hya4⟩) hS ?resta4
      case hya4 => (intro w' hSw; have c0 : w'.cell? ⟨b, o + i * 2, none⟩ = some (.int .u8 104) := hSw.2.2 0 _ rfl; have c1 : w'.cell? ⟨b, o + i * 2 + 1, none⟩ = some (.slice (some ⟨qb2, qo2, none⟩) 1 qc2) := hSw.2.2 1 _ rfl; go_simp; first | done | with_reducible rfl)
      try simp only [Act.put, List.getElem_toArray, List.getElem_cons_zero, List.getElem_cons_succ, List.setIfInBounds_toArray, List.set_cons_zero, List.set_cons_succ]
      refine wpAnyH_take (i := 5) (v := .agg #[.int .u8 104, .slice (some ⟨qb, qo, none⟩) 1 qc]) rfl (by kernel_rfl) (by kernel_rfl) (by kernel_rfl) (fun _ _ _ h => h) (Or.inl ⟨by rfl, ?hya5⟩) hS ?resta5
      case hya5 => (intro w' hSw; have c0 := hSw.2.1 0 _ rfl; have c1 := hSw.2.1 1 _ rfl; go_simp; first | done | with_reducible rfl)
      try simp only [Act.put, List.getElem_toArray, List.getElem_cons_zero, List.getElem_cons_succ, List.setIfInBounds_toArray, List.set_cons_zero, List.set_cons_succ]
      refine wpAnyH_ready (rs := [6]) (by kernel_rfl) (by simp) ?_
      refine AllReadyH.cons rfl (fun K hK => ?_) AllReadyH.nil
      go_simp
      refine (same_ qb2 qo2 qc2 qb qo qc hx h X O1.out O2.out).mono ?_
      rintro e y ⟨he, by1⟩
      rw [hbo.out] at he
      subst he
      have SY : y.rangeAt G 0 [.slice (some ⟨b, o, none⟩) n c, .int .i64 dr] ∧ y.rangeAt (G + 1) 0 [.int .u8 104, .slice (some ⟨qb, qo, none⟩) 1 qc] ∧ y.rangeAt b (o + i * 2) [.int .u8 104, .slice (some ⟨qb2, qo2, none⟩) 1 qc2] := ⟨range_keep X0 by1 (by have := hGX.out; omega), range_keep X1 by1 (by have := hGX.out; omega), fun j v hj => (World.cell?_of_block (a := ⟨b, o + i * 2 + j, none⟩) (by1.block b hbX.out)).trans (X2 j v hj)⟩
      have BYy := Lib.hid (BX.out.trans (by1.mono BX.out.size))
      have hGy : Hid (G + 2 < y.heap.size) := Nat.lt_of_lt_of_le hGX.out by1.size
      clear by1
      go_wp2_with fail
      refine hK.out _ _ SY ?_
      intro hS
      clear hK K hS
      try simp only [Act.put, List.getElem_toArray, List.getElem_cons_zero, List.getElem_cons_succ, List.setIfInBounds_toArray, List.set_cons_zero, List.set_cons_succ]
      refine wpAnyH_done (by kernel_rfl) (NoPanic.normal ?_) _
      cases bo
      · go_wp2_with fail
        go_roundw
        case rel => exact ⟨i + 1, by go_num, hin, fun j hj => by
          rcases Nat.lt_or_ge j i with h1 | h1
          · exact hib.out j h1
          · obtain rfl : j = i := by omega
            rw [hhx]
            intro e; injection e with e; exact of_decide_eq_false hbo.out e, BYy⟩
        case measure => simp only [intOf]; omega
      · go_wp2_with fail
        obtain ⟨Z, hZ⟩ : ∃ W, Hid (W = y.drew) := ⟨_, Lib.hid rfl⟩
        have dZ : Below y.heap.size y Z := by rw [hZ.out]; exact below_drew (Below.refl _ _)
        have Z0 := range_keep SY.1 dZ (by have := hGy.out; omega)
        have Z1 := range_keep SY.2.1 dZ (by have := hGy.out; omega)
        have BZ := Lib.hid (BYy.out.trans (dZ.mono BYy.out.size))
        have hGz : Hid (G + 2 < Z.heap.size) := Nat.lt_of_lt_of_le hGy.out dZ.size
        have SZ : Z.rangeAt G 0 [.slice (some ⟨b, o, none⟩) n c, .int .i64 dr] ∧ Z.rangeAt (G + 1) 0 [.int .u8 104, .slice (some ⟨qb, qo, none⟩) 1 qc] := ⟨Z0, Z1⟩
        refine wp_region_noPanic ?_
        refine wp_region_held_drew (S := fun w' => w'.rangeAt G 0 [.slice (some ⟨b, o, none⟩) n c, .int .i64 dr] ∧ w'.rangeAt (G + 1) 0 [.int .u8 104, .slice (some ⟨qb, qo, none⟩) 1 qc]) (by kernel_rfl) (by rw [← hZ.out]; exact SZ) (fun hS => ?_)
        rw [← hZ.out]
        clear hS
        have hS : Z.rangeAt G 0 [.slice (some ⟨b, o, none⟩) n c, .int .i64 dr] ∧ Z.rangeAt (G + 1) 0 [.int .u8 104, .slice (some ⟨qb, qo, none⟩) 1 qc] := SZ
        refine wpAnyH_take (i := 0) (v := .agg #[.slice (some ⟨b, o, none⟩) n c, .int .i64 dr]) rfl (by kernel_rfl) (by kernel_rfl) (by kernel_rfl) (fun _ _ _ h => h) (Or.inl ⟨by rfl, ?hyb0⟩) hS ?restb0
        case hyb0 => (intro w' hSw; have c0 := hSw.1 0 _ rfl; have c1 := hSw.1 1 _ rfl; go_simp; first | done | with_reducible rfl)
        try simp only [Act.put, List.getElem_toArray, List.getElem_cons_zero, List.getElem_cons_succ, List.setIfInBounds_toArray, List.set_cons_zero, List.set_cons_succ]
        refine wpAnyH_take (i := 1) (v := .agg #[.int .u8 104, .slice (some ⟨qb, qo, none⟩) 1 qc]) rfl (by kernel_rfl) (by kernel_rfl) (by kernel_rfl) (fun _ _ _ h => h) (Or.inl ⟨by rfl, ?hyb1⟩) hS ?restb1
        case hyb1 => (intro w' hSw; have c0 := hSw.2 0 _ rfl; have c1 := hSw.2 1 _ rfl; go_simp; first | done | with_reducible rfl)
        try simp only [Act.put, List.getElem_toArray, List.getElem_cons_zero, List.getElem_cons_succ, List.setIfInBounds_toArray, List.set_cons_zero, List.set_cons_succ]
        refine wpAnyH_take (i := 2) (v := ?vb2) rfl (by kernel_rfl) (by kernel_rfl) (by kernel_rfl) (fun _ _ _ h => h) (Or.inl ⟨by rfl, ?hyb2⟩) hS ?restb2
        case hyb2 => (intro w' hSw; go_simp; first | done | with_reducible rfl)
        try simp only [Act.put, List.getElem_toArray, List.getElem_cons_zero, List.getElem_cons_succ, List.setIfInBounds_toArray, List.set_cons_zero, List.set_cons_succ]
        refine wpAnyH_take (i := 3) (v := .int .i64 ((i + 1 : Nat) : Int)) rfl (by kernel_rfl) (by kernel_rfl) (by kernel_rfl) (fun _ _ _ h => h) (Or.inl ⟨by rfl, ?hyb3⟩) hS ?restb3
        case hyb3 => (intro w' hSw; have h := e8; go_simp; first | done | with_reducible rfl)
        try simp only [Act.put, List.getElem_toArray, List.getElem_cons_zero, List.getElem_cons_succ, List.setIfInBounds_toArray, List.set_cons_zero, List.set_cons_succ]
        refine wpAnyH_ready (rs := [4]) (by kernel_rfl) (by simp) ?_
        refine AllReadyH.cons rfl (fun K hK => ?_) AllReadyH.nil
        go_simp
        refine (refCalled_ (some ⟨qb, qo, none⟩) 1 qc (i + 1) Z (by omega)).mono ?_
        rintro e t ⟨D, dc, rfl, o5, b5⟩
        have S1 : t.rangeAt G 0 [.slice (some ⟨b, o, none⟩) n c, .int .i64 dr] ∧ t.rangeAt (G + 1) 0 [.int .u8 104, .slice (some ⟨qb, qo, none⟩) 1 qc] := ⟨range_keep Z0 b5 (by have := hGz.out; omega), range_keep Z1 b5 (by have := hGz.out; omega)⟩
        have Bt := Lib.hid (BZ.out.trans (b5.mono BZ.out.size))
        have O5 := Lib.hid o5
        have hGt : Hid (t.heap[G + 2]? = some (.cells #[.slice none 0 0, .int .i64 0] 33 (0, 0))) := (Bt.out.block (G + 2) hGs.out).trans R2.out
        clear o5 b5
        go_wp2_with fail
        refine hK.out _ _ S1 ?_
        intro hS
        clear hK K hS
        try simp only [Act.put, List.getElem_toArray, List.getElem_cons_zero, List.getElem_cons_succ, List.setIfInBounds_toArray, List.set_cons_zero, List.set_cons_succ]
        have hS := S1
        refine wpAnyH_ready (rs := [5]) (by kernel_rfl) (by simp) ?_
        refine AllReadyH.cons rfl (fun K hK => ?_) AllReadyH.nil
        refine step_store_row 33 (.tmp 4) (.tmp 22) rfl rfl (G + 2) #[.slice (some ⟨b, o, none⟩) n c, .int .i64 dr] rfl rfl _ _ hGt.out (by kernel_rfl) rfl (by kernel_rfl) ?_
        have S2 : (t.setRow (G + 2) #[.slice (some ⟨b, o, none⟩) n c, .int .i64 dr]).rangeAt G 0 [.slice (some ⟨b, o, none⟩) n c, .int .i64 dr] ∧ (t.setRow (G + 2) #[.slice (some ⟨b, o, none⟩) n c, .int .i64 dr]).rangeAt (G + 1) 0 [.int .u8 104, .slice (some ⟨qb, qo, none⟩) 1 qc] := ⟨range_row _ S1.1 (by omega), range_row _ S1.2 (by omega)⟩
        refine hK.out _ _ S2 ?_
        intro hS
        clear hK K hS
        try simp only [Act.put, List.getElem_toArray, List.getElem_cons_zero, List.getElem_cons_succ, List.setIfInBounds_toArray, List.set_cons_zero, List.set_cons_succ]
        have hS := S2
        refine wpAnyH_take (i := 6) (v := ?vb6) rfl (by kernel_rfl) (by kernel_rfl) (by kernel_rfl) (fun _ _ _ h => h) (Or.inl ⟨by rfl, ?hyb6⟩) hS ?restb6
        case hyb6 => (intro w' hSw; go_simp; first | done | with_reducible rfl)
        try simp only [Act.put, List.getElem_toArray, List.getElem_cons_zero, List.getElem_cons_succ, List.setIfInBounds_toArray, List.set_cons_zero, List.set_cons_succ]
        refine wpAnyH_done (by kernel_rfl) (NoPanic.normal ?_) _
        go_wp2_with fail
        generalize hQ : World.setRow _ _ _ = Qz
        have hQg : Qz.heap[G + 2]? = some (.cells #[.slice (some ⟨b, o, none⟩) n c, .int .i64 dr] 33 (0, 0)) := by rw [← hQ]; exact setRow_heap _ _ _ _ _ _ hGt.out
        have hQb : Below w.heap.size w Qz := by rw [← hQ]; exact below_setRow (BW.out.trans (Bt.out.mono BW.out.size)) (by have := hG.out; omega) _
        have hOq : OwnS Qz w.heap.size D 32 dc ((hname (i + 1)).map B8) := by
          rw [← hQ]
          refine (O5.out.same fun b' o' e' _ => setRow_other _ _ _ _ ?_).mono (Nat.le_trans BW.out.size BZ.out.size)
          obtain ⟨b2, o2, e2, hb2, _⟩ := O5.out.mem (by have := O5.out.le; omega)
          rw [e'] at e2; injection e2 with e2; injection e2 with e3
          have := hGz.out; omega
        have hnt : note hs h = hs := if_pos (List.mem_of_getElem? (i := i) (by rw [hhx, of_decide_eq_true hbo.out]))
        have hix : hs.idxOf h = i := idxOf_first (by rw [hhx, of_decide_eq_true hbo.out]) hib.out
        refine bodyPost_ret (v := .tuple #[.agg #[.slice (some ⟨b, o, none⟩) n c, .int .i64 dr], .slice D 32 dc]) ?_ rfl ?_
        · exact results_cell_tmp Try.results60 rfl (run_loadVar_mid (P := Try.prog) Qz (G + 2) 0 33 _ _ (range_of hQg) Try.underlying33 rfl (by kernel_rfl))
        · refine ⟨_, n, c, D, dc, rfl, hnc, ?_, ?_, hQb⟩
          · rw [hnt]; exact HV0.out.same (fun b hb => hQb.block b (HOK.out b hb)) (fun b hb => Or.inl hb)
          · rw [hix]; exact hOq
    · have hin' : ¬ (i : Int) < (n : Int) := by omega
      have hni : h ∉ hs := not_in (fun j hj => hib.out j (by rw [hlen.out] at hj; omega))
      have hnt : Hid (note hs h = hs ++ [h]) := if_neg hni
      have hix : Hid (hs.idxOf h + 1 = n + 1) := by unfold Hid; rw [List.idxOf_eq_length hni, hlen.out]
      go_wp2_with fail
      obtain ⟨X, hX⟩ : ∃ W, Hid (W = wr.drew) := ⟨_, Lib.hid rfl⟩
      have dX : Below wr.heap.size wr X := by rw [hX.out]; exact below_drew (Below.refl _ _)
      have X0 := range_keep r0 dX (by have := hGr.out; omega)
      have X1 := range_keep r1 dX (by have := hGr.out; omega)
      have BX := Lib.hid (hb.out.trans (dX.mono hb.out.size))
      have hGX : Hid (G + 2 < X.heap.size) := Nat.lt_of_lt_of_le hGr.out dX.size
      have SX : X.rangeAt G 0 [.slice A n c, .int .i64 dr] ∧ X.rangeAt (G + 1) 0 [.int .u8 104, .slice (some ⟨qb, qo, none⟩) 1 qc] := ⟨X0, X1⟩
      obtain ⟨Qs, hq1, hq2, hq3, hq4⟩ := HV0.out
      have HQ3 := Lib.hid ((hq3.rd HOK.out).to (BW.out.trans (BX.out.mono BW.out.size)))
      have HQ4 := Lib.hid hq4
      have HQ1 := Lib.hid hq1
      have hTq : Hid (trC (qb, qo, qc) = [.int .u8 104, .slice (some ⟨qb, qo, none⟩) 1 qc]) := rfl
      clear hq1 hq2 hq3 hq4 c00
      refine wp_region_noPanic ?_
      refine wp_region_held_drew (S := fun w' => w'.rangeAt G 0 [.slice A n c, .int .i64 dr] ∧ w'.rangeAt (G + 1) 0 [.int .u8 104, .slice (some ⟨qb, qo, none⟩) 1 qc]) (by kernel_rfl) (by rw [← hX.out]; exact SX) (fun hS => ?_)
      rw [← hX.out]
      clear hS
      have hS : X.rangeAt G 0 [.slice A n c, .int .i64 dr] ∧ X.rangeAt (G + 1) 0 [.int .u8 104, .slice (some ⟨qb, qo, none⟩) 1 qc] := SX
      refine wpAnyH_take (i := 1) (v := ?vc1) rfl (by kernel_rfl) (by kernel_rfl) (by kernel_rfl) (fun _ _ _ h => h) (Or.inl ⟨by rfl, ?hyc1⟩) hS ?restc1
      case hyc1 => (intro w' hSw; go_simp; first | done | with_reducible rfl)
      try simp only [Act.put, List.getElem_toArray, List.getElem_cons_zero, List.getElem_cons_succ, List.setIfInBounds_toArray, List.set_cons_zero, List.set_cons_succ]
      refine wpAnyH_take (i := 2) (v := .slice A n c) rfl (by kernel_rfl) (by kernel_rfl) (by kernel_rfl) (fun _ _ _ h => h) (Or.inl ⟨by rfl, ?hyc2⟩) hS ?restc2
      case hyc2 => (intro w' hSw; have c0 := hSw.1 0 _ rfl; go_simp; first | done | with_reducible rfl)
      try simp only [Act.put, List.getElem_toArray, List.getElem_cons_zero, List.getElem_cons_succ, List.setIfInBounds_toArray, List.set_cons_zero, List.set_cons_succ]
      refine wpAnyH_take (i := 4) (v := .agg #[.int .u8 104, .slice (some ⟨qb, qo, none⟩) 1 qc]) rfl (by kernel_rfl) (by kernel_rfl) (by kernel_rfl) (fun _ _ _ h => h) (Or.inl ⟨by rfl, ?hyc4⟩) hS ?restc4
      case hyc4 => (intro w' hSw; have c0 := hSw.2 0 _ rfl; have c1 := hSw.2 1 _ rfl; go_simp; first | done | with_reducible rfl)
      try simp only [Act.put, List.getElem_toArray, List.getElem_cons_zero, List.getElem_cons_succ, List.setIfInBounds_toArray, List.set_cons_zero, List.set_cons_succ]
      have PX : Hid (Below X.heap.size X X) := Below.refl _ _
      refine wpAnyH_ready (rs := [0, 5]) (by kernel_rfl) (by simp) ?_
      refine AllReadyH.cons rfl (fun K hK => ?_) (AllReadyH.cons rfl (fun K hK => ?_) AllReadyH.nil)
      · go_simp
        obtain ⟨U, hU⟩ : ∃ W0, Hid (W0 = X.alloc (.cells #[] 124)) := ⟨_, Lib.hid rfl⟩
        obtain ⟨q0, hq0⟩ : ∃ q, Hid (q = X.heap.size) := ⟨_, Lib.hid rfl⟩
        have PU : Hid (Below X.heap.size X U) := by rw [hU.out]; exact PX.out.alloc PX.out.size _
        have L0 : Hid (U.ownsRow X.heap.size 124 2 (.slice (some ⟨q0, 0, none⟩) 0 0) 0 []) := by rw [hU.out, hq0.out]; exact own_mono (World.ownsRow_lit X #[] 0 (Nat.le_refl _) (by simp [maxLen]) rfl) PX.out.size
        have gU : Below X.heap.size X U := by rw [hU.out]; exact (Below.refl _ _).alloc (Nat.le_refl _) _
        rw [← hU.out, ← hq0.out]
        have hq0X : Hid (X.heap.size ≤ q0) := Nat.le_of_eq hq0.out.symm
        have SU : U.rangeAt G 0 [.slice A n c, .int .i64 dr] ∧ U.rangeAt (G + 1) 0 [.int .u8 104, .slice (some ⟨qb, qo, none⟩) 1 qc] := ⟨range_keep X0 PU.out (by have := hGX.out; omega), range_keep X1 PU.out (by have := hGX.out; omega)⟩
        refine hK.out _ _ SU ?_
        intro hS
        clear hK K hS
        try simp only [Act.put, List.getElem_toArray, List.getElem_cons_zero, List.getElem_cons_succ, List.setIfInBounds_toArray, List.set_cons_zero, List.set_cons_succ]
        refine wpAnyH_ready (rs := [3, 5]) (by kernel_rfl) (by simp) ?_
        refine AllReadyH.cons rfl (fun K hK => ?_) (AllReadyH.cons rfl (fun K hK => ?_) AllReadyH.nil)
        · have hQc := Lib.hid (HQ3.out.below PU.out)
          refine step_app (.tmp 27) (.tmp 29) 31 rfl rfl X.heap.size 124 2 32 _ Try.underlying31 infoT rfl (by decide) (.slice (some ⟨q0, 0, none⟩) 0 0) 0 [] rfl L0.out X.heap.size A n c (Qs.flatMap trC) rfl hQc.out (trCs_one Qs) (by simp only [maxLen]; omega) (by omega) PU.out.size ?_
          intro A3 c3 V1 o3 g3 _
          simp only [Nat.zero_add, List.nil_append] at o3 ⊢
          have L3 := Lib.hid o3
          have G3 := Lib.hid g3
          have PV1 := Lib.hid (PU.out.trans (⟨g3.os, g3.tape, g3.output, g3.size, fun k hk => g3.block k (Nat.lt_of_lt_of_le hk PU.out.size) (fun e => by simp [Value.ownBlock] at e; have := hq0X.out; omega)⟩ : Below X.heap.size U V1))
          clear o3 g3
          have SV1 : V1.rangeAt G 0 [.slice A n c, .int .i64 dr] ∧ V1.rangeAt (G + 1) 0 [.int .u8 104, .slice (some ⟨qb, qo, none⟩) 1 qc] := ⟨range_keep X0 PV1.out (by have := hGX.out; omega), range_keep X1 PV1.out (by have := hGX.out; omega)⟩
          refine hK.out _ _ SV1 ?_
          intro hS
          clear hK K hS
          try simp only [Act.put, List.getElem_toArray, List.getElem_cons_zero, List.getElem_cons_succ, List.setIfInBounds_toArray, List.set_cons_zero, List.set_cons_succ]
          refine wpAnyH_ready (rs := [5]) (by kernel_rfl) (by simp) ?_
          refine AllReadyH.cons rfl (fun K hK => ?_) AllReadyH.nil
          go_simp
          obtain ⟨V2, hV2⟩ : ∃ W0, Hid (W0 = V1.alloc (.cells #[.int .u8 104, .slice (some ⟨qb, qo, none⟩) 1 qc] 124)) := ⟨_, Lib.hid rfl⟩
          obtain ⟨q5, hq5⟩ : ∃ q, Hid (q = V1.heap.size) := ⟨_, Lib.hid rfl⟩
          have PV2 : Hid (Below X.heap.size X V2) := by rw [hV2.out]; exact PV1.out.alloc PV1.out.size _
          have L5 : Hid (Rd V2 V2.heap.size 2 (some ⟨q5, 0, none⟩) 1 (trC (qb, qo, qc))) := by rw [hV2.out, hq5.out]; exact (two_cells V1 124 (.int .u8 104) (.slice (some ⟨qb, qo, none⟩) 1 qc)).more (by rw [szAlloc]; exact Nat.le_refl _)
          have gV2 : Below V1.heap.size V1 V2 := by rw [hV2.out]; exact (Below.refl _ _).alloc (Nat.le_refl _) _
          rw [← hV2.out, ← hq5.out]
          replace L3 := Lib.hid (own_to L3.out gV2)
          have SV2 : V2.rangeAt G 0 [.slice A n c, .int .i64 dr] ∧ V2.rangeAt (G + 1) 0 [.int .u8 104, .slice (some ⟨qb, qo, none⟩) 1 qc] := ⟨range_keep X0 PV2.out (by have := hGX.out; omega), range_keep X1 PV2.out (by have := hGX.out; omega)⟩
          refine hK.out _ _ SV2 ?_
          intro hS
          clear hK K hS
          try simp only [Act.put, List.getElem_toArray, List.getElem_cons_zero, List.getElem_cons_succ, List.setIfInBounds_toArray, List.set_cons_zero, List.set_cons_succ]
          refine wpAnyH_ready (rs := [6]) (by kernel_rfl) (by simp) ?_
          refine AllReadyH.cons rfl (fun K hK => ?_) AllReadyH.nil
          refine step_app (.tmp 30) (.tmp 32) 31 rfl rfl X.heap.size 124 2 32 _ Try.underlying31 infoT rfl (by decide) (.slice A3 n c3) n _ rfl L3.out _ (some ⟨q5, 0, none⟩) 1 1 (trC (qb, qo, qc)) rfl L5.out (trC_one _) (by simp only [maxLen]; omega) (by omega) PV2.out.size ?_
          intro A6 c6 V3 o6 g6 _
          have L6 := Lib.hid o6
          have PV3 := Lib.hid (PV2.out.trans (below_grown g6 (own_block_ge2 L3.out) PV2.out.size))
          clear o6 g6
          have SV3 : V3.rangeAt G 0 [.slice A n c, .int .i64 dr] ∧ V3.rangeAt (G + 1) 0 [.int .u8 104, .slice (some ⟨qb, qo, none⟩) 1 qc] := ⟨range_keep X0 PV3.out (by have := hGX.out; omega), range_keep X1 PV3.out (by have := hGX.out; omega)⟩
          refine hK.out _ _ SV3 ?_
          intro hS
          clear hK K hS
          try simp only [Act.put, List.getElem_toArray, List.getElem_cons_zero, List.getElem_cons_succ, List.setIfInBounds_toArray, List.set_cons_zero, List.set_cons_succ]
          have hS : V3.rangeAt G 0 [.slice A n c, .int .i64 dr] ∧ V3.rangeAt (G + 1) 0 [.int .u8 104, .slice (some ⟨qb, qo, none⟩) 1 qc] := SV3
          refine wpAnyH_take (i := 7) (v := ?vd7) rfl (by kernel_rfl) (by kernel_rfl) (by kernel_rfl) (fun _ _ _ h => h) (Or.inl ⟨by rfl, ?hyd7⟩) hS ?restd7
          case hyd7 => (intro w' hSw; go_simp; first | done | with_reducible rfl)
          try simp only [Act.put, List.getElem_toArray, List.getElem_cons_zero, List.getElem_cons_succ, List.setIfInBounds_toArray, List.set_cons_zero, List.set_cons_succ]
          refine wpAnyH_done (by kernel_rfl) (NoPanic.normal ?_) _
          go_wp2_with fail
          obtain ⟨Z, hZ⟩ : ∃ W, Hid (W = V3.drew) := ⟨_, Lib.hid rfl⟩
          have dZ : Below V3.heap.size V3 Z := by rw [hZ.out]; exact below_drew (Below.refl _ _)
          have Z0 := range_keep SV3.1 dZ (by have := hGX.out; have := PV3.out.size; omega)
          have Z1 := range_keep SV3.2 dZ (by have := hGX.out; have := PV3.out.size; omega)
          have BZ := Lib.hid ((BX.out.trans (PV3.out.mono BX.out.size)).trans (dZ.mono (Nat.le_trans BX.out.size PV3.out.size)))
          have hGz : Hid (G + 2 < Z.heap.size) := Nat.lt_of_lt_of_le hGX.out (Nat.le_trans PV3.out.size dZ.size)
          have LZ := Lib.hid (own_to L6.out dZ)
          have SZ : Z.rangeAt G 0 [.slice A n c, .int .i64 dr] ∧ Z.rangeAt (G + 1) 0 [.int .u8 104, .slice (some ⟨qb, qo, none⟩) 1 qc] := ⟨Z0, Z1⟩
          have hw1 : IntKind.i64.wrap (((n + 1 : Nat) : Int)) = ((n + 1 : Nat) : Int) := IntWalk.i64_in _ (by omega)
          refine wp_region_noPanic ?_
          refine wp_region_held_drew (S := fun w' => w'.rangeAt G 0 [.slice A n c, .int .i64 dr] ∧ w'.rangeAt (G + 1) 0 [.int .u8 104, .slice (some ⟨qb, qo, none⟩) 1 qc]) (by kernel_rfl) (by rw [← hZ.out]; exact SZ) (fun hS => ?_)
          rw [← hZ.out]
          clear hS
          have hS : Z.rangeAt G 0 [.slice A n c, .int .i64 dr] ∧ Z.rangeAt (G + 1) 0 [.int .u8 104, .slice (some ⟨qb, qo, none⟩) 1 qc] := SZ
          refine wpAnyH_take (i := 0) (v := ?ve0) rfl (by kernel_rfl) (by kernel_rfl) (by kernel_rfl) (fun _ _ _ h => h) (Or.inl ⟨by rfl, ?hye0⟩) hS ?reste0
          case hye0 => (intro w' hSw; go_simp; first | done | with_reducible rfl)
          try simp only [Act.put, List.getElem_toArray, List.getElem_cons_zero, List.getElem_cons_succ, List.setIfInBounds_toArray, List.set_cons_zero, List.set_cons_succ]
          refine wpAnyH_take (i := 1) (v := ?ve1) rfl (by kernel_rfl) (by kernel_rfl) (by kernel_rfl) (fun _ _ _ h => h) (Or.inl ⟨by rfl, ?hye1⟩) hS ?reste1
          case hye1 => (intro w' hSw; go_simp; first | done | with_reducible rfl)
          try simp only [Act.put, List.getElem_toArray, List.getElem_cons_zero, List.getElem_cons_succ, List.setIfInBounds_toArray, List.set_cons_zero, List.set_cons_succ]
          refine wpAnyH_take (i := 2) (v := .int .i64 dr) rfl (by kernel_rfl) (by kernel_rfl) (by kernel_rfl) (fun _ _ _ h => h) (Or.inl ⟨by rfl, ?hye2⟩) hS ?reste2
          case hye2 => (intro w' hSw; have c0 := hSw.1 1 _ rfl; go_simp; first | done | with_reducible rfl)
          try simp only [Act.put, List.getElem_toArray, List.getElem_cons_zero, List.getElem_cons_succ, List.setIfInBounds_toArray, List.set_cons_zero, List.set_cons_succ]
          refine wpAnyH_take (i := 3) (v := .agg #[.slice A6 (n + 1) c6, .int .i64 dr]) rfl (by kernel_rfl) (by kernel_rfl) (by kernel_rfl) (fun _ _ _ h => h) (Or.inl ⟨by rfl, ?hye3⟩) hS ?reste3
          case hye3 => (intro w' hSw; go_simp; first | done | with_reducible rfl)
          try simp only [Act.put, List.getElem_toArray, List.getElem_cons_zero, List.getElem_cons_succ, List.setIfInBounds_toArray, List.set_cons_zero, List.set_cons_succ]
          refine wpAnyH_take (i := 4) (v := .agg #[.int .u8 104, .slice (some ⟨qb, qo, none⟩) 1 qc]) rfl (by kernel_rfl) (by kernel_rfl) (by kernel_rfl) (fun _ _ _ h => h) (Or.inl ⟨by rfl, ?hye4⟩) hS ?reste4
          case hye4 => (intro w' hSw; have c0 := hSw.2 0 _ rfl; have c1 := hSw.2 1 _ rfl; go_simp; first | done | with_reducible rfl)
          try simp only [Act.put, List.getElem_toArray, List.getElem_cons_zero, List.getElem_cons_succ, List.setIfInBounds_toArray, List.set_cons_zero, List.set_cons_succ]
          refine wpAnyH_take (i := 5) (v := ?ve5) rfl (by kernel_rfl) (by kernel_rfl) (by kernel_rfl) (fun _ _ _ h => h) (Or.inl ⟨by rfl, ?hye5⟩) hS ?reste5
          case hye5 => (intro w' hSw; go_simp; first | done | with_reducible rfl)
          try simp only [Act.put, List.getElem_toArray, List.getElem_cons_zero, List.getElem_cons_succ, List.setIfInBounds_toArray, List.set_cons_zero, List.set_cons_succ]
          refine wpAnyH_take (i := 6) (v := .int .i64 ((n + 1 : Nat) : Int)) rfl (by kernel_rfl) (by kernel_rfl) (by kernel_rfl) (fun _ _ _ h => h) (Or.inl ⟨by rfl, ?hye6⟩) hS ?reste6
          case hye6 => (intro w' hSw; go_simp; first | done | with_reducible rfl)
          try simp only [Act.put, List.getElem_toArray, List.getElem_cons_zero, List.getElem_cons_succ, List.setIfInBounds_toArray, List.set_cons_zero, List.set_cons_succ]
          refine wpAnyH_ready (rs := [7]) (by kernel_rfl) (by simp) ?_
          refine AllReadyH.cons rfl (fun K hK => ?_) AllReadyH.nil
          go_simp
          refine (refCalled_ (some ⟨qb, qo, none⟩) 1 qc (n + 1) Z (by omega)).mono ?_
          rintro e t ⟨D, dc, rfl, o5, b5⟩
          have S1 : t.rangeAt G 0 [.slice A n c, .int .i64 dr] ∧ t.rangeAt (G + 1) 0 [.int .u8 104, .slice (some ⟨qb, qo, none⟩) 1 qc] := ⟨range_keep Z0 b5 (by have := hGz.out; omega), range_keep Z1 b5 (by have := hGz.out; omega)⟩
          have Bt := Lib.hid (BZ.out.trans (b5.mono BZ.out.size))
          have O5 := Lib.hid o5
          have Lt := Lib.hid (own_to LZ.out b5)
          have hGt : Hid (t.heap[G + 2]? = some (.cells #[.slice none 0 0, .int .i64 0] 33 (0, 0))) := (Bt.out.block (G + 2) hGs.out).trans R2.out
          clear o5 b5
          go_wp2_with fail
          refine hK.out _ _ S1 ?_
          intro hS
          clear hK K hS
          try simp only [Act.put, List.getElem_toArray, List.getElem_cons_zero, List.getElem_cons_succ, List.setIfInBounds_toArray, List.set_cons_zero, List.set_cons_succ]
          have hS := S1
          refine wpAnyH_ready (rs := [8]) (by kernel_rfl) (by simp) ?_
          refine AllReadyH.cons rfl (fun K hK => ?_) AllReadyH.nil
          refine step_store_row 33 (.tmp 4) (.tmp 37) rfl rfl (G + 2) #[.slice A6 (n + 1) c6, .int .i64 dr] rfl rfl _ _ hGt.out (by kernel_rfl) rfl (by kernel_rfl) ?_
          have S2 : (t.setRow (G + 2) #[.slice A6 (n + 1) c6, .int .i64 dr]).rangeAt G 0 [.slice A n c, .int .i64 dr] ∧ (t.setRow (G + 2) #[.slice A6 (n + 1) c6, .int .i64 dr]).rangeAt (G + 1) 0 [.int .u8 104, .slice (some ⟨qb, qo, none⟩) 1 qc] := ⟨range_row _ S1.1 (by omega), range_row _ S1.2 (by omega)⟩
          refine hK.out _ _ S2 ?_
          intro hS
          clear hK K hS
          try simp only [Act.put, List.getElem_toArray, List.getElem_cons_zero, List.getElem_cons_succ, List.setIfInBounds_toArray, List.set_cons_zero, List.set_cons_succ]
          have hS := S2
          refine wpAnyH_take (i := 9) (v := ?ve9) rfl (by kernel_rfl) (by kernel_rfl) (by kernel_rfl) (fun _ _ _ h => h) (Or.inl ⟨by rfl, ?hye9⟩) hS ?reste9
          case hye9 => (intro w' hSw; go_simp; first | done | with_reducible rfl)
          try simp only [Act.put, List.getElem_toArray, List.getElem_cons_zero, List.getElem_cons_succ, List.setIfInBounds_toArray, List.set_cons_zero, List.set_cons_succ]
          refine wpAnyH_done (by kernel_rfl) (NoPanic.normal ?_) _
          go_wp2_with fail
          generalize hQ : World.setRow _ _ _ = Qz
          have hQg : Qz.heap[G + 2]? = some (.cells #[.slice A6 (n + 1) c6, .int .i64 dr] 33 (0, 0)) := by rw [← hQ]; exact setRow_heap _ _ _ _ _ _ hGt.out
          have hQb : Below w.heap.size w Qz := by rw [← hQ]; exact below_setRow (BW.out.trans (Bt.out.mono BW.out.size)) (by have := hG.out; omega) _
          have hOq : OwnS Qz w.heap.size D 32 dc ((hname (n + 1)).map B8) := by
            rw [← hQ]
            refine (O5.out.same fun b' o' e' _ => setRow_other _ _ _ _ ?_).mono (Nat.le_trans BW.out.size BZ.out.size)
            obtain ⟨b2, o2, e2, hb2, _⟩ := O5.out.mem (by have := O5.out.le; omega)
            rw [e'] at e2; injection e2 with e2; injection e2 with e3
            have := hGz.out; omega
          have hLq : RdP Qz (fun b => ok b ∨ w.heap.size ≤ b ∧ b < Qz.heap.size) 2 A6 (n + 1) ((Qs ++ [(qb, qo, qc)]).flatMap trC) := by
            have h1 := Rd.of_own Lt.out
            rw [List.flatMap_append, show [(qb, qo, qc)].flatMap trC = trC (qb, qo, qc) from rfl]
            obtain ⟨g', e2, h3, h4⟩ := own_addr Lt.out (by omega)
            have h5 := h1.same (w' := Qz) (fun b' o' h0 e' => by rw [← hQ]; refine setRow_other _ _ _ _ ?_; rw [e'] at e2; injection e2 with e2; injection e2 with e3; have := hGX.out; omega)
            refine ⟨h5.1, fun h0 => ?_⟩
            obtain ⟨b', o', e', _, hc⟩ := h5.2 h0
            refine ⟨b', o', e', Or.inr ?_, hc⟩
            rw [e'] at e2; injection e2 with e2; injection e2 with e3
            rw [← hQ, setRow_size]
            have h6 := hGX.out; have h7 := hG.out; omega
          refine bodyPost_ret (v := .tuple #[.agg #[.slice A6 (n + 1) c6, .int .i64 dr], .slice D 32 dc]) ?_ rfl ?_
          · exact results_cell_tmp Try.results60 rfl (run_loadVar_mid (P := Try.prog) Qz (G + 2) 0 33 _ _ (range_of hQg) Try.underlying33 rfl (by kernel_rfl))
          · refine ⟨_, n + 1, c6, D, dc, rfl, own_cap Lt.out, ?_, ?_, hQb⟩
            · rw [hnt.out]
              refine ⟨Qs ++ [(qb, qo, qc)], by simp [HQ1.out], by simp [hlen.out], hLq, fun j q h' e1 e2 => ?_⟩
              rcases Nat.lt_or_ge j Qs.length with hj | hj
              · rw [List.getElem?_append_left hj] at e1
                rw [List.getElem?_append_left (by rw [hlen.out, ← HQ1.out]; exact hj)] at e2
                exact (HQ4.out j q h' e1 e2).same (fun b hb => hQb.block b (HOK.out b hb)) (fun b hb => Or.inl hb)
              · rw [List.getElem?_append_right hj] at e1
                rw [List.getElem?_append_right (by rw [hlen.out, ← HQ1.out]; exact hj)] at e2
                rcases hz : j - Qs.length with _ | z
                · rw [hz] at e1; rw [hlen.out, ← HQ1.out, hz] at e2
                  simp at e1 e2
                  subst e1 e2
                  exact HO0.out.same (fun b hb => hQb.block b (HOK.out b hb)) (fun b hb => Or.inl hb)
                · rw [hz] at e1; simp at e1
            · rw [hix.out]; exact hOq
        · go_simp
          obtain ⟨V1, hV1⟩ : ∃ W0, Hid (W0 = U.alloc (.cells #[.int .u8 104, .slice (some ⟨qb, qo, none⟩) 1 qc] 124)) := ⟨_, Lib.hid rfl⟩
          obtain ⟨q5, hq5⟩ : ∃ q, Hid (q = U.heap.size) := ⟨_, Lib.hid rfl⟩
          have PV1 : Hid (Below X.heap.size X V1) := by rw [hV1.out]; exact PU.out.alloc PU.out.size _
          have L5 : Hid (Rd V1 V1.heap.size 2 (some ⟨q5, 0, none⟩) 1 (trC (qb, qo, qc))) := by rw [hV1.out, hq5.out]; exact (two_cells U 124 (.int .u8 104) (.slice (some ⟨qb, qo, none⟩) 1 qc)).more (by rw [szAlloc]; exact Nat.le_refl _)
          have gV1 : Below U.heap.size U V1 := by rw [hV1.out]; exact (Below.refl _ _).alloc (Nat.le_refl _) _
          rw [← hV1.out, ← hq5.out]
          replace L0 := Lib.hid (own_to L0.out gV1)
          have hq5c : Hid (q5 < V1.heap.size) := by unfold Hid; rw [hq5.out, hV1.out, szAlloc]; exact Nat.lt_succ_self _
          have hq05 : Hid (¬ q5 = q0) := by unfold Hid; have h1 := hq5.out; have h2 := hq0.out; have h3 : U.heap.size = X.heap.size + 1 := (by rw [hU.out, szAlloc]); omega
          have SV1 : V1.rangeAt G 0 [.slice A n c, .int .i64 dr] ∧ V1.rangeAt (G + 1) 0 [.int .u8 104, .slice (some ⟨qb, qo, none⟩) 1 qc] := ⟨range_keep X0 PV1.out (by have := hGX.out; omega), range_keep X1 PV1.out (by have := hGX.out; omega)⟩
          refine hK.out _ _ SV1 ?_
          intro hS
          clear hK K hS
          try simp only [Act.put, List.getElem_toArray, List.getElem_cons_zero, List.getElem_cons_succ, List.setIfInBounds_toArray, List.set_cons_zero, List.set_cons_succ]
          refine wpAnyH_ready (rs := [3]) (by kernel_rfl) (by simp) ?_
          refine AllReadyH.cons rfl (fun K hK => ?_) AllReadyH.nil
          have hQc := Lib.hid (HQ3.out.below PV1.out)
          refine step_app (.tmp 27) (.tmp 29) 31 rfl rfl X.heap.size 124 2 32 _ Try.underlying31 infoT rfl (by decide) (.slice (some ⟨q0, 0, none⟩) 0 0) 0 [] rfl L0.out X.heap.size A n c (Qs.flatMap trC) rfl hQc.out (trCs_one Qs) (by simp only [maxLen]; omega) (by omega) PV1.out.size ?_
          intro A3 c3 V2 o3 g3 _
          simp only [Nat.zero_add, List.nil_append] at o3 ⊢
          have L3 := Lib.hid o3
          have G3 := Lib.hid g3
          have PV2 := Lib.hid (PV1.out.trans (⟨g3.os, g3.tape, g3.output, g3.size, fun k hk => g3.block k (Nat.lt_of_lt_of_le hk PV1.out.size) (fun e => by simp [Value.ownBlock] at e; have := hq0X.out; omega)⟩ : Below X.heap.size V1 V2))
          clear o3 g3
          replace L5 := Lib.hid ((L5.out.same (fun b' o' _ e' => G3.out.block b' (by injection e' with e'; injection e' with e1; rw [← e1]; exact hq5c.out) (by simp [Value.ownBlock]; injection e' with e'; injection e' with e1; rw [← e1]; exact hq05.out))).more G3.out.size)
          have SV2 : V2.rangeAt G 0 [.slice A n c, .int .i64 dr] ∧ V2.rangeAt (G + 1) 0 [.int .u8 104, .slice (some ⟨qb, qo, none⟩) 1 qc] := ⟨range_keep X0 PV2.out (by have := hGX.out; omega), range_keep X1 PV2.out (by have := hGX.out; omega)⟩
          refine hK.out _ _ SV2 ?_
          intro hS
          clear hK K hS
          try simp only [Act.put, List.getElem_toArray, List.getElem_cons_zero, List.getElem_cons_succ, List.setIfInBounds_toArray, List.set_cons_zero, List.set_cons_succ]
          refine wpAnyH_ready (rs := [6]) (by kernel_rfl) (by simp) ?_
          refine AllReadyH.cons rfl (fun K hK => ?_) AllReadyH.nil
          refine step_app (.tmp 30) (.tmp 32) 31 rfl rfl X.heap.size 124 2 32 _ Try.underlying31 infoT rfl (by decide) (.slice A3 n c3) n _ rfl L3.out _ (some ⟨q5, 0, none⟩) 1 1 (trC (qb, qo, qc)) rfl L5.out (trC_one _) (by simp only [maxLen]; omega) (by omega) PV2.out.size ?_
          intro A6 c6 V3 o6 g6 _
          have L6 := Lib.hid o6
          have PV3 := Lib.hid (PV2.out.trans (below_grown g6 (own_block_ge2 L3.out) PV2.out.size))
          clear o6 g6
          have SV3 : V3.rangeAt G 0 [.slice A n c, .int .i64 dr] ∧ V3.rangeAt (G + 1) 0 [.int .u8 104, .slice (some ⟨qb, qo, none⟩) 1 qc] := ⟨range_keep X0 PV3.out (by have := hGX.out; omega), range_keep X1 PV3.out (by have := hGX.out; omega)⟩
          refine hK.out _ _ SV3 ?_
          intro hS
          clear hK K hS
          try simp only [Act.put, List.getElem_toArray, List.getElem_cons_zero, List.getElem_cons_succ, List.setIfInBounds_toArray, List.set_cons_zero, List.set_cons_succ]
          have hS : V3.rangeAt G 0 [.slice A n c, .int .i64 dr] ∧ V3.rangeAt (G + 1) 0 [.int .u8 104, .slice (some ⟨qb, qo, none⟩) 1 qc] := SV3
          refine wpAnyH_take (i := 7) (v := ?vf7) rfl (by kernel_rfl) (by kernel_rfl) (by kernel_rfl) (fun _ _ _ h => h) (Or.inl ⟨by rfl, ?hyf7⟩) hS ?restf7
          case hyf7 => (intro w' hSw; go_simp; first | done | with_reducible rfl)
          try simp only [Act.put, List.getElem_toArray, List.getElem_cons_zero, List.getElem_cons_succ, List.setIfInBounds_toArray, List.set_cons_zero, List.set_cons_succ]
          refine wpAnyH_done (by kernel_rfl) (NoPanic.normal ?_) _
          go_wp2_with fail
          obtain ⟨Z, hZ⟩ : ∃ W, Hid (W = V3.drew) := ⟨_, Lib.hid rfl⟩
          have dZ : Below V3.heap.size V3 Z := by rw [hZ.out]; exact below_drew (Below.refl _ _)
          have Z0 := range_keep SV3.1 dZ (by have := hGX.out; have := PV3.out.size; omega)
          have Z1 := range_keep SV3.2 dZ (by have := hGX.out; have := PV3.out.size; omega)
          have BZ := Lib.hid ((BX.out.trans (PV3.out.mono BX.out.size)).trans (dZ.mono (Nat.le_trans BX.out.size PV3.out.size)))
          have hGz : Hid (G + 2 < Z.heap.size) := Nat.lt_of_lt_of_le hGX.out (Nat.le_trans PV3.out.size dZ.size)
          have LZ := Lib.hid (own_to L6.out dZ)
          have SZ : Z.rangeAt G 0 [.slice A n c, .int .i64 dr] ∧ Z.rangeAt (G + 1) 0 [.int .u8 104, .slice (some ⟨qb, qo, none⟩) 1 qc] := ⟨Z0, Z1⟩
          have hw1 : IntKind.i64.wrap (((n + 1 : Nat) : Int)) = ((n + 1 : Nat) : Int) := IntWalk.i64_in _ (by omega)
          refine wp_region_noPanic ?_
          refine wp_region_held_drew (S := fun w' => w'.rangeAt G 0 [.slice A n c, .int .i64 dr] ∧ w'.rangeAt (G + 1) 0 [.int .u8 104, .slice (some ⟨qb, qo, none⟩) 1 qc]) (by kernel_rfl) (by rw [← hZ.out]; exact SZ) (fun hS => ?_)
          rw [← hZ.out]
          clear hS
          have hS : Z.rangeAt G 0 [.slice A n c, .int .i64 dr] ∧ Z.rangeAt (G + 1) 0 [.int .u8 104, .slice (some ⟨qb, qo, none⟩) 1 qc] := SZ
          refine wpAnyH_take (i := 0) (v := ?vg0) rfl (by kernel_rfl) (by kernel_rfl) (by kernel_rfl) (fun _ _ _ h => h) (Or.inl ⟨by rfl, ?hyg0⟩) hS ?restg0
          case hyg0 => (intro w' hSw; go_simp; first | done | with_reducible rfl)
          try simp only [Act.put, List.getElem_toArray, List.getElem_cons_zero, List.getElem_cons_succ, List.setIfInBounds_toArray, List.set_cons_zero, List.set_cons_succ]
          refine wpAnyH_take (i := 1) (v := ?vg1) rfl (by kernel_rfl) (by kernel_rfl) (by kernel_rfl) (fun _ _ _ h => h) (Or.inl ⟨by rfl, ?hyg1⟩) hS ?restg1
          case hyg1 => (intro w' hSw; go_simp; first | done | with_reducible rfl)
          try simp only [Act.put, List.getElem_toArray, List.getElem_cons_zero, List.getElem_cons_succ, List.setIfInBounds_toArray, List.set_cons_zero, List.set_cons_succ]
          refine wpAnyH_take (i := 2) (v := .int .i64 dr) rfl (by kernel_rfl) (by kernel_rfl) (by kernel_rfl) (fun _ _ _ h => h) (Or.inl ⟨by rfl, ?hyg2⟩) hS ?restg2
          case hyg2 => (intro w' hSw; have c0 := hSw.1 1 _ rfl; go_simp; first | done | with_reducible rfl)
          try simp only [Act.put, List.getElem_toArray, List.getElem_cons_zero, List.getElem_cons_succ, List.setIfInBounds_toArray, List.set_cons_zero, List.set_cons_succ]
          refine wpAnyH_take (i := 3) (v := .agg #[.slice A6 (n + 1) c6, .int .i64 dr]) rfl (by kernel_rfl) (by kernel_rfl) (by kernel_rfl) (fun _ _ _ h => h) (Or.inl ⟨by rfl, ?hyg3⟩) hS ?restg3
          case hyg3 => (intro w' hSw; go_simp; first | done | with_reducible rfl)
          try simp only [Act.put, List.getElem_toArray, List.getElem_cons_zero, List.getElem_cons_succ, List.setIfInBounds_toArray, List.set_cons_zero, List.set_cons_succ]
          refine wpAnyH_take (i := 4) (v := .agg #[.int .u8 104, .slice (some ⟨qb, qo, none⟩) 1 qc]) rfl (by kernel_rfl) (by kernel_rfl) (by kernel_rfl) (fun _ _ _ h => h) (Or.inl ⟨by rfl, ?hyg4⟩) hS ?restg4
          case hyg4 => (intro w' hSw; have c0 := hSw.2 0 _ rfl; have c1 := hSw.2 1 _ rfl; go_simp; first | done | with_reducible rfl)
          try simp only [Act.put, List.getElem_toArray, List.getElem_cons_zero, List.getElem_cons_succ, List.setIfInBounds_toArray, List.set_cons_zero, List.set_cons_succ]
          refine wpAnyH_take (i := 5) (v := ?vg5) rfl (by kernel_rfl) (by kernel_rfl) (by kernel_rfl) (fun _ _ _ h => h) (Or.inl ⟨by rfl, ?hyg5⟩) hS ?restg5
          case hyg5 => (intro w' hSw; go_simp; first | done | with_reducible rfl)
          try simp only [Act.put, List.getElem_toArray, List.getElem_cons_zero, List.getElem_cons_succ, List.setIfInBounds_toArray, List.set_cons_zero, List.set_cons_succ]
          refine wpAnyH_take (i := 6) (v := .int .i64 ((n + 1 : Nat) : Int)) rfl (by kernel_rfl) (by kernel_rfl) (by kernel_rfl) (fun _ _ _ h => h) (Or.inl ⟨by rfl, ?hyg6⟩) hS ?restg6
          case hyg6 => (intro w' hSw; go_simp; first | done | with_reducible rfl)
          try simp only [Act.put, List.getElem_toArray, List.getElem_cons_zero, List.getElem_cons_succ, List.setIfInBounds_toArray, List.set_cons_zero, List.set_cons_succ]
          refine wpAnyH_ready (rs := [7]) (by kernel_rfl) (by simp) ?_
          refine AllReadyH.cons rfl (fun K hK => ?_) AllReadyH.nil
          go_simp
          refine (refCalled_ (some ⟨qb, qo, none⟩) 1 qc (n + 1) Z (by omega)).mono ?_
          rintro e t ⟨D, dc, rfl, o5, b5⟩
          have S1 : t.rangeAt G 0 [.slice A n c, .int .i64 dr] ∧ t.rangeAt (G + 1) 0 [.int .u8 104, .slice (some ⟨qb, qo, none⟩) 1 qc] := ⟨range_keep Z0 b5 (by have := hGz.out; omega), range_keep Z1 b5 (by have := hGz.out; omega)⟩
          have Bt := Lib.hid (BZ.out.trans (b5.mono BZ.out.size))
          have O5 := Lib.hid o5
          have Lt := Lib.hid (own_to LZ.out b5)
          have hGt : Hid (t.heap[G + 2]? = some (.cells #[.slice none 0 0, .int .i64 0] 33 (0, 0))) := (Bt.out.block (G + 2) hGs.out).trans R2.out
          clear o5 b5
          go_wp2_with fail
          refine hK.out _ _ S1 ?_
          intro hS
          clear hK K hS
          try simp only [Act.put, List.getElem_toArray, List.getElem_cons_zero, List.getElem_cons_succ, List.setIfInBounds_toArray, List.set_cons_zero, List.set_cons_succ]
          have hS := S1
          refine wpAnyH_ready (rs := [8]) (by kernel_rfl) (by simp) ?_
          refine AllReadyH.cons rfl (fun K hK => ?_) AllReadyH.nil
          refine step_store_row 33 (.tmp 4) (.tmp 37) rfl rfl (G + 2) #[.slice A6 (n + 1) c6, .int .i64 dr] rfl rfl _ _ hGt.out (by kernel_rfl) rfl (by kernel_rfl) ?_
          have S2 : (t.setRow (G + 2) #[.slice A6 (n + 1) c6, .int .i64 dr]).rangeAt G 0 [.slice A n c, .int .i64 dr] ∧ (t.setRow (G + 2) #[.slice A6 (n + 1) c6, .int .i64 dr]).rangeAt (G + 1) 0 [.int .u8 104, .slice (some ⟨qb, qo, none⟩) 1 qc] := ⟨range_row _ S1.1 (by omega), range_row _ S1.2 (by omega)⟩
          refine hK.out _ _ S2 ?_
          intro hS
          clear hK K hS
          try simp only [Act.put, List.getElem_toArray, List.getElem_cons_zero, List.getElem_cons_succ, List.setIfInBounds_toArray, List.set_cons_zero, List.set_cons_succ]
          have hS := S2
          refine wpAnyH_take (i := 9) (v := ?vg9) rfl (by kernel_rfl) (by kernel_rfl) (by kernel_rfl) (fun _ _ _ h => h) (Or.inl ⟨by rfl, ?hyg9⟩) hS ?restg9
          case hyg9 => (intro w' hSw; go_simp; first | done | with_reducible rfl)
          try simp only [Act.put, List.getElem_toArray, List.getElem_cons_zero, List.getElem_cons_succ, List.setIfInBounds_toArray, List.set_cons_zero, List.set_cons_succ]
          refine wpAnyH_done (by kernel_rfl) (NoPanic.normal ?_) _
          go_wp2_with fail
          generalize hQ : World.setRow _ _ _ = Qz
          have hQg : Qz.heap[G + 2]? = some (.cells #[.slice A6 (n + 1) c6, .int .i64 dr] 33 (0, 0)) := by rw [← hQ]; exact setRow_heap _ _ _ _ _ _ hGt.out
          have hQb : Below w.heap.size w Qz := by rw [← hQ]; exact below_setRow (BW.out.trans (Bt.out.mono BW.out.size)) (by have := hG.out; omega) _
          have hOq : OwnS Qz w.heap.size D 32 dc ((hname (n + 1)).map B8) := by
            rw [← hQ]
            refine (O5.out.same fun b' o' e' _ => setRow_other _ _ _ _ ?_).mono (Nat.le_trans BW.out.size BZ.out.size)
            obtain ⟨b2, o2, e2, hb2, _⟩ := O5.out.mem (by have := O5.out.le; omega)
            rw [e'] at e2; injection e2 with e2; injection e2 with e3
            have := hGz.out; omega
          have hLq : RdP Qz (fun b => ok b ∨ w.heap.size ≤ b ∧ b < Qz.heap.size) 2 A6 (n + 1) ((Qs ++ [(qb, qo, qc)]).flatMap trC) := by
            have h1 := Rd.of_own Lt.out
            rw [List.flatMap_append, show [(qb, qo, qc)].flatMap trC = trC (qb, qo, qc) from rfl]
            obtain ⟨g', e2, h3, h4⟩ := own_addr Lt.out (by omega)
            have h5 := h1.same (w' := Qz) (fun b' o' h0 e' => by rw [← hQ]; refine setRow_other _ _ _ _ ?_; rw [e'] at e2; injection e2 with e2; injection e2 with e3; have := hGX.out; omega)
            refine ⟨h5.1, fun h0 => ?_⟩
            obtain ⟨b', o', e', _, hc⟩ := h5.2 h0
            refine ⟨b', o', e', Or.inr ?_, hc⟩
            rw [e'] at e2; injection e2 with e2; injection e2 with e3
            rw [← hQ, setRow_size]
            have h6 := hGX.out; have h7 := hG.out; omega
          refine bodyPost_ret (v := .tuple #[.agg #[.slice A6 (n + 1) c6, .int .i64 dr], .slice D 32 dc]) ?_ rfl ?_
          · exact results_cell_tmp Try.results60 rfl (run_loadVar_mid (P := Try.prog) Qz (G + 2) 0 33 _ _ (range_of hQg) Try.underlying33 rfl (by kernel_rfl))
          · refine ⟨_, n + 1, c6, D, dc, rfl, own_cap Lt.out, ?_, ?_, hQb⟩
            · rw [hnt.out]
              refine ⟨Qs ++ [(qb, qo, qc)], by simp [HQ1.out], by simp [hlen.out], hLq, fun j q h' e1 e2 => ?_⟩
              rcases Nat.lt_or_ge j Qs.length with hj | hj
              · rw [List.getElem?_append_left hj] at e1
                rw [List.getElem?_append_left (by rw [hlen.out, ← HQ1.out]; exact hj)] at e2
                exact (HQ4.out j q h' e1 e2).same (fun b hb => hQb.block b (HOK.out b hb)) (fun b hb => Or.inl hb)
              · rw [List.getElem?_append_right hj] at e1
                rw [List.getElem?_append_right (by rw [hlen.out, ← HQ1.out]; exact hj)] at e2
                rcases hz : j - Qs.length with _ | z
                · rw [hz] at e1; rw [hlen.out, ← HQ1.out, hz] at e2
                  simp at e1 e2
                  subst e1 e2
                  exact HO0.out.same (fun b hb => hQb.block b (HOK.out b hb)) (fun b hb => Or.inl hb)
                · rw [hz] at e1; simp at e1
            · rw [hix.out]; exact hOq
      · go_simp
        obtain ⟨U, hU⟩ : ∃ W0, Hid (W0 = X.alloc (.cells #[.int .u8 104, .slice (some ⟨qb, qo, none⟩) 1 qc] 124)) := ⟨_, Lib.hid rfl⟩
        obtain ⟨q5, hq5⟩ : ∃ q, Hid (q = X.heap.size) := ⟨_, Lib.hid rfl⟩
        have PU : Hid (Below X.heap.size X U) := by rw [hU.out]; exact PX.out.alloc PX.out.size _
        have L5 : Hid (Rd U U.heap.size 2 (some ⟨q5, 0, none⟩) 1 (trC (qb, qo, qc))) := by rw [hU.out, hq5.out]; exact (two_cells X 124 (.int .u8 104) (.slice (some ⟨qb, qo, none⟩) 1 qc)).more (by rw [szAlloc]; exact Nat.le_refl _)
        have gU : Below X.heap.size X U := by rw [hU.out]; exact (Below.refl _ _).alloc (Nat.le_refl _) _
        rw [← hU.out, ← hq5.out]
        have SU : U.rangeAt G 0 [.slice A n c, .int .i64 dr] ∧ U.rangeAt (G + 1) 0 [.int .u8 104, .slice (some ⟨qb, qo, none⟩) 1 qc] := ⟨range_keep X0 PU.out (by have := hGX.out; omega), range_keep X1 PU.out (by have := hGX.out; omega)⟩
        refine hK.out _ _ SU ?_
        intro hS
        clear hK K hS
        try simp only [Act.put, List.getElem_toArray, List.getElem_cons_zero, List.getElem_cons_succ, List.setIfInBounds_toArray, List.set_cons_zero, List.set_cons_succ]
        refine wpAnyH_ready (rs := [0]) (by kernel_rfl) (by simp) ?_
        refine AllReadyH.cons rfl (fun K hK => ?_) AllReadyH.nil
        go_simp
        obtain ⟨V1, hV1⟩ : ∃ W0, Hid (W0 = U.alloc (.cells #[] 124)) := ⟨_, Lib.hid rfl⟩
        obtain ⟨q0, hq0⟩ : ∃ q, Hid (q = U.heap.size) := ⟨_, Lib.hid rfl⟩
        have PV1 : Hid (Below X.heap.size X V1) := by rw [hV1.out]; exact PU.out.alloc PU.out.size _
        have L0 : Hid (V1.ownsRow X.heap.size 124 2 (.slice (some ⟨q0, 0, none⟩) 0 0) 0 []) := by rw [hV1.out, hq0.out]; exact own_mono (World.ownsRow_lit U #[] 0 (Nat.le_refl _) (by simp [maxLen]) rfl) PU.out.size
        have gV1 : Below U.heap.size U V1 := by rw [hV1.out]; exact (Below.refl _ _).alloc (Nat.le_refl _) _
        rw [← hV1.out, ← hq0.out]
        replace L5 := Lib.hid (L5.out.to gV1)
        have hq0X : Hid (X.heap.size ≤ q0) := by unfold Hid; rw [hq0.out]; exact PU.out.size
        have hq5c : Hid (q5 < V1.heap.size) := by unfold Hid; have h1 := hq5.out; have h2 : U.heap.size = X.heap.size + 1 := (by rw [hU.out, szAlloc]); have h3 := gV1.size; omega
        have hq05 : Hid (¬ q5 = q0) := by unfold Hid; have h1 := hq5.out; have h2 := hq0.out; have h3 : U.heap.size = X.heap.size + 1 := (by rw [hU.out, szAlloc]); omega
        have SV1 : V1.rangeAt G 0 [.slice A n c, .int .i64 dr] ∧ V1.rangeAt (G + 1) 0 [.int .u8 104, .slice (some ⟨qb, qo, none⟩) 1 qc] := ⟨range_keep X0 PV1.out (by have := hGX.out; omega), range_keep X1 PV1.out (by have := hGX.out; omega)⟩
        refine hK.out _ _ SV1 ?_
        intro hS
        clear hK K hS
        try simp only [Act.put, List.getElem_toArray, List.getElem_cons_zero, List.getElem_cons_succ, List.setIfInBounds_toArray, List.set_cons_zero, List.set_cons_succ]
        refine wpAnyH_ready (rs := [3]) (by kernel_rfl) (by simp) ?_
        refine AllReadyH.cons rfl (fun K hK => ?_) AllReadyH.nil
        have hQc := Lib.hid (HQ3.out.below PV1.out)
        refine step_app (.tmp 27) (.tmp 29) 31 rfl rfl X.heap.size 124 2 32 _ Try.underlying31 infoT rfl (by decide) (.slice (some ⟨q0, 0, none⟩) 0 0) 0 [] rfl L0.out X.heap.size A n c (Qs.flatMap trC) rfl hQc.out (trCs_one Qs) (by simp only [maxLen]; omega) (by omega) PV1.out.size ?_
        intro A3 c3 V2 o3 g3 _
        simp only [Nat.zero_add, List.nil_append] at o3 ⊢
        have L3 := Lib.hid o3
        have G3 := Lib.hid g3
        have PV2 := Lib.hid (PV1.out.trans (⟨g3.os, g3.tape, g3.output, g3.size, fun k hk => g3.block k (Nat.lt_of_lt_of_le hk PV1.out.size) (fun e => by simp [Value.ownBlock] at e; have := hq0X.out; omega)⟩ : Below X.heap.size V1 V2))
        clear o3 g3
        replace L5 := Lib.hid ((L5.out.same (fun b' o' _ e' => G3.out.block b' (by injection e' with e'; injection e' with e1; rw [← e1]; exact hq5c.out) (by simp [Value.ownBlock]; injection e' with e'; injection e' with e1; rw [← e1]; exact hq05.out))).more G3.out.size)
        have SV2 : V2.rangeAt G 0 [.slice A n c, .int .i64 dr] ∧ V2.rangeAt (G + 1) 0 [.int .u8 104, .slice (some ⟨qb, qo, none⟩) 1 qc] := ⟨range_keep X0 PV2.out (by have := hGX.out; omega), range_keep X1 PV2.out (by have := hGX.out; omega)⟩
        refine hK.out _ _ SV2 ?_
        intro hS
        clear hK K hS
        try simp only [Act.put, List.getElem_toArray, List.getElem_cons_zero, List.getElem_cons_succ, List.setIfInBounds_toArray, List.set_cons_zero, List.set_cons_succ]
        refine wpAnyH_ready (rs := [6]) (by kernel_rfl) (by simp) ?_
        refine AllReadyH.cons rfl (fun K hK => ?_) AllReadyH.nil
        refine step_app (.tmp 30) (.tmp 32) 31 rfl rfl X.heap.size 124 2 32 _ Try.underlying31 infoT rfl (by decide) (.slice A3 n c3) n _ rfl L3.out _ (some ⟨q5, 0, none⟩) 1 1 (trC (qb, qo, qc)) rfl L5.out (trC_one _) (by simp only [maxLen]; omega) (by omega) PV2.out.size ?_
        intro A6 c6 V3 o6 g6 _
        have L6 := Lib.hid o6
        have PV3 := Lib.hid (PV2.out.trans (below_grown g6 (own_block_ge2 L3.out) PV2.out.size))
        clear o6 g6
        have SV3 : V3.rangeAt G 0 [.slice A n c, .int .i64 dr] ∧ V3.rangeAt (G + 1) 0 [.int .u8 104, .slice (some ⟨qb, qo, none⟩) 1 qc] := ⟨range_keep X0 PV3.out (by have := hGX.out; omega), range_keep X1 PV3.out (by have := hGX.out; omega)⟩
        refine hK.out _ _ SV3 ?_
        intro hS
        clear hK K hS
        try simp only [Act.put, List.getElem_toArray, List.getElem_cons_zero, List.getElem_cons_succ, List.setIfInBounds_toArray, List.set_cons_zero, List.set_cons_succ]
        have hS : V3.rangeAt G 0 [.slice A n c, .int .i64 dr] ∧ V3.rangeAt (G + 1) 0 [.int .u8 104, .slice (some ⟨qb, qo, none⟩) 1 qc] := SV3
        refine wpAnyH_take (i := 7) (v := ?vh7) rfl (by kernel_rfl) (by kernel_rfl) (by kernel_rfl) (fun _ _ _ h => h) (Or.inl ⟨by rfl, ?hyh7⟩) hS ?resth7
        case hyh7 => (intro w' hSw; go_simp; first | done | with_reducible rfl)
        try simp only [Act.put, List.getElem_toArray, List.getElem_cons_zero, List.getElem_cons_succ, List.setIfInBounds_toArray, List.set_cons_zero, List.set_cons_succ]
        refine wpAnyH_done (by kernel_rfl) (NoPanic.normal ?_) _
        go_wp2_with fail
        obtain ⟨Z, hZ⟩ : ∃ W, Hid (W = V3.drew) := ⟨_, Lib.hid rfl⟩
        have dZ : Below V3.heap.size V3 Z := by rw [hZ.out]; exact below_drew (Below.refl _ _)
        have Z0 := range_keep SV3.1 dZ (by have := hGX.out; have := PV3.out.size; omega)
        have Z1 := range_keep SV3.2 dZ (by have := hGX.out; have := PV3.out.size; omega)
        have BZ := Lib.hid ((BX.out.trans (PV3.out.mono BX.out.size)).trans (dZ.mono (Nat.le_trans BX.out.size PV3.out.size)))
        have hGz : Hid (G + 2 < Z.heap.size) := Nat.lt_of_lt_of_le hGX.out (Nat.le_trans PV3.out.size dZ.size)
        have LZ := Lib.hid (own_to L6.out dZ)
        have SZ : Z.rangeAt G 0 [.slice A n c, .int .i64 dr] ∧ Z.rangeAt (G + 1) 0 [.int .u8 104, .slice (some ⟨qb, qo, none⟩) 1 qc] := ⟨Z0, Z1⟩
        have hw1 : IntKind.i64.wrap (((n + 1 : Nat) : Int)) = ((n + 1 : Nat) : Int) := IntWalk.i64_in _ (by omega)
        refine wp_region_noPanic ?_
        refine wp_region_held_drew (S := fun w' => w'.rangeAt G 0 [.slice A n c, .int .i64 dr] ∧ w'.rangeAt (G + 1) 0 [.int .u8 104, .slice (some ⟨qb, qo, none⟩) 1 qc]) (by kernel_rfl) (by rw [← hZ.out]; exact SZ) (fun hS => ?_)
        rw [← hZ.out]
        clear hS
        have hS : Z.rangeAt G 0 [.slice A n c, .int .i64 dr] ∧ Z.rangeAt (G + 1) 0 [.int .u8 104, .slice (some ⟨qb, qo, none⟩) 1 qc] := SZ
        refine wpAnyH_take (i := 0) (v := ?vi0) rfl (by kernel_rfl) (by kernel_rfl) (by kernel_rfl) (fun _ _ _ h => h) (Or.inl ⟨by rfl, ?hyi0⟩) hS ?resti0
        case hyi0 => (intro w' hSw; go_simp; first | done | with_reducible rfl)
        try simp only [Act.put, List.getElem_toArray, List.getElem_cons_zero, List.getElem_cons_succ, List.setIfInBounds_toArray, List.set_cons_zero, List.set_cons_succ]
        refine wpAnyH_take (i := 1) (v := ?vi1) rfl (by kernel_rfl) (by kernel_rfl) (by kernel_rfl) (fun _ _ _ h => h) (Or.inl ⟨by rfl, ?hyi1⟩) hS ?resti1
        case hyi1 => (intro w' hSw; go_simp; first | done | with_reducible rfl)
        try simp only [Act.put, List.getElem_toArray, List.getElem_cons_zero, List.getElem_cons_succ, List.setIfInBounds_toArray, List.set_cons_zero, List.set_cons_succ]
        refine wpAnyH_take (i := 2) (v := .int .i64 dr) rfl (by kernel_rfl) (by kernel_rfl) (by kernel_rfl) (fun _ _ _ h => h) (Or.inl ⟨by rfl, ?hyi2⟩) hS ?resti2
        case hyi2 => (intro w' hSw; have c0 := hSw.1 1 _ rfl; go_simp; first | done | with_reducible rfl)
        try simp only [Act.put, List.getElem_toArray, List.getElem_cons_zero, List.getElem_cons_succ, List.setIfInBounds_toArray, List.set_cons_zero, List.set_cons_succ]
        refine wpAnyH_take (i := 3) (v := .agg #[.slice A6 (n + 1) c6, .int .i64 dr]) rfl (by kernel_rfl) (by kernel_rfl) (by kernel_rfl) (fun _ _ _ h => h) (Or.inl ⟨by rfl, ?hyi3⟩) hS ?resti3
        case hyi3 => (intro w' hSw; go_simp; first | done | with_reducible rfl)
        try simp only [Act.put, List.getElem_toArray, List.getElem_cons_zero, List.getElem_cons_succ, List.setIfInBounds_toArray, List.set_cons_zero, List.set_cons_succ]
        refine wpAnyH_take (i := 4) (v := .agg #[.int .u8 104, .slice (some ⟨qb, qo, none⟩) 1 qc]) rfl (by kernel_rfl) (by kernel_rfl) (by kernel_rfl) (fun _ _ _ h => h) (Or.inl ⟨by rfl, ?hyi4⟩) hS ?resti4
        case hyi4 => (intro w' hSw; have c0 := hSw.2 0 _ rfl; have c1 := hSw.2 1 _ rfl; go_simp; first | done | with_reducible rfl)
        try simp only [Act.put, List.getElem_toArray, List.getElem_cons_zero, List.getElem_cons_succ, List.setIfInBounds_toArray, List.set_cons_zero, List.set_cons_succ]
        refine wpAnyH_take (i := 5) (v := ?vi5) rfl (by kernel_rfl) (by kernel_rfl) (by kernel_rfl) (fun _ _ _ h => h) (Or.inl ⟨by rfl, ?hyi5⟩) hS ?resti5
        case hyi5 => (intro w' hSw; go_simp; first | done | with_reducible rfl)
        try simp only [Act.put, List.getElem_toArray, List.getElem_cons_zero, List.getElem_cons_succ, List.setIfInBounds_toArray, List.set_cons_zero, List.set_cons_succ]
        refine wpAnyH_take (i := 6) (v := .int .i64 ((n + 1 : Nat) : Int)) rfl (by kernel_rfl) (by kernel_rfl) (by kernel_rfl) (fun _ _ _ h => h) (Or.inl ⟨by rfl, ?hyi6⟩) hS ?resti6
        case hyi6 => (intro w' hSw; go_simp; first | done | with_reducible rfl)
        try simp only [Act.put, List.getElem_toArray, List.getElem_cons_zero, List.getElem_cons_succ, List.setIfInBounds_toArray, List.set_cons_zero, List.set_cons_succ]
        refine wpAnyH_ready (rs := [7]) (by kernel_rfl) (by simp) ?_
        refine AllReadyH.cons rfl (fun K hK => ?_) AllReadyH.nil
        go_simp
        refine (refCalled_ (some ⟨qb, qo, none⟩) 1 qc (n + 1) Z (by omega)).mono ?_
        rintro e t ⟨D, dc, rfl, o5, b5⟩
        have S1 : t.rangeAt G 0 [.slice A n c, .int .i64 dr] ∧ t.rangeAt (G + 1) 0 [.int .u8 104, .slice (some ⟨qb, qo, none⟩) 1 qc] := ⟨range_keep Z0 b5 (by have := hGz.out; omega), range_keep Z1 b5 (by have := hGz.out; omega)⟩
        have Bt := Lib.hid (BZ.out.trans (b5.mono BZ.out.size))
        have O5 := Lib.hid o5
        have Lt := Lib.hid (own_to LZ.out b5)
        have hGt : Hid (t.heap[G + 2]? = some (.cells #[.slice none 0 0, .int .i64 0] 33 (0, 0))) := (Bt.out.block (G + 2) hGs.out).trans R2.out
        clear o5 b5
        go_wp2_with fail
        refine hK.out _ _ S1 ?_
        intro hS
        clear hK K hS
        try simp only [Act.put, List.getElem_toArray, List.getElem_cons_zero, List.getElem_cons_succ, List.setIfInBounds_toArray, List.set_cons_zero, List.set_cons_succ]
        have hS := S1
        refine wpAnyH_ready (rs := [8]) (by kernel_rfl) (by simp) ?_
        refine AllReadyH.cons rfl (fun K hK => ?_) AllReadyH.nil
        refine step_store_row 33 (.tmp 4) (.tmp 37) rfl rfl (G + 2) #[.slice A6 (n + 1) c6, .int .i64 dr] rfl rfl _ _ hGt.out (by kernel_rfl) rfl (by kernel_rfl) ?_
        have S2 : (t.setRow (G + 2) #[.slice A6 (n + 1) c6, .int .i64 dr]).rangeAt G 0 [.slice A n c, .int .i64 dr] ∧ (t.setRow (G + 2) #[.slice A6 (n + 1) c6, .int .i64 dr]).rangeAt (G + 1) 0 [.int .u8 104, .slice (some ⟨qb, qo, none⟩) 1 qc] := ⟨range_row _ S1.1 (by omega), range_row _ S1.2 (by omega)⟩
        refine hK.out _ _ S2 ?_
        intro hS
        clear hK K hS
        try simp only [Act.put, List.getElem_toArray, List.getElem_cons_zero, List.getElem_cons_succ, List.setIfInBounds_toArray, List.set_cons_zero, List.set_cons_succ]
        have hS := S2
        refine wpAnyH_take (i := 9) (v := ?vi9) rfl (by kernel_rfl) (by kernel_rfl) (by kernel_rfl) (fun _ _ _ h => h) (Or.inl ⟨by rfl, ?hyi9⟩) hS ?resti9
        case hyi9 => (intro w' hSw; go_simp; first | done | with_reducible rfl)
        try simp only [Act.put, List.getElem_toArray, List.getElem_cons_zero, List.getElem_cons_succ, List.setIfInBounds_toArray, List.set_cons_zero, List.set_cons_succ]
        refine wpAnyH_done (by kernel_rfl) (NoPanic.normal ?_) _
        go_wp2_with fail
        generalize hQ : World.setRow _ _ _ = Qz
        have hQg : Qz.heap[G + 2]? = some (.cells #[.slice A6 (n + 1) c6, .int .i64 dr] 33 (0, 0)) := by rw [← hQ]; exact setRow_heap _ _ _ _ _ _ hGt.out
        have hQb : Below w.heap.size w Qz := by rw [← hQ]; exact below_setRow (BW.out.trans (Bt.out.mono BW.out.size)) (by have := hG.out; omega) _
        have hOq : OwnS Qz w.heap.size D 32 dc ((hname (n + 1)).map B8) := by
          rw [← hQ]
          refine (O5.out.same fun b' o' e' _ => setRow_other _ _ _ _ ?_).mono (Nat.le_trans BW.out.size BZ.out.size)
          obtain ⟨b2, o2, e2, hb2, _⟩ := O5.out.mem (by have := O5.out.le; omega)
          rw [e'] at e2; injection e2 with e2; injection e2 with e3
          have := hGz.out; omega
        have hLq : RdP Qz (fun b => ok b ∨ w.heap.size ≤ b ∧ b < Qz.heap.size) 2 A6 (n + 1) ((Qs ++ [(qb, qo, qc)]).flatMap trC) := by
          have h1 := Rd.of_own Lt.out
          rw [List.flatMap_append, show [(qb, qo, qc)].flatMap trC = trC (qb, qo, qc) from rfl]
          obtain ⟨g', e2, h3, h4⟩ := own_addr Lt.out (by omega)
          have h5 := h1.same (w' := Qz) (fun b' o' h0 e' => by rw [← hQ]; refine setRow_other _ _ _ _ ?_; rw [e'] at e2; injection e2 with e2; injection e2 with e3; have := hGX.out; omega)
          refine ⟨h5.1, fun h0 => ?_⟩
          obtain ⟨b', o', e', _, hc⟩ := h5.2 h0
          refine ⟨b', o', e', Or.inr ?_, hc⟩
          rw [e'] at e2; injection e2 with e2; injection e2 with e3
          rw [← hQ, setRow_size]
          have h6 := hGX.out; have h7 := hG.out; omega
        refine bodyPost_ret (v := .tuple #[.agg #[.slice A6 (n + 1) c6, .int .i64 dr], .slice D 32 dc]) ?_ rfl ?_
        · exact results_cell_tmp Try.results60 rfl (run_loadVar_mid (P := Try.prog) Qz (G + 2) 0 33 _ _ (range_of hQg) Try.underlying33 rfl (by kernel_rfl))
        · refine ⟨_, n + 1, c6, D, dc, rfl, own_cap Lt.out, ?_, ?_, hQb⟩
          · rw [hnt.out]
            refine ⟨Qs ++ [(qb, qo, qc)], by simp [HQ1.out], by simp [hlen.out], hLq, fun j q h' e1 e2 => ?_⟩
            rcases Nat.lt_or_ge j Qs.length with hj | hj
            · rw [List.getElem?_append_left hj] at e1
              rw [List.getElem?_append_left (by rw [hlen.out, ← HQ1.out]; exact hj)] at e2
              exact (HQ4.out j q h' e1 e2).same (fun b hb => hQb.block b (HOK.out b hb)) (fun b hb => Or.inl hb)
            · rw [List.getElem?_append_right hj] at e1
              rw [List.getElem?_append_right (by rw [hlen.out, ← HQ1.out]; exact hj)] at e2
              rcases hz : j - Qs.length with _ | z
              · rw [hz] at e1; rw [hlen.out, ← HQ1.out, hz] at e2
                simp at e1 e2
                subst e1 e2
                exact HO0.out.same (fun b hb => hQb.block b (HOK.out b hb)) (fun b hb => Or.inl hb)
              · rw [hz] at e1; simp at e1
          · rw [hix.out]; exact hOq
end Go.Proofs.Ytabcbpcfleociaa
