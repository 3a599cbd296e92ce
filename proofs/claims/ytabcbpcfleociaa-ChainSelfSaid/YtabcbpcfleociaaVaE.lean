/- The document's vault, clear of some blocks: its Hash. -/
import Derived.Test.YtabcbpcfleociaaVaD
import Derived.Test.YtabcbpcfleociaaMap
import Derived.Test.YtabcbpcfleociaaChK
namespace Go.Proofs.Ytabcbpcfleociaa
open Go.RowKit
attribute [local go_sem ↓] Go.wp_at_zero Go.wp_at_succ
set_option linter.unusedSimpArgs false
set_option linter.unusedVariables false
/-- A slice of one text, in none of the blocks 'no'. -/
def OneN (no : List Nat) (w : World) (qb qo : Nat) (h : List UInt8) : Prop := qb ∉ no ∧ ∃ Ai ci, w.cell? ⟨qb, qo, none⟩ = some (.slice Ai h.length ci) ∧ RdN no w 1 Ai h.length (h.map B8)
/-- A vault's terms, in none of the blocks 'no'. -/
def VtN (no : List Nat) (w : World) (A : Option Addr) (n : Nat) (hs : List (List UInt8)) : Prop := ∃ Qs : List (Nat × Nat × Nat), Qs.length = n ∧ hs.length = n ∧ RdN no w 2 A n (Qs.flatMap trC) ∧ ∀ (i : Nat) (q : Nat × Nat × Nat) (h : List UInt8), Qs[i]? = some q → hs[i]? = some h → OneN no w q.1 q.2.1 h
theorem OneN.fr {no no' own own' : List Nat} {w w' : World} {qb qo : Nat} {h : List UInt8} (H : OneN no w qb qo h) (hf : Fr own w w' own') (hs : ∀ k, k ∈ own → k ∈ no) (h2 : ∀ k, k ∈ no' → k ∈ no ∨ w.heap.size ≤ k) : OneN no' w' qb qo h := by
  obtain ⟨h1, A, c, hc, hr⟩ := H
  have hl : qb < w.heap.size := World.block_lt_of_cell? _ _ hc
  refine ⟨fun hm => ?_, A, c, (World.cell?_of_block (a := ⟨qb, qo, none⟩) (hf.block qb hl (fun hm => h1 (hs qb hm)))).trans hc, hr.fr hf hs h2⟩
  rcases h2 qb hm with h3 | h3
  · exact h1 h3
  · omega
theorem VtN.fr {no no' own own' : List Nat} {w w' : World} {n : Nat} {A : Option Addr} {hs : List (List UInt8)} (H : VtN no w A n hs) (hf : Fr own w w' own') (h1 : ∀ k, k ∈ own → k ∈ no) (h2 : ∀ k, k ∈ no' → k ∈ no ∨ w.heap.size ≤ k) : VtN no' w' A n hs := by
  obtain ⟨Qs, e1, e2, e3, e4⟩ := H
  exact ⟨Qs, e1, e2, e3.fr hf h1 h2, fun i q h hq hh => (e4 i q h hq hh).fr hf h1 h2⟩
theorem VtN.below {no : List Nat} {w w' : World} {n : Nat} {A : Option Addr} {hs : List (List UInt8)} (H : VtN no w A n hs) (hb : Below w.heap.size w w') : VtN no w' A n hs :=
  H.fr (own := []) (Fr.below hb) (fun _ h => absurd h (by simp)) (fun _ h => Or.inl h)
theorem VtN.nil (no : List Nat) (w : World) (A : Option Addr) : VtN no w A 0 [] := ⟨[], rfl, rfl, RdN.nil _ _ _, fun i q h hi => by simp at hi⟩
theorem RdN.p {no : List Nat} {w : World} {size n : Nat} {A : Option Addr} {xs : List Value} (h : RdN no w size A n xs) : RdP w (fun b => b ∉ no ∧ b < w.heap.size) size A n xs :=
  ⟨h.1.1, fun h0 => by obtain ⟨b, o, e, hb, hc⟩ := h.1.2 h0; exact ⟨b, o, e, ⟨h.2 b o h0 e, hb⟩, hc⟩⟩
theorem RdP.n {ok : Nat → Prop} {no : List Nat} {w : World} {size n : Nat} {A : Option Addr} {xs : List Value} (h : RdP w ok size A n xs) (h1 : ∀ b, ok b → b ∉ no ∧ b < w.heap.size) : RdN no w size A n xs :=
  ⟨⟨h.1, fun h0 => by obtain ⟨b, o, e, hb, hc⟩ := h.2 h0; exact ⟨b, o, e, (h1 b hb).2, hc⟩⟩, fun b o h0 e => by obtain ⟨b', o', e', hb, _⟩ := h.2 h0; rw [e] at e'; injection e' with e'; injection e' with e1; subst e1; exact (h1 _ hb).1⟩
theorem VtN.p {no : List Nat} {w : World} {n : Nat} {A : Option Addr} {hs : List (List UInt8)} (H : VtN no w A n hs) : VtP w (fun b => b ∉ no ∧ b < w.heap.size) A n hs := by
  obtain ⟨Qs, e1, e2, e3, e4⟩ := H
  refine ⟨Qs, e1, e2, e3.p, fun i q h hq hh => ?_⟩
  obtain ⟨h1, A', c, hc, hr⟩ := e4 i q h hq hh
  exact ⟨⟨h1, World.block_lt_of_cell? _ _ hc⟩, A', c, hc, hr.p⟩
theorem VtP.n {ok : Nat → Prop} {no : List Nat} {w : World} {n : Nat} {A : Option Addr} {hs : List (List UInt8)} (H : VtP w ok A n hs) (h1 : ∀ b, ok b → b ∉ no ∧ b < w.heap.size) : VtN no w A n hs := by
  obtain ⟨Qs, e1, e2, e3, e4⟩ := H
  refine ⟨Qs, e1, e2, e3.n h1, fun i q h hq hh => ?_⟩
  obtain ⟨h2, A', c, hc, hr⟩ := e4 i q h hq hh
  exact ⟨(h1 _ h2).1, A', c, hc, hr.n h1⟩
set_option maxRecDepth 4000 in
set_option maxHeartbeats 1000000 in
theorem refHashN_ (A : Option Addr) (n c : Nat) (dr : Int) (B : Option Addr) (m d : Nat) (hs : List (List UInt8)) (h : List UInt8) (no : List Nat) (w : World) (hv : VtN no w A n hs) (hr : RdN no w 1 B m (h.map B8)) (hn : n ≤ 1000000) (hnc : n ≤ c) (hno : ∀ k, k ∈ no → k < w.heap.size) :
    Calls Try.prog 29 #[.agg #[.slice A n c, .int .i64 dr], .slice B m d] w fun e w' => ∃ A' n' c' D dc, e = .returned (.tuple #[.agg #[.slice A' n' c', .int .i64 dr], .slice D 32 dc]) ∧ n' ≤ c' ∧ VtN no w' A' n' (note hs h) ∧ OwnS w' w.heap.size D 32 dc ((hname (hs.idxOf h + 1)).map B8) ∧ Below w.heap.size w w' := by
  have hm : h.length = m := by simpa using hr.1.len
  obtain ⟨W, hW⟩ : ∃ W, Hid (W = ((w.alloc (.cells #[.slice A n c, .int .i64 dr] 33)).alloc (.cells #[.slice none 0 0, .int .i64 0] 33)).alloc (.cells #[.slice B m d] 38)) := ⟨_, Lib.hid rfl⟩
  obtain ⟨G, hG⟩ : ∃ g, Hid (g = w.heap.size) := ⟨_, Lib.hid rfl⟩
  have hs1 : (w.alloc (.cells #[.slice A n c, .int .i64 dr] 33)).heap.size = w.heap.size + 1 := szAlloc _ _
  have hs2 : ((w.alloc (.cells #[.slice A n c, .int .i64 dr] 33)).alloc (.cells #[.slice none 0 0, .int .i64 0] 33)).heap.size = w.heap.size + 2 := by rw [szAlloc, hs1]
  have BW : Hid (Below w.heap.size w W) := by rw [hW.out]; exact (((Below.refl _ _).alloc (Nat.le_refl _) _).alloc (by rw [hs1]; omega) _).alloc (by rw [hs2]; omega) _
  have R1 : Hid (W.heap[G + 1]? = some (.cells #[.slice none 0 0, .int .i64 0] 33 (0, 0))) := by
    unfold Hid
    rw [hW.out, hG.out, heap_alloc_old _ _ (by rw [hs2]; omega), ← hs1]
    exact heap_alloc_new _ _
  have hGs : Hid (G + 1 < W.heap.size) := lt_of_blk R1.out
  have hWs : Hid (W.heap.size = G + 3) := by unfold Hid; rw [hW.out, szAlloc, hs2, hG.out]
  have hnoG : Hid (∀ k, k ∈ no → k < G) := by rw [hG.out]; exact hno
  have HV : Hid (VtP W (fun b => (b ∉ no ∧ b < G) ∨ b = G + 2) A n hs) := hv.p.same (fun b hb => BW.out.block b hb.2) (fun b hb => Or.inl ⟨hb.1, by rw [hG.out]; exact hb.2⟩)
  have HO : Hid (OneP W (fun b => (b ∉ no ∧ b < G) ∨ b = G + 2) (G + 2) 0 h) := by
    refine ⟨Or.inr rfl, B, d, ?_, ?_⟩
    · rw [hW.out, hG.out, ← hs2, hm]; exact cell_blk (heap_alloc_new _ _) 0 rfl
    · rw [hm]; exact hr.p.same (fun b hb => BW.out.block b hb.2) (fun b hb => Or.inl ⟨hb.1, by rw [hG.out]; exact hb.2⟩)
  clear hv hr hs1 hs2 hno
  go_enter Try.func29, Try.ntmps29
  go_wp2_with fail
  rw [← hW.out, ← hG.out]
  refine (refName_ A n c dr (G + 2) 0 1 hs h W (fun b => (b ∉ no ∧ b < G) ∨ b = G + 2) (fun b hb => by have := hWs.out; omega) HV.out HO.out hn hnc).mono ?_
  rintro e t ⟨A', n', c', D, dc, rfl, q1, q2, q3, q4⟩
  have Q1 := Lib.hid q1
  have Q2 := Lib.hid q2
  have Q3 := Lib.hid q3
  have Bt := Lib.hid q4
  have Rt : Hid (t.heap[G + 1]? = some (.cells #[.slice none 0 0, .int .i64 0] 33 (0, 0))) := (q4.block (G + 1) hGs.out).trans R1.out
  clear q1 q2 q3 q4
  go_wp2_with (refine wpList_store_row rfl 33 (.tmp 4) (.tmp 11) rfl (G + 1) #[.slice A' n' c', .int .i64 dr] rfl rfl _ _ Rt.out (by kernel_rfl) rfl (by kernel_rfl) ?_)
  generalize hQ : World.setRow _ _ _ = Qz
  have hQg : Qz.heap[G + 1]? = some (.cells #[.slice A' n' c', .int .i64 dr] 33 (0, 0)) := by rw [← hQ]; exact setRow_heap _ _ _ _ _ _ Rt.out
  have hQb : Below w.heap.size w Qz := by rw [← hQ]; exact below_setRow (BW.out.trans (Bt.out.mono BW.out.size)) (by have := hG.out; omega) _
  go_wp2_with fail
  refine bodyPost_ret (v := .tuple #[.agg #[.slice A' n' c', .int .i64 dr], .slice D 32 dc]) ?_ rfl ?_
  · exact results_cell_tmp Try.results29 rfl (run_loadVar_mid (P := Try.prog) Qz (G + 1) 0 33 _ _ (range_of hQg) Try.underlying33 rfl (by kernel_rfl))
  · refine ⟨A', n', c', D, dc, rfl, Q1.out, ?_, ?_, hQb⟩
    · refine (Q2.out.same (w' := Qz) (ok' := fun b => b ∉ no ∧ b < Qz.heap.size) (fun b hb => ?_) (fun b hb => ?_)).n (fun b hb => hb)
      · rw [← hQ]; exact setRow_other _ _ _ _ (by have := hWs.out; omega)
      · rw [← hQ, setRow_size]
        have h1 := hWs.out
        have h2 := Bt.out.size
        refine ⟨fun hm => ?_, by omega⟩
        have h3 := hnoG.out b hm
        rcases hb with (⟨h4, _⟩ | h4) | h4
        · exact h4 hm
        · omega
        · omega
    · rw [← hQ]
      refine (Q3.out.same fun b' o' e' _ => setRow_other _ _ _ _ ?_).mono BW.out.size
      obtain ⟨b2, o2, e2, hb2, _⟩ := Q3.out.mem (by have := Q3.out.le; omega)
      rw [e'] at e2; injection e2 with e2; injection e2 with e3
      have := hGs.out; omega
/-- A known link of the document's, as a row's four cells. -/
structure Rk where
  au : Int
  dA : Option Addr
  dn : Nat
  dc : Nat
  bA : Option Addr
  bn : Nat
  bc : Nat
  ep : Int
def rkC (q : Rk) : List Value := [.int .i64 q.au, .slice q.dA q.dn q.dc, .slice q.bA q.bn q.bc, .int .i64 q.ep]
/-- One of them reads as x. -/
structure RkX (no : List Nat) (w : World) (q : Rk) (x : Int × Kn) : Prop where
  au : q.au = x.1
  ep : q.ep = x.2.ep
  dg : RdN no w 1 q.dA q.dn (x.2.dg.map B8)
  dl : q.dn ≤ q.dc
  bd : RdN no w 1 q.bA q.bn (x.2.bd.map B8)
  bl : q.bn ≤ q.bc
/-- The document's links, in none of the blocks 'no'. -/
def RkN (no : List Nat) (w : World) (A : Option Addr) (n : Nat) (S : Bk) : Prop := ∃ Qs : List Rk, Qs.length = n ∧ S.length = n ∧ RdN no w 4 A n (Qs.flatMap rkC) ∧ ∀ (i : Nat) (q : Rk) (x : Int × Kn), Qs[i]? = some q → S[i]? = some x → RkX no w q x
theorem RkX.fr {no no' own own' : List Nat} {w w' : World} {q : Rk} {x : Int × Kn} (H : RkX no w q x) (hf : Fr own w w' own') (hs : ∀ k, k ∈ own → k ∈ no) (h2 : ∀ k, k ∈ no' → k ∈ no ∨ w.heap.size ≤ k) : RkX no' w' q x :=
  ⟨H.au, H.ep, H.dg.fr hf hs h2, H.dl, H.bd.fr hf hs h2, H.bl⟩
theorem RkN.fr {no no' own own' : List Nat} {w w' : World} {n : Nat} {A : Option Addr} {S : Bk} (H : RkN no w A n S) (hf : Fr own w w' own') (h1 : ∀ k, k ∈ own → k ∈ no) (h2 : ∀ k, k ∈ no' → k ∈ no ∨ w.heap.size ≤ k) : RkN no' w' A n S := by
  obtain ⟨Qs, e1, e2, e3, e4⟩ := H
  exact ⟨Qs, e1, e2, e3.fr hf h1 h2, fun i q x hq hx => (e4 i q x hq hx).fr hf h1 h2⟩
theorem RkN.below {no : List Nat} {w w' : World} {n : Nat} {A : Option Addr} {S : Bk} (H : RkN no w A n S) (hb : Below w.heap.size w w') : RkN no w' A n S :=
  H.fr (own := []) (Fr.below hb) (fun _ h => absurd h (by simp)) (fun _ h => Or.inl h)
theorem RkN.nil (no : List Nat) (w : World) (A : Option Addr) : RkN no w A 0 [] := ⟨[], rfl, rfl, RdN.nil _ _ _, fun i q x hi => by simp at hi⟩
theorem RkN.len {no : List Nat} {w : World} {n : Nat} {A : Option Addr} {S : Bk} (H : RkN no w A n S) : S.length = n := by obtain ⟨_, _, h, _⟩ := H; exact h
theorem RkN.at_ {no : List Nat} {w : World} {n : Nat} {A : Option Addr} {S : Bk} (H : RkN no w A n S) {i : Nat} {x : Int × Kn} (hx : S[i]? = some x) :
    ∃ b o q, A = some ⟨b, o, none⟩ ∧ b < w.heap.size ∧ b ∉ no ∧ w.rangeAt b (o + i * 4) (rkC q) ∧ RkX no w q x := by
  obtain ⟨Qs, h1, h2, h3, h4⟩ := H
  have hil : i < Qs.length := by
    rcases Nat.lt_or_ge i S.length with h | h
    · omega
    · rw [List.getElem?_eq_none h] at hx; cases hx
  obtain ⟨b, o, e, hb, hr⟩ := h3.1.elem (fun _ _ => rfl) h1 (List.getElem?_eq_getElem hil)
  exact ⟨b, o, _, e, hb, h3.2 b o (by omega) e, hr, h4 i _ x (List.getElem?_eq_getElem hil) hx⟩
theorem RkN.snoc {no : List Nat} {w : World} {n : Nat} {A A' : Option Addr} {S : Bk} (Qs : List Rk) (h1 : Qs.length = n) (h2 : S.length = n) (h4 : ∀ (i : Nat) (q : Rk) (x : Int × Kn), Qs[i]? = some q → S[i]? = some x → RkX no w q x) {q : Rk} {x : Int × Kn} (hq : RkX no w q x) (hr : RdN no w 4 A' (n + 1) (Qs.flatMap rkC ++ rkC q)) : RkN no w A' (n + 1) (S ++ [x]) := by
  refine ⟨Qs ++ [q], by simp [h1], by simp [h2], by rw [List.flatMap_append, show [q].flatMap rkC = rkC q by simp]; exact hr, fun i q' x' e1 e2 => ?_⟩
  rcases Nat.lt_or_ge i Qs.length with h | h
  · rw [List.getElem?_append_left h] at e1
    rw [List.getElem?_append_left (by omega)] at e2
    exact h4 i q' x' e1 e2
  · rw [List.getElem?_append_right h] at e1
    rw [List.getElem?_append_right (by omega)] at e2
    rcases hz : i - Qs.length with _ | z
    · rw [hz] at e1
      rw [h2, ← h1, hz] at e2
      simp at e1 e2
      subst e1 e2
      exact hq
    · rw [hz] at e1
      simp at e1
/-- An author's links, with the author. -/
def selA (S : Bk) (a : Int) : Bk := S.filter fun x => x.1 == a
theorem selA_of (S : Bk) (a : Int) : ofA S a = (selA S a).map (·.2) := rfl
theorem selA_len (S : Bk) (a : Int) : (selA S a).length = (ofA S a).length := by rw [selA_of, List.length_map]
theorem selA_le (S : Bk) (a : Int) : (selA S a).length ≤ S.length := List.length_filter_le _ _
end Go.Proofs.Ytabcbpcfleociaa
