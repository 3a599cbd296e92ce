/- The document's Get: the links read, then hashed one by one. -/
import Derived.Test.YtabcbpcfleociaaMRra
import Derived.Test.YtabcbpcfleociaaMGet
import Derived.Test.YtabcbpcfleociaaMRba
import Derived.Test.YtabcbpcfleociaaMPla
import Derived.Test.YtabcbpcfleociaaMPv
namespace Go.Proofs.Ytabcbpcfleociaa
open Go.RowKit
attribute [local go_sem ↓] Go.wp_at_zero Go.wp_at_succ
set_option linter.unusedSimpArgs false
set_option linter.unusedVariables false
/-- A link's cells read as x; its body lies where the input lay, and is read in the world w0. -/
structure LqT (w0 : World) (q : Lq) (x : Ln) : Prop where
  au : q.au = x.au
  sq : q.sq = x.sq
  ep : q.ep = x.ep
  bd : Rd w0 w0.heap.size 1 q.D q.m (x.bd.map B8)
  le : q.m ≤ q.c
/-- A slice of one's own of links. -/
structure OwnT (w0 : World) (base : Nat) (w : World) (A : Option Addr) (m c : Nat) (Hs : List Ln) (Qs : List Lq) : Prop where
  ql : Qs.length = m
  hl : Hs.length = m
  row : w.ownsRow base 40 5 (.slice A m c) m (Qs.flatMap lqC)
  el : ∀ (j : Nat) (q : Lq) (x : Ln), Qs[j]? = some q → Hs[j]? = some x → LqT w0 q x
theorem OwnT.nil (w0 : World) (base : Nat) (w : World) : OwnT w0 base w none 0 0 [] [] := ⟨rfl, rfl, World.ownsRow_nil _ _ _ _, fun j q x h => by simp at h⟩
theorem OwnT.fr {w0 w w' : World} {base m c : Nat} {A : Option Addr} {Hs : List Ln} {Qs : List Lq} {own own' : List Nat} (h : OwnT w0 base w A m c Hs Qs) (hf : Fr own w w' own') (hb : ∀ k, k ∈ own → k < base) : OwnT w0 base w' A m c Hs Qs :=
  ⟨h.ql, h.hl, own_fr h.row hf hb, h.el⟩
theorem OwnT.to {w0 w w' : World} {base m c : Nat} {A : Option Addr} {Hs : List Ln} {Qs : List Lq} (h : OwnT w0 base w A m c Hs Qs) (hb : Below w.heap.size w w') : OwnT w0 base w' A m c Hs Qs := ⟨h.ql, h.hl, own_to h.row hb, h.el⟩
theorem OwnT.snoc {w0 w' : World} {base m c c' : Nat} {A A' : Option Addr} {w : World} {Hs : List Ln} {Qs : List Lq} (h : OwnT w0 base w A m c Hs Qs) {q : Lq} {x : Ln} (hq : LqT w0 q x) (o : w'.ownsRow base 40 5 (.slice A' (m + 1) c') (m + 1) (Qs.flatMap lqC ++ lqC q)) : OwnT w0 base w' A' (m + 1) c' (Hs ++ [x]) (Qs ++ [q]) := by
  refine ⟨by simp [h.ql], by simp [h.hl], by rw [List.flatMap_append, show [q].flatMap lqC = lqC q by simp]; exact o, fun j q' x' f1 f2 => ?_⟩
  rcases Nat.lt_or_ge j m with hj | hj
  · rw [List.getElem?_append_left (by rw [h.ql]; exact hj)] at f1
    rw [List.getElem?_append_left (by rw [h.hl]; exact hj)] at f2
    exact h.el j q' x' f1 f2
  · rw [List.getElem?_append_right (by rw [h.ql]; exact hj)] at f1
    rw [List.getElem?_append_right (by rw [h.hl]; exact hj)] at f2
    rcases hz : j - m with _ | z
    · rw [h.ql, hz] at f1
      rw [h.hl, hz] at f2
      simp at f1 f2
      subst f1 f2
      exact hq
    · rw [h.ql, hz] at f1
      simp at f1
theorem al_old (w : World) (o : Obj) {k : Nat} (h : k < w.heap.size) : (w.alloc o).heap[k]? = w.heap[k]? := ((Below.refl _ _).alloc (Nat.le_refl _) o).block k h
theorem five (w : World) (X0 X1 X2 X3 X4 : Obj) : Below w.heap.size w (((((w.alloc X0).alloc X1).alloc X2).alloc X3).alloc X4) ∧ (((((w.alloc X0).alloc X1).alloc X2).alloc X3).alloc X4).heap.size = w.heap.size + 5 ∧
    (((((w.alloc X0).alloc X1).alloc X2).alloc X3).alloc X4).heap[w.heap.size]? = some X0 ∧ (((((w.alloc X0).alloc X1).alloc X2).alloc X3).alloc X4).heap[w.heap.size + 1]? = some X1 ∧ (((((w.alloc X0).alloc X1).alloc X2).alloc X3).alloc X4).heap[w.heap.size + 2]? = some X2 ∧ (((((w.alloc X0).alloc X1).alloc X2).alloc X3).alloc X4).heap[w.heap.size + 3]? = some X3 ∧ (((((w.alloc X0).alloc X1).alloc X2).alloc X3).alloc X4).heap[w.heap.size + 4]? = some X4 := by
  have s1 := szAlloc w X0
  have s2 := szAlloc (w.alloc X0) X1
  have s3 := szAlloc ((w.alloc X0).alloc X1) X2
  have s4 := szAlloc (((w.alloc X0).alloc X1).alloc X2) X3
  have s5 := szAlloc ((((w.alloc X0).alloc X1).alloc X2).alloc X3) X4
  refine ⟨((((Below.refl _ _).alloc (Nat.le_refl _) _).alloc (by omega) _).alloc (by omega) _ |>.alloc (by omega) _).alloc (by omega) _, by omega, ?_, ?_, ?_, ?_, ?_⟩
  · rw [al_old _ _ (by omega), al_old _ _ (by omega), al_old _ _ (by omega), al_old _ _ (by omega)]; exact heap_alloc_new _ _
  · rw [al_old _ _ (by omega), al_old _ _ (by omega), al_old _ _ (by omega), show w.heap.size + 1 = (w.alloc X0).heap.size by omega]; exact heap_alloc_new _ _
  · rw [al_old _ _ (by omega), al_old _ _ (by omega), show w.heap.size + 2 = ((w.alloc X0).alloc X1).heap.size by omega]; exact heap_alloc_new _ _
  · rw [al_old _ _ (by omega), show w.heap.size + 3 = (((w.alloc X0).alloc X1).alloc X2).heap.size by omega]; exact heap_alloc_new _ _
  · rw [show w.heap.size + 4 = ((((w.alloc X0).alloc X1).alloc X2).alloc X3).heap.size by omega]; exact heap_alloc_new _ _
theorem Fr.two {w u Y : World} {a b : Nat} (h : Fr [a] w u [a]) (h' : Fr [a, b] u Y [a, b]) (hb : w.heap.size ≤ b) : Fr [a] w Y [a] :=
  ⟨h'.os.trans h.os, h'.tape.trans h.tape, h'.output.trans h.output, Nat.le_trans h.size h'.size, fun k hk hn => (h'.block k (Nat.lt_of_lt_of_le hk h.size) (fun hm => by
    simp at hm
    rcases hm with e | e
    · exact hn (by simp [e])
    · omega)).trans (h.block k hk hn), fun k hk => Or.inl hk⟩
/-- A row's store, then a cell's store into another block. -/
theorem two_st {u : World} {a b j : Nat} {old new L : Array Value} {t t' : TypeId} {v x : Value} (hA : u.heap[a]? = some (.cells old t (0, 0))) (hB : u.heap[b]? = some (.cells L t' (0, 0))) (hab : a ≠ b) (hj : L[j]? = some x) (hn : (u.setRow a new).heap[a]? = some (.cells new t (0, 0))) :
    (u.setRow a new).cell? ⟨b, j, none⟩ = some x ∧ (u.setRow a new).frozen? ⟨b, j, none⟩ = false ∧ ((u.setRow a new).setCell ⟨b, j, none⟩ v).heap[a]? = some (.cells new t (0, 0)) ∧ ((u.setRow a new).setCell ⟨b, j, none⟩ v).heap[b]? = some (.cells (L.setIfInBounds j v) t' (0, 0)) ∧ Fr [a, b] u ((u.setRow a new).setCell ⟨b, j, none⟩ v) [a, b] := by
  have hB2 : (u.setRow a new).heap[b]? = some (.cells L t' (0, 0)) := by rw [setRow_other _ _ _ _ (fun e => hab e.symm)]; exact hB
  have h1 := setRow_fr u a new
  have h2 := setCell_fr (u.setRow a new) b j v
  refine ⟨cell_blk hB2 j hj, frozen_blk hB2 j, (h2.block a (lt_of_blk hn) (by simp; exact hab)).trans hn, heap_set hB2 v, ⟨h2.os.trans h1.os, h2.tape.trans h1.tape, h2.output.trans h1.output, Nat.le_trans h1.size h2.size, fun k hk hm => ?_, fun k hk => Or.inl hk⟩⟩
  simp at hm
  exact (h2.block k (Nat.lt_of_lt_of_le hk h1.size) (by simp; exact hm.2)).trans (h1.block k hk (by simp; exact hm.1))
theorem results_ccc {P : Program} {fn : Func} {tmps : Array Value} {w : World} {a b d : Nat} {t s r : TypeId} {v x y : Value} {p q z : Addr} (h : fn.results = #[.cell a t, .cell b s, .cell d r]) (ha : tmps.getD a undef = .pointer (some p)) (hb : tmps.getD b undef = .pointer (some q)) (hd : tmps.getD d undef = .pointer (some z))
    (hl : (loadVar t p).run P w = .ok v w) (hx : (loadVar s q).run P w = .ok x w) (hy : (loadVar r z).run P w = .ok y w) : (results fn tmps).run P w = .ok (.tuple #[v, x, y]) w := by
  unfold results
  rw [h]
  have ha' : tmps[a]?.getD undef = .pointer (some p) := by simpa using ha
  have hb' : tmps[b]?.getD undef = .pointer (some q) := by simpa using hb
  have hd' : tmps[d]?.getD undef = .pointer (some z) := by simpa using hd
  simp [ha', hb', hd', hl, hx, hy, asAddr]
theorem lnkF_bad {l : List UInt8} {s : Gs} {last : Nat} {e3 : Int} (h : e3 = (lnkN l s).2.2) (hz : e3 ≠ 0) (hl : 1 ≤ last) (hok : s.ok l) : lnkF l s last = e3 ∧ lnkF l s last ≠ 0 := by
  have ht := txtS_le (l := l) (at_ := s.at_) s.e 32 hok.at_
  have hn : (lnkN l s).1 = 0 := (numS_le (l := l) (at_ := (lnkT l s).2.1) (lnkE l s) 1 65536 ht.2).2.2 (by show (lnkN l s).2.2 ≠ 0; rw [← h]; exact hz)
  have h2 : lnkF l s last = e3 := by
    unfold lnkF
    rw [if_pos (by omega), ← h]
    unfold failS
    rw [if_neg hz]
  exact ⟨h2, by rw [h2]; exact hz⟩
theorem lnkF_low {l : List UInt8} {s : Gs} {last : Nat} (h : 0 = (lnkN l s).2.2) (hl : (lnkN l s).1 < last) : lnkF l s last = 5 ∧ lnkF l s last ≠ 0 := by
  have h2 : lnkF l s last = 5 := by
    unfold lnkF
    rw [if_pos hl, ← h]
    rfl
  exact ⟨h2, by rw [h2]; decide⟩
theorem lnkF_fine {l : List UInt8} {s : Gs} {last : Nat} (h : 0 = (lnkN l s).2.2) (hl : ¬ (lnkN l s).1 < last) : lnkF l s last = 0 := by
  unfold lnkF
  rw [if_neg hl, ← h]
/-- The document's links, a slice of one's own. -/
structure OwnR (no : List Nat) (base : Nat) (w : World) (A : Option Addr) (m c : Nat) (S : Bk) (Qs : List Rk) : Prop where
  ql : Qs.length = m
  sl : S.length = m
  row : w.ownsRow base 127 4 (.slice A m c) m (Qs.flatMap rkC)
  el : ∀ (j : Nat) (q : Rk) (x : Int × Kn), Qs[j]? = some q → S[j]? = some x → RkX ((Value.slice A m c).ownBlock.toList ++ no) w q x
theorem OwnR.nil (no : List Nat) (base : Nat) (w : World) : OwnR no base w none 0 0 [] [] := ⟨rfl, rfl, World.ownsRow_nil _ _ _ _, fun j q x h => by simp at h⟩
theorem OwnR.fr {no : List Nat} {base : Nat} {w w' : World} {A : Option Addr} {m c : Nat} {S : Bk} {Qs : List Rk} {own own' : List Nat} (h : OwnR no base w A m c S Qs) (hf : Fr own w w' own') (hs : ∀ k, k ∈ own → k ∈ no) (hb : ∀ k, k ∈ own → k < base) : OwnR no base w' A m c S Qs :=
  ⟨h.ql, h.sl, own_fr h.row hf hb, fun j q x h1 h2 => (h.el j q x h1 h2).fr hf (fun k hk => List.mem_append.2 (Or.inr (hs k hk))) (fun _ h => Or.inl h)⟩
theorem OwnR.to {no : List Nat} {base : Nat} {w w' : World} {A : Option Addr} {m c : Nat} {S : Bk} {Qs : List Rk} (h : OwnR no base w A m c S Qs) (hb : Below w.heap.size w w') : OwnR no base w' A m c S Qs :=
  ⟨h.ql, h.sl, own_to h.row hb, fun j q x h1 h2 => (h.el j q x h1 h2).fr (own := []) (own' := []) (Fr.below hb) (fun _ h => absurd h (by simp)) (fun _ h => Or.inl h)⟩
theorem OwnR.blk {no : List Nat} {base : Nat} {w : World} {A : Option Addr} {m c : Nat} {S : Bk} {Qs : List Rk} (h : OwnR no base w A m c S Qs) (hno : ∀ k, k ∈ no → k < w.heap.size) : ∀ k, k ∈ (Value.slice A m c).ownBlock.toList ++ no → k < w.heap.size := fun k hk => by
  rcases List.mem_append.1 hk with h1 | h1
  · rcases h.row.2 with ⟨hv, _⟩ | ⟨g, cap, cur, hv, hb, hg, _⟩
    · rw [hv] at h1; simp [Value.ownBlock] at h1
    · rw [hv] at h1
      simp [Value.ownBlock] at h1
      subst h1
      exact lt_of_blk hg
  · exact hno k h1
theorem OwnR.rkN {no : List Nat} {base : Nat} {w : World} {A : Option Addr} {m c : Nat} {S : Bk} {Qs : List Rk} (h : OwnR no base w A m c S Qs) (hno : ∀ k, k ∈ no → k < base) : RkN no w A m S :=
  ⟨Qs, h.ql, h.sl, own_rdN h.row hno, fun i q x h1 h2 => (h.el i q x h1 h2).fr (own := []) (own' := []) (Fr.below (Below.refl _ _)) (fun _ h => absurd h (by simp)) (fun k hk => Or.inl (List.mem_append.2 (Or.inr hk)))⟩
theorem grow_no {no : List Nat} {w w' : World} {v v' : Value} (hg : w.grownBy w' v.ownBlock) (ho : v'.ownBlock = v.ownBlock ∨ v'.ownBlock = some w.heap.size) : Fr v.ownBlock.toList w w' [] ∧ ∀ k, k ∈ v'.ownBlock.toList ++ no → k ∈ v.ownBlock.toList ++ no ∨ w.heap.size ≤ k := by
  refine ⟨Fr.grown hg (fun r e => Or.inl (by rw [e]; simp)) (fun k hk => absurd hk (by simp)), fun k hk => ?_⟩
  rcases List.mem_append.1 hk with h1 | h1
  · rcases ho with e | e
    · rw [e] at h1; exact Or.inl (List.mem_append.2 (Or.inl h1))
    · rw [e] at h1; simp at h1; exact Or.inr (by omega)
  · exact Or.inl (List.mem_append.2 (Or.inr h1))
theorem OwnR.snoc {no : List Nat} {base : Nat} {w w' : World} {A A' : Option Addr} {m c c' : Nat} {S : Bk} {Qs : List Rk} (h : OwnR no base w A m c S Qs) {q : Rk} {x : Int × Kn} (hq : RkX ((Value.slice A m c).ownBlock.toList ++ no) w q x) (hg : w.grownBy w' (Value.slice A m c).ownBlock)
    (ho : (Value.slice A' (m + 1) c').ownBlock = (Value.slice A m c).ownBlock ∨ (Value.slice A' (m + 1) c').ownBlock = some w.heap.size) (o : w'.ownsRow base 127 4 (.slice A' (m + 1) c') (m + 1) (Qs.flatMap rkC ++ rkC q)) : OwnR no base w' A' (m + 1) c' (S ++ [x]) (Qs ++ [q]) := by
  obtain ⟨hf, s2⟩ := grow_no (no := no) hg ho
  have s1 : ∀ k, k ∈ (Value.slice A m c).ownBlock.toList → k ∈ (Value.slice A m c).ownBlock.toList ++ no := fun k hk => List.mem_append.2 (Or.inl hk)
  refine ⟨by simp [h.ql], by simp [h.sl], by rw [List.flatMap_append, show [q].flatMap rkC = rkC q by simp]; exact o, fun j q' x' f1 f2 => ?_⟩
  rcases Nat.lt_or_ge j m with hj | hj
  · rw [List.getElem?_append_left (by rw [h.ql]; exact hj)] at f1
    rw [List.getElem?_append_left (by rw [h.sl]; exact hj)] at f2
    exact (h.el j q' x' f1 f2).fr hf s1 s2
  · rw [List.getElem?_append_right (by rw [h.ql]; exact hj)] at f1
    rw [List.getElem?_append_right (by rw [h.sl]; exact hj)] at f2
    rcases hz : j - m with _ | z
    · rw [h.ql, hz] at f1
      rw [h.sl, hz] at f2
      simp at f1 f2
      subst f1 f2
      exact hq.fr hf s1 s2
    · rw [h.ql, hz] at f1
      simp at f1
theorem Fr.wide {own own' big : List Nat} {w w' : World} (h : Fr own w w' own') (hs : ∀ k, k ∈ own → k ∈ big) : Fr big w w' big := ⟨h.os, h.tape, h.output, h.size, fun k hk hn => h.block k hk (fun hm => hn (hs k hm)), fun k hk => Or.inl hk⟩
theorem range_cell {w w' : World} {b o z : Nat} {cs : List Value} {v : Value} (h : w.rangeAt b o cs) (hb : w'.heap[b]? = w.heap[b]?) (hz : cs[z]? = some v) : w'.cell? ⟨b, o + z, none⟩ = some v := (World.cell?_of_block (a := ⟨b, o + z, none⟩) hb).trans (h z v hz)
theorem range_blk {w w' : World} {b o : Nat} {cs : List Value} (h : w.rangeAt b o cs) (hb : w'.heap[b]? = w.heap[b]?) : w'.rangeAt b o cs := fun z v hz => range_cell h hb hz
theorem range_set {w : World} {b o : Nat} {a0 a1 a2 a3 a4 v : Value} (h : w.rangeAt b o [a0, a1, a2, a3, a4]) : (w.setCell ⟨b, o + 3, none⟩ v).rangeAt b o [a0, a1, a2, v, a4] := fun z u hz => by
  have hs : ∀ k, k ≠ 3 → (w.setCell ⟨b, o + 3, none⟩ v).cell? ⟨b, o + k, none⟩ = w.cell? ⟨b, o + k, none⟩ := fun k hk => World.cell?_setCell_other w _ _ v (fun e => by injection e with _ e; omega)
  rcases z with _ | _ | _ | _ | _ | z
  · rw [hs 0 (by decide)]; exact h 0 u hz
  · rw [hs 1 (by decide)]; exact h 1 u hz
  · rw [hs 2 (by decide)]; exact h 2 u hz
  · have h3 := h 3 a3 rfl
    injection hz with hz
    subst hz
    exact World.cell?_setCell_same w _ v h3
  · rw [hs 4 (by decide)]; exact h 4 u hz
  · simp at hz
theorem range_far {w : World} {b i j : Nat} {cs : List Value} {v : Value} (h : w.rangeAt b (j * 5) cs) (hl : cs.length ≤ 5) (hij : i < j) : (w.setCell ⟨b, i * 5 + 3, none⟩ v).rangeAt b (j * 5) cs := fun z u hz => by
  rw [World.cell?_setCell_other w _ _ v (fun e => by injection e with _ e; omega)]
  exact h z u hz
theorem rd_static {w0 w : World} {size n : Nat} {A : Option Addr} {xs : List Value} (h : Rd w0 w0.heap.size size A n xs) (hb : Below w0.heap.size w0 w) {no : List Nat} (hno : ∀ k, k ∈ no → w0.heap.size ≤ k) : RdN no w size A n xs :=
  ⟨h.to hb, fun b o h0 e hm => by obtain ⟨b', o', e', hb', _⟩ := h.2 h0; rw [e] at e'; injection e' with e'; injection e' with e1; have := hno b hm; omega⟩
/-- What the document's Get tells. -/
def RGet (l : List UInt8) (w : World) (e : Ending) (w' : World) : Prop :=
  ∃ A n c V vn vc K kn kc, e = .returned (.tuple #[.agg #[.slice A n c, .int .i64 (parse l).e], .agg #[.slice V vn vc, .int .i64 0], .agg #[.slice K kn kc]]) ∧ Below w.heap.size w w' ∧
    ((parse l).e = 0 → n = l.length - (parse l).at_ ∧ RkN [] w' K kn (getS (parse l).L [] []).1 ∧ vn = (getS (parse l).L [] []).2.length)
set_option maxRecDepth 8000 in
set_option maxHeartbeats 8000000 in
theorem rget_ (A : Option Addr) (n c : Nat) (l : List UInt8) (w : World) (h : RA w A n c l 0) (hl : l.length ≤ 500000) :
    Calls Try.prog 48 #[.agg #[.slice none 0 0, .int .i64 0], .agg #[.slice A n c, .int .i64 0]] w (RGet l w) := by
  obtain ⟨W, hW⟩ : ∃ W, Hid (W = ((((w.alloc (.cells #[.slice none 0 0, .int .i64 0] 33)).alloc (.cells #[.slice A n c, .int .i64 0] 94)).alloc (.cells #[.slice none 0 0, .int .i64 0] 94)).alloc (.cells #[.slice none 0 0, .int .i64 0] 33)).alloc (.cells #[.slice none 0 0] 30)) := ⟨_, Lib.hid rfl⟩
  obtain ⟨G, hG⟩ : ∃ g, Hid (g = w.heap.size) := ⟨_, Lib.hid rfl⟩
  have HA := Lib.hid h
  have hl0 := Lib.hid hl
  obtain ⟨BW0, hWs0, C00, C10, C20, C30, C40⟩ := five w (.cells #[.slice none 0 0, .int .i64 0] 33) (.cells #[.slice A n c, .int .i64 0] 94) (.cells #[.slice none 0 0, .int .i64 0] 94) (.cells #[.slice none 0 0, .int .i64 0] 33) (.cells #[.slice none 0 0] 30)
  rw [← hW.out] at BW0 hWs0 C00 C10 C20 C30 C40
  rw [← hG.out] at hWs0 C00 C10 C20 C30 C40
  have BW := Lib.hid BW0
  have hWs := Lib.hid hWs0
  have C0 := Lib.hid C00
  have C1 := Lib.hid C10
  have C2 := Lib.hid C20
  have C3 := Lib.hid C30
  have C4 := Lib.hid C40
  clear BW0 hWs0 C00 C10 C20 C30 C40
  clear h hl
  go_enter Try.func48, Try.ntmps48
  go_wp2_with fail
  rw [← hW.out, ← hG.out]
  clear hW
  go_loopw [7, 8] (fun x7 x8 wr => ∃ (a m : Nat) (A : Option Addr) (c : Nat) (s : Gs) (Ar : Option Addr) (nr cr : Nat), x7 = .slice A m c ∧ x8 = .int .i64 a ∧ a ≤ 5 ∧ Hid (Fr [G + 1] W wr [G + 1]) ∧ Hid (wr.heap[G + 1]? = some (.cells #[.slice Ar nr cr, .int .i64 s.e] 94 (0, 0))) ∧ Hid (RA w Ar nr cr l s.at_) ∧ Hid (∃ Qs, OwnT w W.heap.size wr A m c s.L Qs) ∧ Hid (s.ok l) ∧ Hid (auths l (5 - a) a s = parse l)) (fun _ x8 _ => 5 - (intOf x8).toNat)
  case atStart => exact ⟨0, 0, none, 0, ⟨[], 0, 0⟩, A, n, c, rfl, rfl, by omega, Fr.refl _ _, C1.out, HA.out, ⟨[], OwnT.nil _ _ _⟩, ⟨Nat.zero_le _, Nat.zero_le _, by simp⟩, rfl⟩
  case round =>
    obtain ⟨a, m, A, c, s, Ar, nr, cr, rfl, rfl, ha, hF, hC, hRA, hQ, hok, hpa⟩ := hrel
    obtain ⟨wo, hwo⟩ : ∃ wo, wo = wr := ⟨wr, rfl⟩
    subst hwo
    have BWo : Hid (Below w.heap.size w wo) := BW.out.trans (hF.out.toBelow (fun k hk => by simp at hk; rw [hk, hG.out]; exact Nat.le_succ _) BW.out.size)
    by_cases h5 : a < 5
    · have h5' : (a : Int) < 5 := by omega
      have e8 : IntKind.i64.wrap ((a : Int) + 1) = ((a + 1 : Nat) : Int) := by rw [IntWalk.i64_in _ (by omega)]; omega
      have c0 := cell_blk hC.out 0 rfl
      have c1 := cell_blk hC.out 1 rfl
      go_wp2_with fail
      clear c0 c1
      refine (rnum_ w Ar nr cr l s.at_ s.e 0 1048576 wo hRA.out BWo.out).mono ?_
      rintro r w1 ⟨A1, n1, c1, rfl, r1, b1⟩
      change RA w A1 n1 c1 l (cnt l s).2.1 at r1
      obtain ⟨C, hC0⟩ : ∃ C, Hid (C = (cnt l s).1) := ⟨_, Lib.hid rfl⟩
      obtain ⟨E, hE0⟩ : ∃ E, Hid (E = (cnt l s).2.2) := ⟨_, Lib.hid rfl⟩
      rw [show (numS l s.at_ s.e 0 1048576).1 = C from hC0.out.symm, show (numS l s.at_ s.e 0 1048576).2.2 = E from hE0.out.symm]
      have R1 := Lib.hid r1
      obtain ⟨V, hV⟩ : ∃ V, Hid (V = w1.alloc (.cells #[.slice A1 n1 c1, .int .i64 E] 94)) := ⟨_, Lib.hid rfl⟩
      have BV : Hid (Below wo.heap.size wo V) := by rw [hV.out]; exact b1.alloc b1.size _
      have CV : Hid (V.heap[G + 1]? = some (.cells #[.slice Ar nr cr, .int .i64 s.e] 94 (0, 0))) := (BV.out.block _ (lt_of_blk hC.out)).trans hC.out
      have CVo := Lib.hid CV.out
      rw [hV.out] at CVo
      clear r1 b1
      go_wp2_with (refine wpList_store_row rfl 94 (.tmp 3) (.tmp 27) rfl (G + 1) #[.slice A1 n1 c1, .int .i64 E] rfl rfl _ _ CVo.out (by kernel_rfl) rfl (by kernel_rfl) ?_)
      rw [← hV.out]
      obtain ⟨Z, hZ⟩ : ∃ Z, Hid (Z = V.setRow (G + 1) #[.slice A1 n1 c1, .int .i64 E]) := ⟨_, Lib.hid rfl⟩
      rw [← hZ.out]
      have FZ : Hid (Fr [G + 1] W Z [G + 1]) := by rw [hZ.out]; exact (hF.out.trans (Fr.below BV.out)).trans (setRow_fr _ _ _)
      have FoZ : Hid (Fr [G + 1] wo Z [G + 1]) := by rw [hZ.out]; exact (Fr.below BV.out).trans (setRow_fr _ _ _)
      have CZ : Hid (Z.heap[G + 1]? = some (.cells #[.slice A1 n1 c1, .int .i64 E] 94 (0, 0))) := by unfold Hid; rw [hZ.out]; exact setRow_heap _ _ _ _ _ _ CV.out
      have hG1 : Hid (∀ k, k ∈ [G + 1] → k < W.heap.size) := fun k hk => by simp at hk; have := hWs.out; omega
      have Q1 : Hid (∃ Qs, OwnT w W.heap.size Z A m c s.L Qs) := by obtain ⟨Qs, hq⟩ := hQ.out; exact ⟨Qs, hq.fr FoZ.out hG1.out⟩
      have hpa1 : Hid (auths l (5 - (a + 1)) (a + 1) (lnks l (a : Int) C 0 ⟨s.L, (cnt l s).2.1, E⟩ 1) = parse l) := by
        have h1 := hpa.out
        rw [show 5 - a = (5 - (a + 1)) + 1 by omega] at h1
        rw [hC0.out, hE0.out]
        exact h1
      have hok1 : Hid ((Gs.mk s.L (cnt l s).2.1 E).ok l) := by rw [hE0.out]; exact cnt_le hok.out
      have hCb : Hid (C ≤ 1048576) := by
        unfold Hid
        rw [hC0.out]
        by_cases h0 : (cnt l s).2.2 = 0
        · have h1 := (numS_good (l := l) (at_ := s.at_) (e := s.e) (lo := 0) (hi := 1048576) hok.out.at_ h0).2.2.1
          unfold cnt; omega
        · have h1 := (numS_le (l := l) (at_ := s.at_) s.e 0 1048576 hok.out.at_).2.2 h0
          unfold cnt; omega
      have hCb' := hCb.out
      clear hpa hok hC0 hC hF hRA hQ CVo CV FoZ hV hZ BV BWo
      go_loopw [7, 11, 12] (fun x7 x11 x12 wr => ∃ (i m : Nat) (A : Option Addr) (c : Nat) (s : Gs) (last : Nat) (Ar : Option Addr) (nr cr : Nat), x7 = .slice A m c ∧ x11 = .int .i64 last ∧ x12 = .int .i64 i ∧ i ≤ C ∧ 1 ≤ last ∧ last ≤ 65536 ∧ Hid (Fr [G + 1] W wr [G + 1]) ∧ Hid (wr.heap[G + 1]? = some (.cells #[.slice Ar nr cr, .int .i64 s.e] 94 (0, 0))) ∧ Hid (RA w Ar nr cr l s.at_) ∧ Hid (∃ Qs, OwnT w W.heap.size wr A m c s.L Qs) ∧ Hid (s.ok l) ∧ Hid (auths l (5 - (a + 1)) (a + 1) (lnks l (a : Int) (C - i) i s last) = parse l)) (fun _ _ x12 _ => C - (intOf x12).toNat)
      case atStart => exact ⟨0, m, A, c, ⟨s.L, (cnt l s).2.1, E⟩, 1, A1, n1, c1, rfl, rfl, rfl, by omega, by omega, by omega, FZ.out, CZ.out, R1.out, Q1.out, hok1.out, hpa1.out⟩
      case round =>
        clear Q1 hok1 hpa1 R1 FZ CZ
        obtain ⟨i, m, A, c, s, last, Ar, nr, cr, rfl, rfl, rfl, hi, hl1, hl2, hF, hC, hRA, hQ, hok, hpa⟩ := hrel
        have BWr : Hid (Below w.heap.size w wr) := BW.out.trans (hF.out.toBelow (fun k hk => by simp at hk; rw [hk, hG.out]; exact Nat.le_succ _) BW.out.size)
        by_cases hiC : i < C
        · have hiC' : (i : Int) < C := by omega
          have e9 : IntKind.i64.wrap ((i : Int) + 1) = ((i + 1 : Nat) : Int) := by rw [IntWalk.i64_in _ (by omega)]; omega
          have hpa2 : Hid (auths l (5 - (a + 1)) (a + 1) (lnks l (a : Int) (C - (i + 1) + 1) i s last) = parse l) := by
            have h1 := hpa.out
            rw [show C - i = (C - (i + 1)) + 1 by omega] at h1
            exact h1
          clear hpa
          obtain ⟨GB, hGB⟩ : ∃ k, Hid (k = wr.heap.size) := ⟨_, Lib.hid rfl⟩
          obtain ⟨V, hV⟩ : ∃ V, Hid (V = wr.alloc (.cells #[.int .i64 a, .int .i64 ((i : Int) + 1), .int .i64 0, .slice none 0 0, .slice none 0 0] 40)) := ⟨_, Lib.hid rfl⟩
          have BV : Hid (Below wr.heap.size wr V) := by rw [hV.out]; exact (Below.refl _ _).alloc (Nat.le_refl _) _
          have CV : Hid (V.heap[G + 1]? = some (.cells #[.slice Ar nr cr, .int .i64 s.e] 94 (0, 0))) := (BV.out.block _ (lt_of_blk hC.out)).trans hC.out
          have RV : Hid (V.heap[GB]? = some (.cells #[.int .i64 a, .int .i64 ((i : Int) + 1), .int .i64 0, .slice none 0 0, .slice none 0 0] 40 (0, 0))) := by unfold Hid; rw [hV.out, hGB.out]; exact heap_alloc_new _ _
          have c0 := cell_blk CV.out 0 rfl
          have c1 := cell_blk CV.out 1 rfl
          rw [hV.out] at c0 c1
          go_wp2_with fail
          clear c0 c1
          rw [← hV.out]
          refine (rtext_ w Ar nr cr l s.at_ s.e 32 V hRA.out (BWr.out.trans (BV.out.mono BWr.out.size)) (by decide) (by have := hl0.out; omega)).mono ?_
          rintro r w2 ⟨A2, n2, c2, D, dn, dc, rfl, r2, t2, t3, b2⟩
          change RA w A2 n2 c2 l (lnkT l s).2.1 at r2
          change Rd w w.heap.size 1 D dn ((lnkT l s).1.map B8) at t2
          obtain ⟨E2, hE2⟩ : ∃ E, Hid (E = (lnkT l s).2.2) := ⟨_, Lib.hid rfl⟩
          rw [show (txtS l s.at_ s.e 32).2.2 = E2 from hE2.out.symm]
          have R2 := Lib.hid r2
          have T2 := Lib.hid t2
          have B2 := Lib.hid b2
          have T3 := Lib.hid t3
          clear r2 t2 b2 t3
          have C2' : Hid (w2.heap[G + 1]? = some (.cells #[.slice Ar nr cr, .int .i64 s.e] 94 (0, 0))) := (B2.out.block _ (lt_of_blk CV.out)).trans CV.out
          have RB2 : Hid (w2.heap[GB]? = some (.cells #[.int .i64 a, .int .i64 ((i : Int) + 1), .int .i64 0, .slice none 0 0, .slice none 0 0] 40 (0, 0))) := (B2.out.block _ (lt_of_blk RV.out)).trans RV.out
          have hGGB : Hid (G + 1 ≠ GB) := by have h1 := lt_of_blk hC.out; have h2 := hGB.out; unfold Hid; omega
          have hrow2 := setRow_heap _ _ _ #[.slice A2 n2 c2, .int .i64 E2] _ _ C2'.out
          obtain ⟨p1, p2, p3, p4, p5⟩ := two_st (v := .slice D dn dc) (j := 4) C2'.out RB2.out hGGB.out rfl hrow2
          obtain ⟨Y, hY⟩ : ∃ Y, Hid (Y = (w2.setRow (G + 1) #[.slice A2 n2 c2, .int .i64 E2]).setCell ⟨GB, 4, none⟩ (.slice D dn dc)) := ⟨_, Lib.hid rfl⟩
          have y0 := cell_blk p3 0 rfl
          have y1 := cell_blk p3 1 rfl
          have y4 := cell_blk p4 4 rfl
          rw [← hY.out] at p3 p4 p5
          rw [hGB.out] at p1 p2 y0 y1 y4 hY
          have CY := Lib.hid p3
          have RY := Lib.hid p4
          have FY : Hid (Fr [G + 1] wr Y [G + 1]) := ((Fr.below BV.out).trans (Fr.below B2.out)).two p5 (by rw [hGB.out]; exact Nat.le_refl _)
          have hdn : Hid ((lnkT l s).1.length = dn) := by have h1 := T2.out.len; unfold Hid; simpa using h1
          clear p3 p4 p5
          by_cases hE : E2 = 0
          · subst hE
            by_cases h32 : dn = 32
            · subst h32
              have hLE : Hid (lnkE l s = 0) := by unfold lnkE Hid; rw [if_pos hdn.out, ← hE2.out]
              have hnn : Hid (numS l (lnkT l s).2.1 0 1 65536 = lnkN l s) := by unfold lnkN Hid; rw [hLE.out]
              have RY' : Hid (Y.heap[GB]? = some (.cells #[.int .i64 a, .int .i64 ((i : Int) + 1), .int .i64 0, .slice none 0 0, .slice D 32 dc] 40 (0, 0))) := RY.out
              go_wp2_with (refine wpList_store_row rfl 94 (.tmp 3) (.tmp 40) rfl (G + 1) #[.slice A2 n2 c2, .int .i64 0] rfl rfl _ _ C2'.out (by kernel_rfl) rfl (by kernel_rfl) ?_)
              rw [← hY.out]
              clear p1 p2 y0 y1 y4 hrow2
              have BWY : Hid (Below w.heap.size w Y) := BW.out.trans ((hF.out.trans FY.out).toBelow (fun k hk => by simp at hk; rw [hk, hG.out]; exact Nat.le_succ _) BW.out.size)
              refine (rnum_ w A2 n2 c2 l (lnkT l s).2.1 0 1 65536 Y R2.out BWY.out).mono ?_
              rintro r u ⟨A3, n3, c3, rfl, r3, b3⟩
              rw [hnn.out] at r3 ⊢
              obtain ⟨N, hN⟩ : ∃ N, Hid (N = (lnkN l s).1) := ⟨_, Lib.hid rfl⟩
              obtain ⟨e3, he3⟩ : ∃ e, Hid (e = (lnkN l s).2.2) := ⟨_, Lib.hid rfl⟩
              rw [← hN.out, ← he3.out]
              have R3 := Lib.hid r3
              have B3 := Lib.hid b3
              clear r3 b3
              have Cu : Hid (u.heap[G + 1]? = some (.cells #[.slice A2 n2 c2, .int .i64 0] 94 (0, 0))) := (B3.out.block _ (lt_of_blk CY.out)).trans CY.out
              have Ru : Hid (u.heap[GB]? = some (.cells #[.int .i64 a, .int .i64 ((i : Int) + 1), .int .i64 0, .slice none 0 0, .slice D 32 dc] 40 (0, 0))) := (B3.out.block _ (lt_of_blk RY'.out)).trans RY'.out
              have hrow3 := setRow_heap _ _ _ #[.slice A3 n3 c3, .int .i64 e3] _ _ Cu.out
              obtain ⟨p1, p2, p3, p4, p5⟩ := two_st (v := .int .i64 N) (j := 2) Cu.out Ru.out hGGB.out rfl hrow3
              obtain ⟨Y2, hY2⟩ : ∃ Y, Hid (Y = (u.setRow (G + 1) #[.slice A3 n3 c3, .int .i64 e3]).setCell ⟨GB, 2, none⟩ (.int .i64 N)) := ⟨_, Lib.hid rfl⟩
              have z1 := cell_blk p3 1 rfl
              have f1 := frozen_blk p3 1
              have z2 := cell_blk p4 2 rfl
              rw [← hY2.out] at p3 p4 p5
              rw [hGB.out] at p1 p2 z1 z2 f1 hY2
              have CY2 := Lib.hid p3
              have RY2 : Hid (Y2.heap[GB]? = some (.cells #[.int .i64 a, .int .i64 ((i : Int) + 1), .int .i64 N, .slice none 0 0, .slice D 32 dc] 40 (0, 0))) := p4
              have FY2 : Hid (Fr [G + 1] wr Y2 [G + 1]) := (FY.out.trans (Fr.below B3.out)).two p5 (by rw [hGB.out]; exact Nat.le_refl _)
              have FW2 : Hid (Fr [G + 1] W Y2 [G + 1]) := hF.out.trans FY2.out
              clear p3 p4 p5 hrow3
              by_cases hz : e3 = 0
              · subst hz
                by_cases hNl : N < last
                · have hNl' : (N : Int) < (last : Int) := by omega
                  have hlF : Hid (lnkF l s last = 5 ∧ lnkF l s last ≠ 0) := lnkF_low he3.out (by rw [← hN.out]; exact hNl)
                  have z3 : (Y2.setCell ⟨G + 1, 1, none⟩ (.int .i64 5)).heap[G + 1]? = some (.cells #[.slice A3 n3 c3, .int .i64 5] 94 (0, 0)) := heap_set CY2.out (.int .i64 5)
                  obtain ⟨Y3, hY3⟩ : ∃ Y, Hid (Y = Y2.setCell ⟨G + 1, 1, none⟩ (.int .i64 5)) := ⟨_, Lib.hid rfl⟩
                  have x1 := cell_blk z3 1 rfl
                  rw [← hY3.out] at z3
                  have CY3 := Lib.hid z3
                  have hY3' := Lib.hid hY3.out
                  rw [hY2.out] at hY3' x1
                  have FW3 : Hid (Fr [G + 1] W Y3 [G + 1]) := by rw [hY3.out]; exact FW2.out.trans (setCell_fr _ _ _ _)
                  go_wp2_with (refine wpList_store_row rfl 94 (.tmp 3) (.tmp 56) rfl (G + 1) #[.slice A3 n3 c3, .int .i64 0] rfl rfl _ _ Cu.out (by kernel_rfl) rfl (by kernel_rfl) ?_)
                  rw [← hY3'.out]
                  have hpe : Hid ((parse l).e = 5) := by have h1 := get_err hpa2.out hlF.out.2; unfold Hid; rw [h1]; exact hlF.out.1
                  have hne : Hid (¬ (parse l).e = 0) := by unfold Hid; have h1 := get_err hpa2.out hlF.out.2; rw [h1]; exact hlF.out.2
                  have Y30 : Hid (Y3.heap[G]? = some (.cells #[.slice none 0 0, .int .i64 0] 33 (0, 0))) := (FW3.out.block G (by have := hWs.out; omega) (by simp)).trans C0.out
                  have BWY3 : Hid (Below w.heap.size w Y3) := BW.out.trans (FW3.out.toBelow (fun k hk => by simp at hk; rw [hk, hG.out]; exact Nat.le_succ _) BW.out.size)
                  obtain ⟨X, hX⟩ : ∃ W, Hid (W = Y3.drew) := ⟨_, Lib.hid rfl⟩
                  have dX : Below Y3.heap.size Y3 X := by rw [hX.out]; exact below_drew (Below.refl _ _)
                  have XC2 : Hid (X.heap[G + 1 + 1]? = some (.cells #[.slice none 0 0, .int .i64 0] 94 (0, 0))) := (dX.block (G + 1 + 1) (Nat.lt_of_lt_of_le (by have := hWs.out; omega) FW3.out.size)).trans ((FW3.out.block (G + 1 + 1) (by have := hWs.out; omega) (by simp only [List.mem_cons, List.not_mem_nil, or_false]; omega)).trans C2.out)
                  have XC3 : Hid (X.heap[G + 1 + 1 + 1]? = some (.cells #[.slice none 0 0, .int .i64 0] 33 (0, 0))) := (dX.block (G + 1 + 1 + 1) (Nat.lt_of_lt_of_le (by have := hWs.out; omega) FW3.out.size)).trans ((FW3.out.block (G + 1 + 1 + 1) (by have := hWs.out; omega) (by simp only [List.mem_cons, List.not_mem_nil, or_false]; omega)).trans C3.out)
                  have XC4 : Hid (X.heap[G + 1 + 1 + 1 + 1]? = some (.cells #[.slice none 0 0] 30 (0, 0))) := (dX.block (G + 1 + 1 + 1 + 1) (Nat.lt_of_lt_of_le (by have := hWs.out; omega) FW3.out.size)).trans ((FW3.out.block (G + 1 + 1 + 1 + 1) (by have := hWs.out; omega) (by simp only [List.mem_cons, List.not_mem_nil, or_false]; omega)).trans C4.out)
                  have XA : Hid (X.heap[G + 1]? = some (.cells #[.slice A3 n3 c3, .int .i64 5] 94 (0, 0))) := (dX.block _ (lt_of_blk CY3.out)).trans CY3.out
                  have XV : Hid (X.heap[G]? = some (.cells #[.slice none 0 0, .int .i64 0] 33 (0, 0))) := (dX.block _ (lt_of_blk Y30.out)).trans Y30.out
                  have BX : Hid (Below w.heap.size w X) := BWY3.out.trans (dX.mono BWY3.out.size)
                  refine wp_region_noPanic ?_
                  refine wp_region_held_drew (S := fun w' => ∀ k, k ∈ [G, G + 1] → w'.heap[k]? = X.heap[k]?) (by kernel_rfl) (by rw [← hX.out]; exact fun _ _ => rfl) (fun hS => ?_)
                  rw [← hX.out]
                  clear hS
                  have hS : ∀ k, k ∈ [G, G + 1] → X.heap[k]? = X.heap[k]? := fun _ _ => rfl
                  refine wpAnyH_take (i := 0) (v := .agg #[.slice A3 n3 c3, .int .i64 5]) rfl (by kernel_rfl) (by kernel_rfl) (by kernel_rfl) (fun _ _ _ h => h) (Or.inl ⟨by rfl, ?hyqb0⟩) hS ?restqb0
                  case hyqb0 => (intro w' hSw; have c0 : w'.cell? ⟨G + 1, 0, none⟩ = some (.slice A3 n3 c3) := cell_blk ((hSw (G + 1) (by simp)).trans XA.out) 0 rfl; have c1 : w'.cell? ⟨G + 1, 1, none⟩ = some (.int .i64 5) := cell_blk ((hSw (G + 1) (by simp)).trans XA.out) 1 rfl; go_simp; first | done | with_reducible rfl)
                  try simp only [Act.put, List.getElem_toArray, List.getElem_cons_zero, List.getElem_cons_succ, List.setIfInBounds_toArray, List.set_cons_zero, List.set_cons_succ]
                  refine wpAnyH_take (i := 1) (v := .agg #[.slice none 0 0, .int .i64 0]) rfl (by kernel_rfl) (by kernel_rfl) (by kernel_rfl) (fun _ _ _ h => h) (Or.inl ⟨by rfl, ?hyqb1⟩) hS ?restqb1
                  case hyqb1 => (intro w' hSw; have c0 : w'.cell? ⟨G, 0, none⟩ = some (.slice none 0 0) := cell_blk ((hSw (G) (by simp)).trans XV.out) 0 rfl; have c1 : w'.cell? ⟨G, 1, none⟩ = some (.int .i64 0) := cell_blk ((hSw (G) (by simp)).trans XV.out) 1 rfl; go_simp; first | done | with_reducible rfl)
                  try simp only [Act.put, List.getElem_toArray, List.getElem_cons_zero, List.getElem_cons_succ, List.setIfInBounds_toArray, List.set_cons_zero, List.set_cons_succ]
                  refine wpAnyH_take (i := 2) (v := .agg #[.slice none 0 0]) rfl (by kernel_rfl) (by kernel_rfl) (by kernel_rfl) (fun _ _ _ h => h) (Or.inl ⟨by rfl, ?hyqb2⟩) hS ?restqb2
                  case hyqb2 => (intro w' hSw; go_simp; first | done | with_reducible rfl)
                  try simp only [Act.put, List.getElem_toArray, List.getElem_cons_zero, List.getElem_cons_succ, List.setIfInBounds_toArray, List.set_cons_zero, List.set_cons_succ]
                  refine wpAnyH_ready (rs := [3]) (by kernel_rfl) (by simp) ?_
                  refine AllReadyH.cons rfl (fun K hK => ?_) AllReadyH.nil
                  refine step_store_row 94 (.tmp 4) (.tmp 72) rfl rfl (G + 1 + 1) #[.slice A3 n3 c3, .int .i64 5] rfl (by first | rfl | kernel_rfl) _ _ XC2.out (by kernel_rfl) rfl (by kernel_rfl) ?_
                  obtain ⟨P1, hP1⟩ : ∃ W0, Hid (W0 = X.setRow (G + 1 + 1) #[.slice A3 n3 c3, .int .i64 5]) := ⟨_, Lib.hid rfl⟩
                  rw [← hP1.out]
                  have P1o : Hid (P1.heap[G + 1 + 1]? = some (.cells #[.slice A3 n3 c3, .int .i64 5] 94 (0, 0))) := by unfold Hid; rw [hP1.out]; exact setRow_heap _ _ _ _ _ _ XC2.out
                  have P13 : Hid (P1.heap[G + 1 + 1 + 1]? = some (.cells #[.slice none 0 0, .int .i64 0] 33 (0, 0))) := by unfold Hid; rw [hP1.out, setRow_other _ _ _ _ (by omega)]; exact XC3.out
                  have P14 : Hid (P1.heap[G + 1 + 1 + 1 + 1]? = some (.cells #[.slice none 0 0] 30 (0, 0))) := by unfold Hid; rw [hP1.out, setRow_other _ _ _ _ (by omega)]; exact XC4.out
                  have BP1 : Hid (Below w.heap.size w P1) := by rw [hP1.out]; exact below_setRow BX.out (by have := hG.out; omega) _
                  have SP1 : ∀ k, k ∈ [G, G + 1] → P1.heap[k]? = X.heap[k]? := fun k hk => (show P1.heap[k]? = X.heap[k]? by rw [hP1.out]; exact setRow_other _ _ _ _ (by simp only [List.mem_cons, List.not_mem_nil, or_false] at hk; omega)).trans (hS k hk)
                  refine hK.out _ _ SP1 ?_
                  intro hS2
                  clear hK K hS hS2
                  try simp only [Act.put, List.getElem_toArray, List.getElem_cons_zero, List.getElem_cons_succ, List.setIfInBounds_toArray, List.set_cons_zero, List.set_cons_succ]
                  have hS := SP1
                  refine wpAnyH_ready (rs := [4]) (by kernel_rfl) (by simp) ?_
                  refine AllReadyH.cons rfl (fun K hK => ?_) AllReadyH.nil
                  refine step_store_row 33 (.tmp 5) (.tmp 73) rfl rfl (G + 1 + 1 + 1) #[.slice none 0 0, .int .i64 0] rfl (by first | rfl | kernel_rfl) _ _ P13.out (by kernel_rfl) rfl (by kernel_rfl) ?_
                  obtain ⟨P2, hP2⟩ : ∃ W0, Hid (W0 = P1.setRow (G + 1 + 1 + 1) #[.slice none 0 0, .int .i64 0]) := ⟨_, Lib.hid rfl⟩
                  rw [← hP2.out]
                  have P2o : Hid (P2.heap[G + 1 + 1 + 1]? = some (.cells #[.slice none 0 0, .int .i64 0] 33 (0, 0))) := by unfold Hid; rw [hP2.out]; exact setRow_heap _ _ _ _ _ _ P13.out
                  have P22 : Hid (P2.heap[G + 1 + 1]? = some (.cells #[.slice A3 n3 c3, .int .i64 5] 94 (0, 0))) := by unfold Hid; rw [hP2.out, setRow_other _ _ _ _ (by omega)]; exact P1o.out
                  have P24 : Hid (P2.heap[G + 1 + 1 + 1 + 1]? = some (.cells #[.slice none 0 0] 30 (0, 0))) := by unfold Hid; rw [hP2.out, setRow_other _ _ _ _ (by omega)]; exact P14.out
                  have BP2 : Hid (Below w.heap.size w P2) := by rw [hP2.out]; exact below_setRow BP1.out (by have := hG.out; omega) _
                  have SP2 : ∀ k, k ∈ [G, G + 1] → P2.heap[k]? = X.heap[k]? := fun k hk => (show P2.heap[k]? = P1.heap[k]? by rw [hP2.out]; exact setRow_other _ _ _ _ (by simp only [List.mem_cons, List.not_mem_nil, or_false] at hk; omega)).trans (hS k hk)
                  refine hK.out _ _ SP2 ?_
                  intro hS2
                  clear hK K hS hS2
                  try simp only [Act.put, List.getElem_toArray, List.getElem_cons_zero, List.getElem_cons_succ, List.setIfInBounds_toArray, List.set_cons_zero, List.set_cons_succ]
                  have hS := SP2
                  refine wpAnyH_ready (rs := [5]) (by kernel_rfl) (by simp) ?_
                  refine AllReadyH.cons rfl (fun K hK => ?_) AllReadyH.nil
                  refine step_store_row 30 (.tmp 6) (.tmp 74) rfl rfl (G + 1 + 1 + 1 + 1) #[.slice none 0 0] rfl (by first | rfl | kernel_rfl) _ _ P24.out (by kernel_rfl) rfl (by kernel_rfl) ?_
                  obtain ⟨P3, hP3⟩ : ∃ W0, Hid (W0 = P2.setRow (G + 1 + 1 + 1 + 1) #[.slice none 0 0]) := ⟨_, Lib.hid rfl⟩
                  rw [← hP3.out]
                  have P3o : Hid (P3.heap[G + 1 + 1 + 1 + 1]? = some (.cells #[.slice none 0 0] 30 (0, 0))) := by unfold Hid; rw [hP3.out]; exact setRow_heap _ _ _ _ _ _ P24.out
                  have P32 : Hid (P3.heap[G + 1 + 1]? = some (.cells #[.slice A3 n3 c3, .int .i64 5] 94 (0, 0))) := by unfold Hid; rw [hP3.out, setRow_other _ _ _ _ (by omega)]; exact P22.out
                  have P33 : Hid (P3.heap[G + 1 + 1 + 1]? = some (.cells #[.slice none 0 0, .int .i64 0] 33 (0, 0))) := by unfold Hid; rw [hP3.out, setRow_other _ _ _ _ (by omega)]; exact P2o.out
                  have BP3 : Hid (Below w.heap.size w P3) := by rw [hP3.out]; exact below_setRow BP2.out (by have := hG.out; omega) _
                  have SP3 : ∀ k, k ∈ [G, G + 1] → P3.heap[k]? = X.heap[k]? := fun k hk => (show P3.heap[k]? = P2.heap[k]? by rw [hP3.out]; exact setRow_other _ _ _ _ (by simp only [List.mem_cons, List.not_mem_nil, or_false] at hk; omega)).trans (hS k hk)
                  refine hK.out _ _ SP3 ?_
                  intro hS2
                  clear hK K hS hS2
                  try simp only [Act.put, List.getElem_toArray, List.getElem_cons_zero, List.getElem_cons_succ, List.setIfInBounds_toArray, List.set_cons_zero, List.set_cons_succ]
                  have hS := SP3
                  refine wpAnyH_done (by kernel_rfl) (NoPanic.normal ?_) _
                  go_wp2_with fail
                  refine bodyPost_ret (v := .tuple #[.agg #[.slice A3 n3 c3, .int .i64 5], .agg #[.slice none 0 0, .int .i64 0], .agg #[.slice none 0 0]]) ?_ rfl ⟨_, _, _, _, _, _, _, _, _, by rw [hpe.out], BP3.out, fun h => absurd h hne.out⟩
                  exact results_ccc Try.results48 rfl rfl rfl (run_loadVar_mid (P := Try.prog) P3 (G + 1 + 1) 0 94 _ _ (range_of P32.out) Try.underlying94 rfl (by kernel_rfl)) (run_loadVar_mid (P := Try.prog) P3 (G + 1 + 1 + 1) 0 33 _ _ (range_of P33.out) Try.underlying33 rfl (by kernel_rfl)) (run_loadVar_mid (P := Try.prog) P3 (G + 1 + 1 + 1 + 1) 0 30 _ _ (range_of P3o.out) Try.underlying30 rfl (by kernel_rfl))
                · have hNl' : ¬ (N : Int) < (last : Int) := by omega
                  have hlF : Hid (lnkF l s last = 0) := lnkF_fine he3.out (by rw [← hN.out]; exact hNl)
                  have l0 := cell_blk RY2.out 0 rfl
                  have l1 := cell_blk RY2.out 1 rfl
                  have l3 := cell_blk RY2.out 3 rfl
                  have l4 := cell_blk RY2.out 4 rfl
                  rw [hGB.out, hY2.out] at l0 l1 l3 l4
                  obtain ⟨Qs, hq⟩ := hQ.out
                  have hqY := hq.fr FY2.out hG1.out
                  obtain ⟨U, hU⟩ : ∃ U, Hid (U = Y2.alloc (.cells #[.int .i64 a, .int .i64 ((i : Int) + 1), .int .i64 N, .slice none 0 0, .slice D 32 dc] 40)) := ⟨_, Lib.hid rfl⟩
                  have BU : Hid (Below Y2.heap.size Y2 U) := by rw [hU.out]; exact (Below.refl _ _).alloc (Nat.le_refl _) _
                  have RH := rowLk Y2 ⟨a, (i : Int) + 1, N, D, 32, dc⟩ 40
                  have hqU := hqY.to BU.out
                  have hml : Hid (m ≤ 500000) := by have h1 := hok.out.len; have h2 := hok.out.at_; have h3 := hl0.out; have h4 := hq.hl; unfold Hid; omega
                  have hUs : Hid (W.heap.size ≤ U.heap.size) := Nat.le_trans FW2.out.size BU.out.size
                  have hYsz : Y2.heap.size = u.heap.size := by rw [hY2.out, ← setRow_size u (G + 1) #[.slice A3 n3 c3, .int .i64 0]]; simp [World.setCell]
                  rw [← hU.out, hYsz] at RH
                  have hgd := lnkF_good hok.out.at_ hlF.out
                  rw [← hN.out] at hgd
                  obtain ⟨_, _, _, _, hN1, hN2, _, _, _⟩ := hgd
                  have hmx := hml.out
                  go_wp2_with (first | (refine wpList_store_row rfl 94 (.tmp 3) (.tmp 56) rfl (G + 1) #[.slice A3 n3 c3, .int .i64 0] rfl rfl _ _ Cu.out (by kernel_rfl) rfl (by kernel_rfl) ?_) | (at_builtin; (rw [← hY2.out, ← hU.out]; refine wpList_app rfl (.tmp 77) (.tmp 79) 134 rfl W.heap.size 40 5 72 _ Try.underlying134 infoLk rfl (by decide) (.slice A m c) m _ rfl hqU.row _ (some ⟨u.heap.size, 0, none⟩) 1 1 (lqC ⟨a, (i : Int) + 1, N, D, 32, dc⟩) rfl RH (lqC_one _) (by simp only [maxLen]; omega) (by omega) hUs.out ?_; intro A6 c6 w6 o6 g6 k6)))
                  have F6 : Hid (Fr [G + 1] W w6 [G + 1]) := (FW2.out.trans (Fr.below BU.out)).tail (below_grown g6 (own_block_ge2 hqU.row) hUs.out)
                  have C6 : Hid (w6.heap[G + 1]? = some (.cells #[.slice A3 n3 c3, .int .i64 0] 94 (0, 0))) := (g6.block (G + 1) (Nat.lt_of_lt_of_le (lt_of_blk CY2.out) BU.out.size) (fun e => by have h1 := own_block_ge2 hqU.row (G + 1) e.symm; have h2 := hWs.out; omega)).trans ((BU.out.block _ (lt_of_blk CY2.out)).trans CY2.out)
                  have Q6 : Hid (∃ Qs, OwnT w W.heap.size w6 A6 (m + 1) c6 (s.L ++ [lnkL l s a i]) Qs) := ⟨_, hqU.snoc (q := ⟨a, (i : Int) + 1, N, D, 32, dc⟩) ⟨rfl, rfl, by show (N : Int) = ((lnkN l s).1 : Nat); rw [hN.out], T2.out, T3.out⟩ o6⟩
                  clear o6 g6 k6 hqU RH hqY hq
                  go_roundw
                  case rel => exact ⟨i + 1, m + 1, A6, c6, ⟨s.L ++ [lnkL l s a i], (lnkN l s).2.1, 0⟩, N, A3, n3, c3, rfl, rfl, by go_num, by omega, by omega, by omega, F6, C6, R3.out, Q6, hok.out.step hlF.out (by omega) i, by have h1 := get_go hpa2.out hlF.out; rw [← hN.out] at h1; exact h1⟩
                  case measure => simp only [intOf]; omega
              · have he3' : (e3 != 0) = true := by simpa using hz
                have he3'' : (e3 == 0) = false := by simpa using hz
                have hlF : Hid (lnkF l s last = e3 ∧ lnkF l s last ≠ 0) := lnkF_bad he3.out hz hl1 hok.out
                clear hz
                go_wp2_with (refine wpList_store_row rfl 94 (.tmp 3) (.tmp 56) rfl (G + 1) #[.slice A3 n3 c3, .int .i64 e3] rfl rfl _ _ Cu.out (by kernel_rfl) rfl (by kernel_rfl) ?_)
                rw [← hY2.out]
                have hpe : Hid ((parse l).e = e3) := by have h1 := get_err hpa2.out hlF.out.2; unfold Hid; rw [h1]; exact hlF.out.1
                have hne : Hid (¬ (parse l).e = 0) := by unfold Hid; have h1 := get_err hpa2.out hlF.out.2; rw [h1]; exact hlF.out.2
                have Y20 : Hid (Y2.heap[G]? = some (.cells #[.slice none 0 0, .int .i64 0] 33 (0, 0))) := (FW2.out.block G (by have := hWs.out; omega) (by simp)).trans C0.out
                have BWY2 : Hid (Below w.heap.size w Y2) := BW.out.trans (FW2.out.toBelow (fun k hk => by simp at hk; rw [hk, hG.out]; exact Nat.le_succ _) BW.out.size)
                obtain ⟨X, hX⟩ : ∃ W, Hid (W = Y2.drew) := ⟨_, Lib.hid rfl⟩
                have dX : Below Y2.heap.size Y2 X := by rw [hX.out]; exact below_drew (Below.refl _ _)
                have XC2 : Hid (X.heap[G + 1 + 1]? = some (.cells #[.slice none 0 0, .int .i64 0] 94 (0, 0))) := (dX.block (G + 1 + 1) (Nat.lt_of_lt_of_le (by have := hWs.out; omega) FW2.out.size)).trans ((FW2.out.block (G + 1 + 1) (by have := hWs.out; omega) (by simp only [List.mem_cons, List.not_mem_nil, or_false]; omega)).trans C2.out)
                have XC3 : Hid (X.heap[G + 1 + 1 + 1]? = some (.cells #[.slice none 0 0, .int .i64 0] 33 (0, 0))) := (dX.block (G + 1 + 1 + 1) (Nat.lt_of_lt_of_le (by have := hWs.out; omega) FW2.out.size)).trans ((FW2.out.block (G + 1 + 1 + 1) (by have := hWs.out; omega) (by simp only [List.mem_cons, List.not_mem_nil, or_false]; omega)).trans C3.out)
                have XC4 : Hid (X.heap[G + 1 + 1 + 1 + 1]? = some (.cells #[.slice none 0 0] 30 (0, 0))) := (dX.block (G + 1 + 1 + 1 + 1) (Nat.lt_of_lt_of_le (by have := hWs.out; omega) FW2.out.size)).trans ((FW2.out.block (G + 1 + 1 + 1 + 1) (by have := hWs.out; omega) (by simp only [List.mem_cons, List.not_mem_nil, or_false]; omega)).trans C4.out)
                have XA : Hid (X.heap[G + 1]? = some (.cells #[.slice A3 n3 c3, .int .i64 e3] 94 (0, 0))) := (dX.block _ (lt_of_blk CY2.out)).trans CY2.out
                have XV : Hid (X.heap[G]? = some (.cells #[.slice none 0 0, .int .i64 0] 33 (0, 0))) := (dX.block _ (lt_of_blk Y20.out)).trans Y20.out
                have BX : Hid (Below w.heap.size w X) := BWY2.out.trans (dX.mono BWY2.out.size)
                refine wp_region_noPanic ?_
                refine wp_region_held_drew (S := fun w' => ∀ k, k ∈ [G, G + 1] → w'.heap[k]? = X.heap[k]?) (by kernel_rfl) (by rw [← hX.out]; exact fun _ _ => rfl) (fun hS => ?_)
                rw [← hX.out]
                clear hS
                have hS : ∀ k, k ∈ [G, G + 1] → X.heap[k]? = X.heap[k]? := fun _ _ => rfl
                refine wpAnyH_take (i := 0) (v := .agg #[.slice A3 n3 c3, .int .i64 e3]) rfl (by kernel_rfl) (by kernel_rfl) (by kernel_rfl) (fun _ _ _ h => h) (Or.inl ⟨by rfl, ?hyqa0⟩) hS ?restqa0
                case hyqa0 => (intro w' hSw; have c0 : w'.cell? ⟨G + 1, 0, none⟩ = some (.slice A3 n3 c3) := cell_blk ((hSw (G + 1) (by simp)).trans XA.out) 0 rfl; have c1 : w'.cell? ⟨G + 1, 1, none⟩ = some (.int .i64 e3) := cell_blk ((hSw (G + 1) (by simp)).trans XA.out) 1 rfl; go_simp; first | done | with_reducible rfl)
                try simp only [Act.put, List.getElem_toArray, List.getElem_cons_zero, List.getElem_cons_succ, List.setIfInBounds_toArray, List.set_cons_zero, List.set_cons_succ]
                refine wpAnyH_take (i := 1) (v := .agg #[.slice none 0 0, .int .i64 0]) rfl (by kernel_rfl) (by kernel_rfl) (by kernel_rfl) (fun _ _ _ h => h) (Or.inl ⟨by rfl, ?hyqa1⟩) hS ?restqa1
                case hyqa1 => (intro w' hSw; have c0 : w'.cell? ⟨G, 0, none⟩ = some (.slice none 0 0) := cell_blk ((hSw (G) (by simp)).trans XV.out) 0 rfl; have c1 : w'.cell? ⟨G, 1, none⟩ = some (.int .i64 0) := cell_blk ((hSw (G) (by simp)).trans XV.out) 1 rfl; go_simp; first | done | with_reducible rfl)
                try simp only [Act.put, List.getElem_toArray, List.getElem_cons_zero, List.getElem_cons_succ, List.setIfInBounds_toArray, List.set_cons_zero, List.set_cons_succ]
                refine wpAnyH_take (i := 2) (v := .agg #[.slice none 0 0]) rfl (by kernel_rfl) (by kernel_rfl) (by kernel_rfl) (fun _ _ _ h => h) (Or.inl ⟨by rfl, ?hyqa2⟩) hS ?restqa2
                case hyqa2 => (intro w' hSw; go_simp; first | done | with_reducible rfl)
                try simp only [Act.put, List.getElem_toArray, List.getElem_cons_zero, List.getElem_cons_succ, List.setIfInBounds_toArray, List.set_cons_zero, List.set_cons_succ]
                refine wpAnyH_ready (rs := [3]) (by kernel_rfl) (by simp) ?_
                refine AllReadyH.cons rfl (fun K hK => ?_) AllReadyH.nil
                refine step_store_row 94 (.tmp 4) (.tmp 72) rfl rfl (G + 1 + 1) #[.slice A3 n3 c3, .int .i64 e3] rfl (by first | rfl | kernel_rfl) _ _ XC2.out (by kernel_rfl) rfl (by kernel_rfl) ?_
                obtain ⟨P1, hP1⟩ : ∃ W0, Hid (W0 = X.setRow (G + 1 + 1) #[.slice A3 n3 c3, .int .i64 e3]) := ⟨_, Lib.hid rfl⟩
                rw [← hP1.out]
                have P1o : Hid (P1.heap[G + 1 + 1]? = some (.cells #[.slice A3 n3 c3, .int .i64 e3] 94 (0, 0))) := by unfold Hid; rw [hP1.out]; exact setRow_heap _ _ _ _ _ _ XC2.out
                have P13 : Hid (P1.heap[G + 1 + 1 + 1]? = some (.cells #[.slice none 0 0, .int .i64 0] 33 (0, 0))) := by unfold Hid; rw [hP1.out, setRow_other _ _ _ _ (by omega)]; exact XC3.out
                have P14 : Hid (P1.heap[G + 1 + 1 + 1 + 1]? = some (.cells #[.slice none 0 0] 30 (0, 0))) := by unfold Hid; rw [hP1.out, setRow_other _ _ _ _ (by omega)]; exact XC4.out
                have BP1 : Hid (Below w.heap.size w P1) := by rw [hP1.out]; exact below_setRow BX.out (by have := hG.out; omega) _
                have SP1 : ∀ k, k ∈ [G, G + 1] → P1.heap[k]? = X.heap[k]? := fun k hk => (show P1.heap[k]? = X.heap[k]? by rw [hP1.out]; exact setRow_other _ _ _ _ (by simp only [List.mem_cons, List.not_mem_nil, or_false] at hk; omega)).trans (hS k hk)
                refine hK.out _ _ SP1 ?_
                intro hS2
                clear hK K hS hS2
                try simp only [Act.put, List.getElem_toArray, List.getElem_cons_zero, List.getElem_cons_succ, List.setIfInBounds_toArray, List.set_cons_zero, List.set_cons_succ]
                have hS := SP1
                refine wpAnyH_ready (rs := [4]) (by kernel_rfl) (by simp) ?_
                refine AllReadyH.cons rfl (fun K hK => ?_) AllReadyH.nil
                refine step_store_row 33 (.tmp 5) (.tmp 73) rfl rfl (G + 1 + 1 + 1) #[.slice none 0 0, .int .i64 0] rfl (by first | rfl | kernel_rfl) _ _ P13.out (by kernel_rfl) rfl (by kernel_rfl) ?_
                obtain ⟨P2, hP2⟩ : ∃ W0, Hid (W0 = P1.setRow (G + 1 + 1 + 1) #[.slice none 0 0, .int .i64 0]) := ⟨_, Lib.hid rfl⟩
                rw [← hP2.out]
                have P2o : Hid (P2.heap[G + 1 + 1 + 1]? = some (.cells #[.slice none 0 0, .int .i64 0] 33 (0, 0))) := by unfold Hid; rw [hP2.out]; exact setRow_heap _ _ _ _ _ _ P13.out
                have P22 : Hid (P2.heap[G + 1 + 1]? = some (.cells #[.slice A3 n3 c3, .int .i64 e3] 94 (0, 0))) := by unfold Hid; rw [hP2.out, setRow_other _ _ _ _ (by omega)]; exact P1o.out
                have P24 : Hid (P2.heap[G + 1 + 1 + 1 + 1]? = some (.cells #[.slice none 0 0] 30 (0, 0))) := by unfold Hid; rw [hP2.out, setRow_other _ _ _ _ (by omega)]; exact P14.out
                have BP2 : Hid (Below w.heap.size w P2) := by rw [hP2.out]; exact below_setRow BP1.out (by have := hG.out; omega) _
                have SP2 : ∀ k, k ∈ [G, G + 1] → P2.heap[k]? = X.heap[k]? := fun k hk => (show P2.heap[k]? = P1.heap[k]? by rw [hP2.out]; exact setRow_other _ _ _ _ (by simp only [List.mem_cons, List.not_mem_nil, or_false] at hk; omega)).trans (hS k hk)
                refine hK.out _ _ SP2 ?_
                intro hS2
                clear hK K hS hS2
                try simp only [Act.put, List.getElem_toArray, List.getElem_cons_zero, List.getElem_cons_succ, List.setIfInBounds_toArray, List.set_cons_zero, List.set_cons_succ]
                have hS := SP2
                refine wpAnyH_ready (rs := [5]) (by kernel_rfl) (by simp) ?_
                refine AllReadyH.cons rfl (fun K hK => ?_) AllReadyH.nil
                refine step_store_row 30 (.tmp 6) (.tmp 74) rfl rfl (G + 1 + 1 + 1 + 1) #[.slice none 0 0] rfl (by first | rfl | kernel_rfl) _ _ P24.out (by kernel_rfl) rfl (by kernel_rfl) ?_
                obtain ⟨P3, hP3⟩ : ∃ W0, Hid (W0 = P2.setRow (G + 1 + 1 + 1 + 1) #[.slice none 0 0]) := ⟨_, Lib.hid rfl⟩
                rw [← hP3.out]
                have P3o : Hid (P3.heap[G + 1 + 1 + 1 + 1]? = some (.cells #[.slice none 0 0] 30 (0, 0))) := by unfold Hid; rw [hP3.out]; exact setRow_heap _ _ _ _ _ _ P24.out
                have P32 : Hid (P3.heap[G + 1 + 1]? = some (.cells #[.slice A3 n3 c3, .int .i64 e3] 94 (0, 0))) := by unfold Hid; rw [hP3.out, setRow_other _ _ _ _ (by omega)]; exact P22.out
                have P33 : Hid (P3.heap[G + 1 + 1 + 1]? = some (.cells #[.slice none 0 0, .int .i64 0] 33 (0, 0))) := by unfold Hid; rw [hP3.out, setRow_other _ _ _ _ (by omega)]; exact P2o.out
                have BP3 : Hid (Below w.heap.size w P3) := by rw [hP3.out]; exact below_setRow BP2.out (by have := hG.out; omega) _
                have SP3 : ∀ k, k ∈ [G, G + 1] → P3.heap[k]? = X.heap[k]? := fun k hk => (show P3.heap[k]? = P2.heap[k]? by rw [hP3.out]; exact setRow_other _ _ _ _ (by simp only [List.mem_cons, List.not_mem_nil, or_false] at hk; omega)).trans (hS k hk)
                refine hK.out _ _ SP3 ?_
                intro hS2
                clear hK K hS hS2
                try simp only [Act.put, List.getElem_toArray, List.getElem_cons_zero, List.getElem_cons_succ, List.setIfInBounds_toArray, List.set_cons_zero, List.set_cons_succ]
                have hS := SP3
                refine wpAnyH_done (by kernel_rfl) (NoPanic.normal ?_) _
                go_wp2_with fail
                refine bodyPost_ret (v := .tuple #[.agg #[.slice A3 n3 c3, .int .i64 e3], .agg #[.slice none 0 0, .int .i64 0], .agg #[.slice none 0 0]]) ?_ rfl ⟨_, _, _, _, _, _, _, _, _, by rw [hpe.out], BP3.out, fun h => absurd h hne.out⟩
                exact results_ccc Try.results48 rfl rfl rfl (run_loadVar_mid (P := Try.prog) P3 (G + 1 + 1) 0 94 _ _ (range_of P32.out) Try.underlying94 rfl (by kernel_rfl)) (run_loadVar_mid (P := Try.prog) P3 (G + 1 + 1 + 1) 0 33 _ _ (range_of P33.out) Try.underlying33 rfl (by kernel_rfl)) (run_loadVar_mid (P := Try.prog) P3 (G + 1 + 1 + 1 + 1) 0 30 _ _ (range_of P3o.out) Try.underlying30 rfl (by kernel_rfl))
            · have h32' : ((dn : Int) != 32) = true := by simp; omega
              have hLE : Hid (lnkE l s = 5) := by unfold lnkE Hid; rw [if_neg (by rw [hdn.out]; exact h32), ← hE2.out]; rfl
              have hnn : Hid (numS l (lnkT l s).2.1 5 1 65536 = lnkN l s) := by unfold lnkN Hid; rw [hLE.out]
              have RY' : Hid (Y.heap[GB]? = some (.cells #[.int .i64 a, .int .i64 ((i : Int) + 1), .int .i64 0, .slice none 0 0, .slice D dn dc] 40 (0, 0))) := RY.out
              have v3 : (Y.setCell ⟨G + 1, 1, none⟩ (.int .i64 5)).heap[G + 1]? = some (.cells #[.slice A2 n2 c2, .int .i64 5] 94 (0, 0)) := heap_set CY.out (.int .i64 5)
              have yf := frozen_blk CY.out 1
              obtain ⟨YB, hYB⟩ : ∃ Z, Hid (Z = Y.setCell ⟨G + 1, 1, none⟩ (.int .i64 5)) := ⟨_, Lib.hid rfl⟩
              have v0 := cell_blk v3 0 rfl
              have v1 := cell_blk v3 1 rfl
              rw [← hYB.out] at v3
              have CYB := Lib.hid v3
              have hYB' := Lib.hid hYB.out
              rw [hY.out] at hYB' v0 v1 yf
              clear v3
              have fYB : Fr [G + 1] Y YB [G + 1] := by rw [hYB.out]; exact setCell_fr _ _ _ _
              have RYB : Hid (YB.heap[GB]? = some (.cells #[.int .i64 a, .int .i64 ((i : Int) + 1), .int .i64 0, .slice none 0 0, .slice D dn dc] 40 (0, 0))) := (fYB.block GB (lt_of_blk RY'.out) (by simp; exact fun e => hGGB.out e.symm)).trans RY'.out
              have FYB : Hid (Fr [G + 1] wr YB [G + 1]) := FY.out.trans fYB
              clear fYB
              go_wp2_with (refine wpList_store_row rfl 94 (.tmp 3) (.tmp 40) rfl (G + 1) #[.slice A2 n2 c2, .int .i64 0] rfl rfl _ _ C2'.out (by kernel_rfl) rfl (by kernel_rfl) ?_)
              rw [← hYB'.out]
              clear p1 p2 y0 y1 y4 hrow2 v0 v1 yf
              have BWY : Hid (Below w.heap.size w YB) := BW.out.trans ((hF.out.trans FYB.out).toBelow (fun k hk => by simp at hk; rw [hk, hG.out]; exact Nat.le_succ _) BW.out.size)
              refine (rnum_ w A2 n2 c2 l (lnkT l s).2.1 5 1 65536 YB R2.out BWY.out).mono ?_
              rintro r u ⟨A3, n3, c3, rfl, r3, b3⟩
              rw [hnn.out] at r3 ⊢
              obtain ⟨N, hN⟩ : ∃ N, Hid (N = (lnkN l s).1) := ⟨_, Lib.hid rfl⟩
              obtain ⟨e3, he3⟩ : ∃ e, Hid (e = (lnkN l s).2.2) := ⟨_, Lib.hid rfl⟩
              rw [← hN.out, ← he3.out]
              have R3 := Lib.hid r3
              have B3 := Lib.hid b3
              clear r3 b3
              have Cu : Hid (u.heap[G + 1]? = some (.cells #[.slice A2 n2 c2, .int .i64 5] 94 (0, 0))) := (B3.out.block _ (lt_of_blk CYB.out)).trans CYB.out
              have Ru : Hid (u.heap[GB]? = some (.cells #[.int .i64 a, .int .i64 ((i : Int) + 1), .int .i64 0, .slice none 0 0, .slice D dn dc] 40 (0, 0))) := (B3.out.block _ (lt_of_blk RYB.out)).trans RYB.out
              have hrow3 := setRow_heap _ _ _ #[.slice A3 n3 c3, .int .i64 e3] _ _ Cu.out
              obtain ⟨p1, p2, p3, p4, p5⟩ := two_st (v := .int .i64 N) (j := 2) Cu.out Ru.out hGGB.out rfl hrow3
              obtain ⟨Y2, hY2⟩ : ∃ Y, Hid (Y = (u.setRow (G + 1) #[.slice A3 n3 c3, .int .i64 e3]).setCell ⟨GB, 2, none⟩ (.int .i64 N)) := ⟨_, Lib.hid rfl⟩
              have z1 := cell_blk p3 1 rfl
              have f1 := frozen_blk p3 1
              have z2 := cell_blk p4 2 rfl
              rw [← hY2.out] at p3 p4 p5
              rw [hGB.out] at p1 p2 z1 z2 f1 hY2
              have CY2 := Lib.hid p3
              have RY2 : Hid (Y2.heap[GB]? = some (.cells #[.int .i64 a, .int .i64 ((i : Int) + 1), .int .i64 N, .slice none 0 0, .slice D dn dc] 40 (0, 0))) := p4
              have FY2 : Hid (Fr [G + 1] wr Y2 [G + 1]) := (FYB.out.trans (Fr.below B3.out)).two p5 (by rw [hGB.out]; exact Nat.le_refl _)
              have FW2 : Hid (Fr [G + 1] W Y2 [G + 1]) := hF.out.trans FY2.out
              clear p3 p4 p5 hrow3
              have hz : e3 ≠ 0 := by have h1 := hnn.out; rw [numS_err l _ (by decide) 1 65536] at h1; rw [he3.out, ← h1]; exact (by decide : (5 : Int) ≠ 0)
              have he3' : (e3 != 0) = true := by simpa using hz
              have he3'' : (e3 == 0) = false := by simpa using hz
              have hlF : Hid (lnkF l s last = e3 ∧ lnkF l s last ≠ 0) := lnkF_bad he3.out hz hl1 hok.out
              clear hz
              go_wp2_with (refine wpList_store_row rfl 94 (.tmp 3) (.tmp 56) rfl (G + 1) #[.slice A3 n3 c3, .int .i64 e3] rfl rfl _ _ Cu.out (by kernel_rfl) rfl (by kernel_rfl) ?_)
              rw [← hY2.out]
              have hpe : Hid ((parse l).e = e3) := by have h1 := get_err hpa2.out hlF.out.2; unfold Hid; rw [h1]; exact hlF.out.1
              have hne : Hid (¬ (parse l).e = 0) := by unfold Hid; have h1 := get_err hpa2.out hlF.out.2; rw [h1]; exact hlF.out.2
              have Y20 : Hid (Y2.heap[G]? = some (.cells #[.slice none 0 0, .int .i64 0] 33 (0, 0))) := (FW2.out.block G (by have := hWs.out; omega) (by simp)).trans C0.out
              have BWY2 : Hid (Below w.heap.size w Y2) := BW.out.trans (FW2.out.toBelow (fun k hk => by simp at hk; rw [hk, hG.out]; exact Nat.le_succ _) BW.out.size)
              obtain ⟨X, hX⟩ : ∃ W, Hid (W = Y2.drew) := ⟨_, Lib.hid rfl⟩
              have dX : Below Y2.heap.size Y2 X := by rw [hX.out]; exact below_drew (Below.refl _ _)
              have XC2 : Hid (X.heap[G + 1 + 1]? = some (.cells #[.slice none 0 0, .int .i64 0] 94 (0, 0))) := (dX.block (G + 1 + 1) (Nat.lt_of_lt_of_le (by have := hWs.out; omega) FW2.out.size)).trans ((FW2.out.block (G + 1 + 1) (by have := hWs.out; omega) (by simp only [List.mem_cons, List.not_mem_nil, or_false]; omega)).trans C2.out)
              have XC3 : Hid (X.heap[G + 1 + 1 + 1]? = some (.cells #[.slice none 0 0, .int .i64 0] 33 (0, 0))) := (dX.block (G + 1 + 1 + 1) (Nat.lt_of_lt_of_le (by have := hWs.out; omega) FW2.out.size)).trans ((FW2.out.block (G + 1 + 1 + 1) (by have := hWs.out; omega) (by simp only [List.mem_cons, List.not_mem_nil, or_false]; omega)).trans C3.out)
              have XC4 : Hid (X.heap[G + 1 + 1 + 1 + 1]? = some (.cells #[.slice none 0 0] 30 (0, 0))) := (dX.block (G + 1 + 1 + 1 + 1) (Nat.lt_of_lt_of_le (by have := hWs.out; omega) FW2.out.size)).trans ((FW2.out.block (G + 1 + 1 + 1 + 1) (by have := hWs.out; omega) (by simp only [List.mem_cons, List.not_mem_nil, or_false]; omega)).trans C4.out)
              have XA : Hid (X.heap[G + 1]? = some (.cells #[.slice A3 n3 c3, .int .i64 e3] 94 (0, 0))) := (dX.block _ (lt_of_blk CY2.out)).trans CY2.out
              have XV : Hid (X.heap[G]? = some (.cells #[.slice none 0 0, .int .i64 0] 33 (0, 0))) := (dX.block _ (lt_of_blk Y20.out)).trans Y20.out
              have BX : Hid (Below w.heap.size w X) := BWY2.out.trans (dX.mono BWY2.out.size)
              refine wp_region_noPanic ?_
              refine wp_region_held_drew (S := fun w' => ∀ k, k ∈ [G, G + 1] → w'.heap[k]? = X.heap[k]?) (by kernel_rfl) (by rw [← hX.out]; exact fun _ _ => rfl) (fun hS => ?_)
              rw [← hX.out]
              clear hS
              have hS : ∀ k, k ∈ [G, G + 1] → X.heap[k]? = X.heap[k]? := fun _ _ => rfl
              refine wpAnyH_take (i := 0) (v := .agg #[.slice A3 n3 c3, .int .i64 e3]) rfl (by kernel_rfl) (by kernel_rfl) (by kernel_rfl) (fun _ _ _ h => h) (Or.inl ⟨by rfl, ?hyqc0⟩) hS ?restqc0
              case hyqc0 => (intro w' hSw; have c0 : w'.cell? ⟨G + 1, 0, none⟩ = some (.slice A3 n3 c3) := cell_blk ((hSw (G + 1) (by simp)).trans XA.out) 0 rfl; have c1 : w'.cell? ⟨G + 1, 1, none⟩ = some (.int .i64 e3) := cell_blk ((hSw (G + 1) (by simp)).trans XA.out) 1 rfl; go_simp; first | done | with_reducible rfl)
              try simp only [Act.put, List.getElem_toArray, List.getElem_cons_zero, List.getElem_cons_succ, List.setIfInBounds_toArray, List.set_cons_zero, List.set_cons_succ]
              refine wpAnyH_take (i := 1) (v := .agg #[.slice none 0 0, .int .i64 0]) rfl (by kernel_rfl) (by kernel_rfl) (by kernel_rfl) (fun _ _ _ h => h) (Or.inl ⟨by rfl, ?hyqc1⟩) hS ?restqc1
              case hyqc1 => (intro w' hSw; have c0 : w'.cell? ⟨G, 0, none⟩ = some (.slice none 0 0) := cell_blk ((hSw (G) (by simp)).trans XV.out) 0 rfl; have c1 : w'.cell? ⟨G, 1, none⟩ = some (.int .i64 0) := cell_blk ((hSw (G) (by simp)).trans XV.out) 1 rfl; go_simp; first | done | with_reducible rfl)
              try simp only [Act.put, List.getElem_toArray, List.getElem_cons_zero, List.getElem_cons_succ, List.setIfInBounds_toArray, List.set_cons_zero, List.set_cons_succ]
              refine wpAnyH_take (i := 2) (v := .agg #[.slice none 0 0]) rfl (by kernel_rfl) (by kernel_rfl) (by kernel_rfl) (fun _ _ _ h => h) (Or.inl ⟨by rfl, ?hyqc2⟩) hS ?restqc2
              case hyqc2 => (intro w' hSw; go_simp; first | done | with_reducible rfl)
              try simp only [Act.put, List.getElem_toArray, List.getElem_cons_zero, List.getElem_cons_succ, List.setIfInBounds_toArray, List.set_cons_zero, List.set_cons_succ]
              refine wpAnyH_ready (rs := [3]) (by kernel_rfl) (by simp) ?_
              refine AllReadyH.cons rfl (fun K hK => ?_) AllReadyH.nil
              refine step_store_row 94 (.tmp 4) (.tmp 72) rfl rfl (G + 1 + 1) #[.slice A3 n3 c3, .int .i64 e3] rfl (by first | rfl | kernel_rfl) _ _ XC2.out (by kernel_rfl) rfl (by kernel_rfl) ?_
              obtain ⟨P1, hP1⟩ : ∃ W0, Hid (W0 = X.setRow (G + 1 + 1) #[.slice A3 n3 c3, .int .i64 e3]) := ⟨_, Lib.hid rfl⟩
              rw [← hP1.out]
              have P1o : Hid (P1.heap[G + 1 + 1]? = some (.cells #[.slice A3 n3 c3, .int .i64 e3] 94 (0, 0))) := by unfold Hid; rw [hP1.out]; exact setRow_heap _ _ _ _ _ _ XC2.out
              have P13 : Hid (P1.heap[G + 1 + 1 + 1]? = some (.cells #[.slice none 0 0, .int .i64 0] 33 (0, 0))) := by unfold Hid; rw [hP1.out, setRow_other _ _ _ _ (by omega)]; exact XC3.out
              have P14 : Hid (P1.heap[G + 1 + 1 + 1 + 1]? = some (.cells #[.slice none 0 0] 30 (0, 0))) := by unfold Hid; rw [hP1.out, setRow_other _ _ _ _ (by omega)]; exact XC4.out
              have BP1 : Hid (Below w.heap.size w P1) := by rw [hP1.out]; exact below_setRow BX.out (by have := hG.out; omega) _
              have SP1 : ∀ k, k ∈ [G, G + 1] → P1.heap[k]? = X.heap[k]? := fun k hk => (show P1.heap[k]? = X.heap[k]? by rw [hP1.out]; exact setRow_other _ _ _ _ (by simp only [List.mem_cons, List.not_mem_nil, or_false] at hk; omega)).trans (hS k hk)
              refine hK.out _ _ SP1 ?_
              intro hS2
              clear hK K hS hS2
              try simp only [Act.put, List.getElem_toArray, List.getElem_cons_zero, List.getElem_cons_succ, List.setIfInBounds_toArray, List.set_cons_zero, List.set_cons_succ]
              have hS := SP1
              refine wpAnyH_ready (rs := [4]) (by kernel_rfl) (by simp) ?_
              refine AllReadyH.cons rfl (fun K hK => ?_) AllReadyH.nil
              refine step_store_row 33 (.tmp 5) (.tmp 73) rfl rfl (G + 1 + 1 + 1) #[.slice none 0 0, .int .i64 0] rfl (by first | rfl | kernel_rfl) _ _ P13.out (by kernel_rfl) rfl (by kernel_rfl) ?_
              obtain ⟨P2, hP2⟩ : ∃ W0, Hid (W0 = P1.setRow (G + 1 + 1 + 1) #[.slice none 0 0, .int .i64 0]) := ⟨_, Lib.hid rfl⟩
              rw [← hP2.out]
              have P2o : Hid (P2.heap[G + 1 + 1 + 1]? = some (.cells #[.slice none 0 0, .int .i64 0] 33 (0, 0))) := by unfold Hid; rw [hP2.out]; exact setRow_heap _ _ _ _ _ _ P13.out
              have P22 : Hid (P2.heap[G + 1 + 1]? = some (.cells #[.slice A3 n3 c3, .int .i64 e3] 94 (0, 0))) := by unfold Hid; rw [hP2.out, setRow_other _ _ _ _ (by omega)]; exact P1o.out
              have P24 : Hid (P2.heap[G + 1 + 1 + 1 + 1]? = some (.cells #[.slice none 0 0] 30 (0, 0))) := by unfold Hid; rw [hP2.out, setRow_other _ _ _ _ (by omega)]; exact P14.out
              have BP2 : Hid (Below w.heap.size w P2) := by rw [hP2.out]; exact below_setRow BP1.out (by have := hG.out; omega) _
              have SP2 : ∀ k, k ∈ [G, G + 1] → P2.heap[k]? = X.heap[k]? := fun k hk => (show P2.heap[k]? = P1.heap[k]? by rw [hP2.out]; exact setRow_other _ _ _ _ (by simp only [List.mem_cons, List.not_mem_nil, or_false] at hk; omega)).trans (hS k hk)
              refine hK.out _ _ SP2 ?_
              intro hS2
              clear hK K hS hS2
              try simp only [Act.put, List.getElem_toArray, List.getElem_cons_zero, List.getElem_cons_succ, List.setIfInBounds_toArray, List.set_cons_zero, List.set_cons_succ]
              have hS := SP2
              refine wpAnyH_ready (rs := [5]) (by kernel_rfl) (by simp) ?_
              refine AllReadyH.cons rfl (fun K hK => ?_) AllReadyH.nil
              refine step_store_row 30 (.tmp 6) (.tmp 74) rfl rfl (G + 1 + 1 + 1 + 1) #[.slice none 0 0] rfl (by first | rfl | kernel_rfl) _ _ P24.out (by kernel_rfl) rfl (by kernel_rfl) ?_
              obtain ⟨P3, hP3⟩ : ∃ W0, Hid (W0 = P2.setRow (G + 1 + 1 + 1 + 1) #[.slice none 0 0]) := ⟨_, Lib.hid rfl⟩
              rw [← hP3.out]
              have P3o : Hid (P3.heap[G + 1 + 1 + 1 + 1]? = some (.cells #[.slice none 0 0] 30 (0, 0))) := by unfold Hid; rw [hP3.out]; exact setRow_heap _ _ _ _ _ _ P24.out
              have P32 : Hid (P3.heap[G + 1 + 1]? = some (.cells #[.slice A3 n3 c3, .int .i64 e3] 94 (0, 0))) := by unfold Hid; rw [hP3.out, setRow_other _ _ _ _ (by omega)]; exact P22.out
              have P33 : Hid (P3.heap[G + 1 + 1 + 1]? = some (.cells #[.slice none 0 0, .int .i64 0] 33 (0, 0))) := by unfold Hid; rw [hP3.out, setRow_other _ _ _ _ (by omega)]; exact P2o.out
              have BP3 : Hid (Below w.heap.size w P3) := by rw [hP3.out]; exact below_setRow BP2.out (by have := hG.out; omega) _
              have SP3 : ∀ k, k ∈ [G, G + 1] → P3.heap[k]? = X.heap[k]? := fun k hk => (show P3.heap[k]? = P2.heap[k]? by rw [hP3.out]; exact setRow_other _ _ _ _ (by simp only [List.mem_cons, List.not_mem_nil, or_false] at hk; omega)).trans (hS k hk)
              refine hK.out _ _ SP3 ?_
              intro hS2
              clear hK K hS hS2
              try simp only [Act.put, List.getElem_toArray, List.getElem_cons_zero, List.getElem_cons_succ, List.setIfInBounds_toArray, List.set_cons_zero, List.set_cons_succ]
              have hS := SP3
              refine wpAnyH_done (by kernel_rfl) (NoPanic.normal ?_) _
              go_wp2_with fail
              refine bodyPost_ret (v := .tuple #[.agg #[.slice A3 n3 c3, .int .i64 e3], .agg #[.slice none 0 0, .int .i64 0], .agg #[.slice none 0 0]]) ?_ rfl ⟨_, _, _, _, _, _, _, _, _, by rw [hpe.out], BP3.out, fun h => absurd h hne.out⟩
              exact results_ccc Try.results48 rfl rfl rfl (run_loadVar_mid (P := Try.prog) P3 (G + 1 + 1) 0 94 _ _ (range_of P32.out) Try.underlying94 rfl (by kernel_rfl)) (run_loadVar_mid (P := Try.prog) P3 (G + 1 + 1 + 1) 0 33 _ _ (range_of P33.out) Try.underlying33 rfl (by kernel_rfl)) (run_loadVar_mid (P := Try.prog) P3 (G + 1 + 1 + 1 + 1) 0 30 _ _ (range_of P3o.out) Try.underlying30 rfl (by kernel_rfl))
          · have hE' : (E2 == 0) = false := by simpa using hE
            have hLE : Hid (lnkE l s = E2) := by unfold lnkE failS Hid; rw [← hE2.out, if_neg hE, ite_self]
            have hnn : Hid (numS l (lnkT l s).2.1 E2 1 65536 = lnkN l s) := by unfold lnkN Hid; rw [hLE.out]
            have hE3 := Lib.hid hE
            clear hE
            have RY' : Hid (Y.heap[GB]? = some (.cells #[.int .i64 a, .int .i64 ((i : Int) + 1), .int .i64 0, .slice none 0 0, .slice D dn dc] 40 (0, 0))) := RY.out
            go_wp2_with (refine wpList_store_row rfl 94 (.tmp 3) (.tmp 40) rfl (G + 1) #[.slice A2 n2 c2, .int .i64 E2] rfl rfl _ _ C2'.out (by kernel_rfl) rfl (by kernel_rfl) ?_)
            rw [← hY.out]
            clear p1 p2 y0 y1 y4 hrow2
            have BWY : Hid (Below w.heap.size w Y) := BW.out.trans ((hF.out.trans FY.out).toBelow (fun k hk => by simp at hk; rw [hk, hG.out]; exact Nat.le_succ _) BW.out.size)
            refine (rnum_ w A2 n2 c2 l (lnkT l s).2.1 E2 1 65536 Y R2.out BWY.out).mono ?_
            rintro r u ⟨A3, n3, c3, rfl, r3, b3⟩
            rw [hnn.out] at r3 ⊢
            obtain ⟨N, hN⟩ : ∃ N, Hid (N = (lnkN l s).1) := ⟨_, Lib.hid rfl⟩
            obtain ⟨e3, he3⟩ : ∃ e, Hid (e = (lnkN l s).2.2) := ⟨_, Lib.hid rfl⟩
            rw [← hN.out, ← he3.out]
            have R3 := Lib.hid r3
            have B3 := Lib.hid b3
            clear r3 b3
            have Cu : Hid (u.heap[G + 1]? = some (.cells #[.slice A2 n2 c2, .int .i64 E2] 94 (0, 0))) := (B3.out.block _ (lt_of_blk CY.out)).trans CY.out
            have Ru : Hid (u.heap[GB]? = some (.cells #[.int .i64 a, .int .i64 ((i : Int) + 1), .int .i64 0, .slice none 0 0, .slice D dn dc] 40 (0, 0))) := (B3.out.block _ (lt_of_blk RY'.out)).trans RY'.out
            have hrow3 := setRow_heap _ _ _ #[.slice A3 n3 c3, .int .i64 e3] _ _ Cu.out
            obtain ⟨p1, p2, p3, p4, p5⟩ := two_st (v := .int .i64 N) (j := 2) Cu.out Ru.out hGGB.out rfl hrow3
            obtain ⟨Y2, hY2⟩ : ∃ Y, Hid (Y = (u.setRow (G + 1) #[.slice A3 n3 c3, .int .i64 e3]).setCell ⟨GB, 2, none⟩ (.int .i64 N)) := ⟨_, Lib.hid rfl⟩
            have z1 := cell_blk p3 1 rfl
            have f1 := frozen_blk p3 1
            have z2 := cell_blk p4 2 rfl
            rw [← hY2.out] at p3 p4 p5
            rw [hGB.out] at p1 p2 z1 z2 f1 hY2
            have CY2 := Lib.hid p3
            have RY2 : Hid (Y2.heap[GB]? = some (.cells #[.int .i64 a, .int .i64 ((i : Int) + 1), .int .i64 N, .slice none 0 0, .slice D dn dc] 40 (0, 0))) := p4
            have FY2 : Hid (Fr [G + 1] wr Y2 [G + 1]) := (FY.out.trans (Fr.below B3.out)).two p5 (by rw [hGB.out]; exact Nat.le_refl _)
            have FW2 : Hid (Fr [G + 1] W Y2 [G + 1]) := hF.out.trans FY2.out
            clear p3 p4 p5 hrow3
            have hz : e3 ≠ 0 := by have h1 := hnn.out; rw [numS_err l _ hE3.out 1 65536] at h1; rw [he3.out, ← h1]; exact hE3.out
            have he3' : (e3 != 0) = true := by simpa using hz
            have he3'' : (e3 == 0) = false := by simpa using hz
            have hlF : Hid (lnkF l s last = e3 ∧ lnkF l s last ≠ 0) := lnkF_bad he3.out hz hl1 hok.out
            clear hz
            go_wp2_with (refine wpList_store_row rfl 94 (.tmp 3) (.tmp 56) rfl (G + 1) #[.slice A3 n3 c3, .int .i64 e3] rfl rfl _ _ Cu.out (by kernel_rfl) rfl (by kernel_rfl) ?_)
            rw [← hY2.out]
            have hpe : Hid ((parse l).e = e3) := by have h1 := get_err hpa2.out hlF.out.2; unfold Hid; rw [h1]; exact hlF.out.1
            have hne : Hid (¬ (parse l).e = 0) := by unfold Hid; have h1 := get_err hpa2.out hlF.out.2; rw [h1]; exact hlF.out.2
            have Y20 : Hid (Y2.heap[G]? = some (.cells #[.slice none 0 0, .int .i64 0] 33 (0, 0))) := (FW2.out.block G (by have := hWs.out; omega) (by simp)).trans C0.out
            have BWY2 : Hid (Below w.heap.size w Y2) := BW.out.trans (FW2.out.toBelow (fun k hk => by simp at hk; rw [hk, hG.out]; exact Nat.le_succ _) BW.out.size)
            obtain ⟨X, hX⟩ : ∃ W, Hid (W = Y2.drew) := ⟨_, Lib.hid rfl⟩
            have dX : Below Y2.heap.size Y2 X := by rw [hX.out]; exact below_drew (Below.refl _ _)
            have XC2 : Hid (X.heap[G + 1 + 1]? = some (.cells #[.slice none 0 0, .int .i64 0] 94 (0, 0))) := (dX.block (G + 1 + 1) (Nat.lt_of_lt_of_le (by have := hWs.out; omega) FW2.out.size)).trans ((FW2.out.block (G + 1 + 1) (by have := hWs.out; omega) (by simp only [List.mem_cons, List.not_mem_nil, or_false]; omega)).trans C2.out)
            have XC3 : Hid (X.heap[G + 1 + 1 + 1]? = some (.cells #[.slice none 0 0, .int .i64 0] 33 (0, 0))) := (dX.block (G + 1 + 1 + 1) (Nat.lt_of_lt_of_le (by have := hWs.out; omega) FW2.out.size)).trans ((FW2.out.block (G + 1 + 1 + 1) (by have := hWs.out; omega) (by simp only [List.mem_cons, List.not_mem_nil, or_false]; omega)).trans C3.out)
            have XC4 : Hid (X.heap[G + 1 + 1 + 1 + 1]? = some (.cells #[.slice none 0 0] 30 (0, 0))) := (dX.block (G + 1 + 1 + 1 + 1) (Nat.lt_of_lt_of_le (by have := hWs.out; omega) FW2.out.size)).trans ((FW2.out.block (G + 1 + 1 + 1 + 1) (by have := hWs.out; omega) (by simp only [List.mem_cons, List.not_mem_nil, or_false]; omega)).trans C4.out)
            have XA : Hid (X.heap[G + 1]? = some (.cells #[.slice A3 n3 c3, .int .i64 e3] 94 (0, 0))) := (dX.block _ (lt_of_blk CY2.out)).trans CY2.out
            have XV : Hid (X.heap[G]? = some (.cells #[.slice none 0 0, .int .i64 0] 33 (0, 0))) := (dX.block _ (lt_of_blk Y20.out)).trans Y20.out
            have BX : Hid (Below w.heap.size w X) := BWY2.out.trans (dX.mono BWY2.out.size)
            refine wp_region_noPanic ?_
            refine wp_region_held_drew (S := fun w' => ∀ k, k ∈ [G, G + 1] → w'.heap[k]? = X.heap[k]?) (by kernel_rfl) (by rw [← hX.out]; exact fun _ _ => rfl) (fun hS => ?_)
            rw [← hX.out]
            clear hS
            have hS : ∀ k, k ∈ [G, G + 1] → X.heap[k]? = X.heap[k]? := fun _ _ => rfl
            refine wpAnyH_take (i := 0) (v := .agg #[.slice A3 n3 c3, .int .i64 e3]) rfl (by kernel_rfl) (by kernel_rfl) (by kernel_rfl) (fun _ _ _ h => h) (Or.inl ⟨by rfl, ?hyqd0⟩) hS ?restqd0
            case hyqd0 => (intro w' hSw; have c0 : w'.cell? ⟨G + 1, 0, none⟩ = some (.slice A3 n3 c3) := cell_blk ((hSw (G + 1) (by simp)).trans XA.out) 0 rfl; have c1 : w'.cell? ⟨G + 1, 1, none⟩ = some (.int .i64 e3) := cell_blk ((hSw (G + 1) (by simp)).trans XA.out) 1 rfl; go_simp; first | done | with_reducible rfl)
            try simp only [Act.put, List.getElem_toArray, List.getElem_cons_zero, List.getElem_cons_succ, List.setIfInBounds_toArray, List.set_cons_zero, List.set_cons_succ]
            refine wpAnyH_take (i := 1) (v := .agg #[.slice none 0 0, .int .i64 0]) rfl (by kernel_rfl) (by kernel_rfl) (by kernel_rfl) (fun _ _ _ h => h) (Or.inl ⟨by rfl, ?hyqd1⟩) hS ?restqd1
            case hyqd1 => (intro w' hSw; have c0 : w'.cell? ⟨G, 0, none⟩ = some (.slice none 0 0) := cell_blk ((hSw (G) (by simp)).trans XV.out) 0 rfl; have c1 : w'.cell? ⟨G, 1, none⟩ = some (.int .i64 0) := cell_blk ((hSw (G) (by simp)).trans XV.out) 1 rfl; go_simp; first | done | with_reducible rfl)
            try simp only [Act.put, List.getElem_toArray, List.getElem_cons_zero, List.getElem_cons_succ, List.setIfInBounds_toArray, List.set_cons_zero, List.set_cons_succ]
            refine wpAnyH_take (i := 2) (v := .agg #[.slice none 0 0]) rfl (by kernel_rfl) (by kernel_rfl) (by kernel_rfl) (fun _ _ _ h => h) (Or.inl ⟨by rfl, ?hyqd2⟩) hS ?restqd2
            case hyqd2 => (intro w' hSw; go_simp; first | done | with_reducible rfl)
            try simp only [Act.put, List.getElem_toArray, List.getElem_cons_zero, List.getElem_cons_succ, List.setIfInBounds_toArray, List.set_cons_zero, List.set_cons_succ]
            refine wpAnyH_ready (rs := [3]) (by kernel_rfl) (by simp) ?_
            refine AllReadyH.cons rfl (fun K hK => ?_) AllReadyH.nil
            refine step_store_row 94 (.tmp 4) (.tmp 72) rfl rfl (G + 1 + 1) #[.slice A3 n3 c3, .int .i64 e3] rfl (by first | rfl | kernel_rfl) _ _ XC2.out (by kernel_rfl) rfl (by kernel_rfl) ?_
            obtain ⟨P1, hP1⟩ : ∃ W0, Hid (W0 = X.setRow (G + 1 + 1) #[.slice A3 n3 c3, .int .i64 e3]) := ⟨_, Lib.hid rfl⟩
            rw [← hP1.out]
            have P1o : Hid (P1.heap[G + 1 + 1]? = some (.cells #[.slice A3 n3 c3, .int .i64 e3] 94 (0, 0))) := by unfold Hid; rw [hP1.out]; exact setRow_heap _ _ _ _ _ _ XC2.out
            have P13 : Hid (P1.heap[G + 1 + 1 + 1]? = some (.cells #[.slice none 0 0, .int .i64 0] 33 (0, 0))) := by unfold Hid; rw [hP1.out, setRow_other _ _ _ _ (by omega)]; exact XC3.out
            have P14 : Hid (P1.heap[G + 1 + 1 + 1 + 1]? = some (.cells #[.slice none 0 0] 30 (0, 0))) := by unfold Hid; rw [hP1.out, setRow_other _ _ _ _ (by omega)]; exact XC4.out
            have BP1 : Hid (Below w.heap.size w P1) := by rw [hP1.out]; exact below_setRow BX.out (by have := hG.out; omega) _
            have SP1 : ∀ k, k ∈ [G, G + 1] → P1.heap[k]? = X.heap[k]? := fun k hk => (show P1.heap[k]? = X.heap[k]? by rw [hP1.out]; exact setRow_other _ _ _ _ (by simp only [List.mem_cons, List.not_mem_nil, or_false] at hk; omega)).trans (hS k hk)
            refine hK.out _ _ SP1 ?_
            intro hS2
            clear hK K hS hS2
            try simp only [Act.put, List.getElem_toArray, List.getElem_cons_zero, List.getElem_cons_succ, List.setIfInBounds_toArray, List.set_cons_zero, List.set_cons_succ]
            have hS := SP1
            refine wpAnyH_ready (rs := [4]) (by kernel_rfl) (by simp) ?_
            refine AllReadyH.cons rfl (fun K hK => ?_) AllReadyH.nil
            refine step_store_row 33 (.tmp 5) (.tmp 73) rfl rfl (G + 1 + 1 + 1) #[.slice none 0 0, .int .i64 0] rfl (by first | rfl | kernel_rfl) _ _ P13.out (by kernel_rfl) rfl (by kernel_rfl) ?_
            obtain ⟨P2, hP2⟩ : ∃ W0, Hid (W0 = P1.setRow (G + 1 + 1 + 1) #[.slice none 0 0, .int .i64 0]) := ⟨_, Lib.hid rfl⟩
            rw [← hP2.out]
            have P2o : Hid (P2.heap[G + 1 + 1 + 1]? = some (.cells #[.slice none 0 0, .int .i64 0] 33 (0, 0))) := by unfold Hid; rw [hP2.out]; exact setRow_heap _ _ _ _ _ _ P13.out
            have P22 : Hid (P2.heap[G + 1 + 1]? = some (.cells #[.slice A3 n3 c3, .int .i64 e3] 94 (0, 0))) := by unfold Hid; rw [hP2.out, setRow_other _ _ _ _ (by omega)]; exact P1o.out
            have P24 : Hid (P2.heap[G + 1 + 1 + 1 + 1]? = some (.cells #[.slice none 0 0] 30 (0, 0))) := by unfold Hid; rw [hP2.out, setRow_other _ _ _ _ (by omega)]; exact P14.out
            have BP2 : Hid (Below w.heap.size w P2) := by rw [hP2.out]; exact below_setRow BP1.out (by have := hG.out; omega) _
            have SP2 : ∀ k, k ∈ [G, G + 1] → P2.heap[k]? = X.heap[k]? := fun k hk => (show P2.heap[k]? = P1.heap[k]? by rw [hP2.out]; exact setRow_other _ _ _ _ (by simp only [List.mem_cons, List.not_mem_nil, or_false] at hk; omega)).trans (hS k hk)
            refine hK.out _ _ SP2 ?_
            intro hS2
            clear hK K hS hS2
            try simp only [Act.put, List.getElem_toArray, List.getElem_cons_zero, List.getElem_cons_succ, List.setIfInBounds_toArray, List.set_cons_zero, List.set_cons_succ]
            have hS := SP2
            refine wpAnyH_ready (rs := [5]) (by kernel_rfl) (by simp) ?_
            refine AllReadyH.cons rfl (fun K hK => ?_) AllReadyH.nil
            refine step_store_row 30 (.tmp 6) (.tmp 74) rfl rfl (G + 1 + 1 + 1 + 1) #[.slice none 0 0] rfl (by first | rfl | kernel_rfl) _ _ P24.out (by kernel_rfl) rfl (by kernel_rfl) ?_
            obtain ⟨P3, hP3⟩ : ∃ W0, Hid (W0 = P2.setRow (G + 1 + 1 + 1 + 1) #[.slice none 0 0]) := ⟨_, Lib.hid rfl⟩
            rw [← hP3.out]
            have P3o : Hid (P3.heap[G + 1 + 1 + 1 + 1]? = some (.cells #[.slice none 0 0] 30 (0, 0))) := by unfold Hid; rw [hP3.out]; exact setRow_heap _ _ _ _ _ _ P24.out
            have P32 : Hid (P3.heap[G + 1 + 1]? = some (.cells #[.slice A3 n3 c3, .int .i64 e3] 94 (0, 0))) := by unfold Hid; rw [hP3.out, setRow_other _ _ _ _ (by omega)]; exact P22.out
            have P33 : Hid (P3.heap[G + 1 + 1 + 1]? = some (.cells #[.slice none 0 0, .int .i64 0] 33 (0, 0))) := by unfold Hid; rw [hP3.out, setRow_other _ _ _ _ (by omega)]; exact P2o.out
            have BP3 : Hid (Below w.heap.size w P3) := by rw [hP3.out]; exact below_setRow BP2.out (by have := hG.out; omega) _
            have SP3 : ∀ k, k ∈ [G, G + 1] → P3.heap[k]? = X.heap[k]? := fun k hk => (show P3.heap[k]? = P2.heap[k]? by rw [hP3.out]; exact setRow_other _ _ _ _ (by simp only [List.mem_cons, List.not_mem_nil, or_false] at hk; omega)).trans (hS k hk)
            refine hK.out _ _ SP3 ?_
            intro hS2
            clear hK K hS hS2
            try simp only [Act.put, List.getElem_toArray, List.getElem_cons_zero, List.getElem_cons_succ, List.setIfInBounds_toArray, List.set_cons_zero, List.set_cons_succ]
            have hS := SP3
            refine wpAnyH_done (by kernel_rfl) (NoPanic.normal ?_) _
            go_wp2_with fail
            refine bodyPost_ret (v := .tuple #[.agg #[.slice A3 n3 c3, .int .i64 e3], .agg #[.slice none 0 0, .int .i64 0], .agg #[.slice none 0 0]]) ?_ rfl ⟨_, _, _, _, _, _, _, _, _, by rw [hpe.out], BP3.out, fun h => absurd h hne.out⟩
            exact results_ccc Try.results48 rfl rfl rfl (run_loadVar_mid (P := Try.prog) P3 (G + 1 + 1) 0 94 _ _ (range_of P32.out) Try.underlying94 rfl (by kernel_rfl)) (run_loadVar_mid (P := Try.prog) P3 (G + 1 + 1 + 1) 0 33 _ _ (range_of P33.out) Try.underlying33 rfl (by kernel_rfl)) (run_loadVar_mid (P := Try.prog) P3 (G + 1 + 1 + 1 + 1) 0 30 _ _ (range_of P3o.out) Try.underlying30 rfl (by kernel_rfl))
        · have hiC' : ¬ (i : Int) < C := by omega
          have hiC2 : i = C := by omega
          have hpa3 : Hid (auths l (5 - (a + 1)) (a + 1) s = parse l) := by
            have h1 := hpa.out
            rw [hiC2, Nat.sub_self] at h1
            exact h1
          go_wp2_with fail
          go_roundw
          case rel => exact ⟨a + 1, m, A, c, s, Ar, nr, cr, rfl, by go_num, by omega, hF, hC, hRA, hQ, hok, hpa3⟩
          case measure => simp only [intOf]; omega
    · have h5' : ¬ (a : Int) < 5 := by omega
      have hpe : Hid (s = parse l) := by have h1 := hpa.out; rw [show 5 - a = 0 by omega] at h1; exact h1
      clear hpa
      have e0 := cell_blk hC.out 0 rfl
      have e1 := cell_blk hC.out 1 rfl
      by_cases hse : s.e = 0
      · rw [hse] at hC e1
        have hse' : ((0 : Int) != 0) = false := rfl
        obtain ⟨Qs, hq⟩ := hQ.out
        obtain ⟨gk, hgk⟩ : ∃ k, Hid (k = wo.heap.size) := ⟨_, Lib.hid rfl⟩
        obtain ⟨X0, hX0⟩ : ∃ X, Hid (X = wo.alloc (.cells #[.slice none 0 0] 30)) := ⟨_, Lib.hid rfl⟩
        have B0 : Hid (Below wo.heap.size wo X0) := by rw [hX0.out]; exact (Below.refl _ _).alloc (Nat.le_refl _) _
        have K0 : Hid (X0.heap[gk]? = some (.cells #[.slice none 0 0] 30 (0, 0))) := by unfold Hid; rw [hX0.out, hgk.out]; exact heap_alloc_new _ _
        have F0 : Hid (Fr [G + 1] W X0 [G + 1]) := hF.out.trans (Fr.below B0.out)
        have c00 : Hid (X0.heap[G]? = some (.cells #[.slice none 0 0, .int .i64 0] 33 (0, 0))) := (F0.out.block G (by have := hWs.out; omega) (by simp)).trans C0.out
        have c01 : Hid (X0.heap[G + 1]? = some (.cells #[.slice Ar nr cr, .int .i64 0] 94 (0, 0))) := (B0.out.block _ (lt_of_blk hC.out)).trans hC.out
        have BW0 : Hid (Below w.heap.size w X0) := BWo.out.trans (B0.out.mono BWo.out.size)
        have hml : Hid (m ≤ 500000) := by have h1 := hok.out.len; have h2 := hok.out.at_; have h3 := hl0.out; have h4 := hq.hl; unfold Hid; omega
        have hqX := hq.to B0.out
        have hQl := Lib.hid hq.ql
        have hHl := Lib.hid hq.hl
        have hel := Lib.hid hq.el
        have hrw : ∃ b, (0 < m → A = some ⟨b, 0, none⟩ ∧ W.heap.size ≤ b ∧ (∃ cur, X0.heap[b]? = some (.cells cur 40 (0, 0))) ∧ ∀ j q, Qs[j]? = some q → X0.rangeAt b (j * 5) (lqC q)) ∧ b < X0.heap.size ∧ (b ≠ gk ∨ m = 0) ∧ (b ≠ G) ∧ (b ≠ G + 1) ∧ (b ≠ G + 1 + 1) ∧ (b ≠ G + 1 + 1 + 1) ∧ (b ≠ G + 1 + 1 + 1 + 1) ∧ W.heap.size ≤ b := by
          rcases hqX.row.2 with ⟨hv, h0⟩ | ⟨b, cap, cur, hv, hbb, hh, _⟩
          · have h1 := hWs.out; have h2 := hgk.out; have h3 := hF.out.size; exact ⟨gk, fun h => absurd h (by omega), lt_of_blk K0.out, Or.inr h0, by omega, by omega, by omega, by omega, by omega, by omega⟩
          · have h1 := hWs.out; have h2 := hgk.out
            have hA : A = some ⟨b, 0, none⟩ := by injection hv
            have hbo : b < wo.heap.size := by
              rcases hq.row.2 with ⟨hv2, _⟩ | ⟨b2, _, _, hv2, _, hh2, _⟩
              · rw [hv2] at hv; injection hv with h; cases h
              · rw [hv2] at hv; injection hv with h; injection h with h; injection h with h; subst h; exact lt_of_blk hh2
            refine ⟨b, fun hm => ⟨hA, hbb, ⟨cur, hh⟩, fun j q hj => ?_⟩, lt_of_blk hh, Or.inl (by omega), by omega, by omega, by omega, by omega, by omega, hbb⟩
            obtain ⟨b', o', e', _, hr'⟩ := (Rd.of_own hqX.row).elem (fun _ _ => rfl) hq.ql hj
            rw [hA] at e'; injection e' with e'; injection e' with e1 e2; subst e1 e2
            rwa [Nat.zero_add] at hr'
        obtain ⟨b, hbm, hbX, hbk, hbG, hb1, hb2, hb3, hb4, hb5⟩ := hrw
        have HB := Lib.hid hbm
        have HBX := Lib.hid hbX
        have HBN : Hid ((b ≠ gk ∨ m = 0) ∧ b ≠ G ∧ b ≠ G + 1 ∧ b ≠ G + 1 + 1 ∧ b ≠ G + 1 + 1 + 1 ∧ b ≠ G + 1 + 1 + 1 + 1) := ⟨hbk, hbG, hb1, hb2, hb3, hb4⟩
        have hgkG : Hid (G + 5 ≤ gk) := by have h1 := hWs.out; have h2 := hgk.out; have h3 := hF.out.size; unfold Hid; omega
        obtain ⟨N2, hN2⟩ : ∃ N, Hid (N = [G, gk, b, G + 1 + 1, G + 1 + 1 + 1, G + 1 + 1 + 1 + 1]) := ⟨_, Lib.hid rfl⟩
        have hm2 : Hid (∀ k, k ∈ [G, gk, b] → k ∈ N2) := fun k hk => by rw [hN2.out]; simp only [List.mem_cons, List.not_mem_nil, or_false] at hk ⊢; rcases hk with h | h | h <;> simp [h]
        have hm4 : Hid (∀ k, k = G + 1 + 1 ∨ k = G + 1 + 1 + 1 ∨ k = G + 1 + 1 + 1 + 1 → k ∈ N2) := fun k hk => by rw [hN2.out]; simp only [List.mem_cons, List.not_mem_nil, or_false]; rcases hk with h | h | h <;> simp [h]
        have hbw : Hid (W.heap.size ≤ b) := hb5
        have hN2k : ∀ k, k ∈ N2 → k < X0.heap.size ∧ w.heap.size ≤ k := fun k hk => by
          have h1 := lt_of_blk c00.out; have h2 := lt_of_blk K0.out; have h3 := HBX.out; have h4 := hWs.out; have h5 := hgkG.out; have h6 := hG.out; have h7 := hbw.out; have h8 := F0.out.size
          rw [hN2.out] at hk
          simp only [List.mem_cons, List.not_mem_nil, or_false] at hk
          rcases hk with h | h | h | h | h | h <;> omega
        have hNO : Hid (∀ k, k ∈ N2 → k < X0.heap.size) := fun k hk => (hN2k k hk).1
        have hNw : Hid (∀ k, k ∈ N2 → w.heap.size ≤ k) := fun k hk => (hN2k k hk).2
        clear hN2k
        clear hbm hbX hbk hbG hb1 hb2 hb3 hb4 hb5 hqX hq hQ
        have hmx := hml.out
        go_wp2_with fail
        clear e0 e1
        rw [← hX0.out, ← hgk.out]
        go_loopw [15] (fun x15 wr => ∃ (i : Nat) (Kb : Option Addr) (kc : Nat) (V : Option Addr) (vn vc : Nat) (S : Bk) (hs : List (List UInt8)), x15 = .int .i64 i ∧ i ≤ m ∧ Hid (getS (s.L.take i) [] [] = (S, hs)) ∧ Hid (Fr [G, gk, b] X0 wr [G, gk, b]) ∧ Hid (wr.heap[G]? = some (.cells #[.slice V vn vc, .int .i64 0] 33 (0, 0))) ∧ Hid (wr.heap[gk]? = some (.cells #[.slice Kb i kc] 30 (0, 0))) ∧ Hid (0 < m → (∃ cur, wr.heap[b]? = some (.cells cur 40 (0, 0))) ∧ ∀ j q, i ≤ j → Qs[j]? = some q → wr.rangeAt b (j * 5) (lqC q)) ∧ Hid (∃ Ks, OwnR N2 X0.heap.size wr Kb i kc S Ks) ∧ Hid (VtN ((Value.slice Kb i kc).ownBlock.toList ++ N2) wr V vn hs) ∧ Hid (vn ≤ vc)) (fun x15 _ => m - (intOf x15).toNat)
        case atStart => exact ⟨0, none, 0, none, 0, 0, [], [], rfl, by omega, rfl, Fr.refl _ _, c00.out, K0.out, fun hm => ⟨(HB.out hm).2.2.1, fun j q _ hj => (HB.out hm).2.2.2 j q hj⟩, ⟨[], OwnR.nil _ _ _⟩, VtN.nil _ _ _, Nat.le_refl _⟩
        case round =>
          have hsq : Hid (Seqd s.L) := by have h := parse_seq l; rw [← hpe.out] at h; exact h
          obtain ⟨i, Kb, kc, V, vn, vc, S, hs, rfl, hi, hS0, hF3, hCG, hCK, hCb, hKs, hVt, hvc⟩ := hrel
          by_cases him : i < m
          · have him' : (i : Int) < (m : Int) := by omega
            have hi0 : (0 : Int) ≤ (i : Int) := by omega
            have e10 : IntKind.i64.wrap ((i : Int) + 1) = ((i + 1 : Nat) : Int) := by rw [IntWalk.i64_in _ (by omega)]; omega
            obtain ⟨hA, hWb, _, _⟩ := HB.out (by omega)
            subst hA
            obtain ⟨hcur, hrest⟩ := hCb.out (by omega)
            obtain ⟨cur, hcur⟩ := hcur
            have Cb := Lib.hid hcur
            have hR := Lib.hid hrest
            obtain ⟨q, hq⟩ : ∃ q, Qs[i]? = some q := ⟨_, List.getElem?_eq_getElem (by rw [hQl.out]; exact him)⟩
            obtain ⟨x, hx⟩ : ∃ x, s.L[i]? = some x := ⟨_, List.getElem?_eq_getElem (by rw [hHl.out]; exact him)⟩
            have HT := Lib.hid (hel.out i q x hq hx)
            have hrq0 := hrest i q (Nat.le_refl _) hq
            unfold lqC at hrq0
            rw [HT.out.au, HT.out.sq, HT.out.ep] at hrq0
            have hrq := Lib.hid hrq0
            have HQi := Lib.hid hq
            have HXi := Lib.hid hx
            clear hcur hrest hq hx hCb hWb hrq0
            have hbk : Hid (b ≠ gk) := by rcases HBN.out.1 with h | h; exact h; omega
            obtain ⟨hau, hep1, hep2, hbl, hpv⟩ := hok.out.au x (List.mem_of_getElem? HXi.out)
            have HAU := Lib.hid hau
            have HSo : Hid S.ok := by have h1 := getS_kn (s.L.take i) [] [] Bk.ok.nil (fun y hy => hok.out.au y (List.mem_of_mem_take hy)); rw [hS0.out] at h1; exact h1
            have HRt : Hid (rightL (gLn S x)) := by have h1 := get_right (hok.out) (hsq.out) (by have := hl0.out; omega) [] HXi.out; rw [hS0.out] at h1; exact h1
            obtain ⟨Ks, hKs⟩ := hKs.out
            have HK := Lib.hid hKs
            clear hKs hau hep1 hep2 hbl hpv
            go_wp2_with fail
            obtain ⟨X, hX⟩ : ∃ W, Hid (W = wr.drew) := ⟨_, Lib.hid rfl⟩
            have dX : Below wr.heap.size wr X := by rw [hX.out]; exact below_drew (Below.refl _ _)
            have XK : Hid (X.heap[gk]? = some (.cells #[.slice Kb i kc] 30 (0, 0))) := (dX.block _ (lt_of_blk hCK.out)).trans hCK.out
            have Xq : Hid (X.rangeAt b (i * 5) [.int .i64 x.au, .int .i64 x.sq, .int .i64 x.ep, .slice none 0 0, .slice q.D q.m q.c]) := range_blk hrq.out (dX.block b (lt_of_blk Cb.out))
            have Xb : Hid (X.heap[b]? = some (.cells cur 40 (0, 0))) := (dX.block _ (lt_of_blk Cb.out)).trans Cb.out
            have KX := Lib.hid ((HK.out.to dX).rkN hNO.out)
            have FX : Hid (Fr [G, gk, b] X0 X [G, gk, b]) := hF3.out.trans (Fr.below dX)
            refine wp_region_noPanic ?_
            refine wp_region_G (S := fun w' => ∀ k, k ∈ [gk, b] → w'.heap[k]? = X.heap[k]?) (s := 12) (by kernel_rfl) ?_
            rw [← hX.out]
            have hS : ∀ k, k ∈ [gk, b] → X.heap[k]? = X.heap[k]? := fun _ _ => rfl
            refine wpAnyG_take (i := 0) (v := ?vra0) rfl (by kernel_rfl) (by kernel_rfl) (by kernel_rfl) (fun _ _ _ h => h) (by kernel_rfl) (Or.inl ⟨by rfl, ?hyra0⟩) hS ?restra0
            case hyra0 => (intro w' hSw; go_simp; first | done | with_reducible rfl)
            try simp only [Act.put, List.getElem_toArray, List.getElem_cons_zero, List.getElem_cons_succ, List.setIfInBounds_toArray, List.set_cons_zero, List.set_cons_succ]
            refine wpAnyG_take (i := 1) (v := ?vra1) rfl (by kernel_rfl) (by kernel_rfl) (by kernel_rfl) (fun _ _ _ h => h) (by kernel_rfl) (Or.inl ⟨by rfl, ?hyra1⟩) hS ?restra1
            case hyra1 => (intro w' hSw; go_simp; first | done | with_reducible rfl)
            try simp only [Act.put, List.getElem_toArray, List.getElem_cons_zero, List.getElem_cons_succ, List.setIfInBounds_toArray, List.set_cons_zero, List.set_cons_succ]
            refine wpAnyG_take (i := 2) (v := .agg #[.slice Kb i kc]) rfl (by kernel_rfl) (by kernel_rfl) (by kernel_rfl) (fun _ _ _ h => h) (by kernel_rfl) (Or.inl ⟨by rfl, ?hyra2⟩) hS ?restra2
            case hyra2 => (intro w' hSw; have c0 := cell_blk ((hSw gk (by simp)).trans XK.out) 0 rfl; go_simp; first | done | with_reducible rfl)
            try simp only [Act.put, List.getElem_toArray, List.getElem_cons_zero, List.getElem_cons_succ, List.setIfInBounds_toArray, List.set_cons_zero, List.set_cons_succ]
            refine wpAnyG_take (i := 3) (v := ?vra3) rfl (by kernel_rfl) (by kernel_rfl) (by kernel_rfl) (fun _ _ _ h => h) (by kernel_rfl) (Or.inl ⟨by rfl, ?hyra3⟩) hS ?restra3
            case hyra3 => (intro w' hSw; go_simp; first | done | with_reducible rfl)
            try simp only [Act.put, List.getElem_toArray, List.getElem_cons_zero, List.getElem_cons_succ, List.setIfInBounds_toArray, List.set_cons_zero, List.set_cons_succ]
            refine wpAnyG_take (i := 4) (v := ?vra4) rfl (by kernel_rfl) (by kernel_rfl) (by kernel_rfl) (fun _ _ _ h => h) (by kernel_rfl) (Or.inl ⟨by rfl, ?hyra4⟩) hS ?restra4
            case hyra4 => (intro w' hSw; go_simp; first | done | with_reducible rfl)
            try simp only [Act.put, List.getElem_toArray, List.getElem_cons_zero, List.getElem_cons_succ, List.setIfInBounds_toArray, List.set_cons_zero, List.set_cons_succ]
            refine wpAnyG_take (i := 5) (v := ?vra5) rfl (by kernel_rfl) (by kernel_rfl) (by kernel_rfl) (fun _ _ _ h => h) (by kernel_rfl) (Or.inl ⟨by rfl, ?hyra5⟩) hS ?restra5
            case hyra5 => (intro w' hSw; go_simp; first | done | with_reducible rfl)
            try simp only [Act.put, List.getElem_toArray, List.getElem_cons_zero, List.getElem_cons_succ, List.setIfInBounds_toArray, List.set_cons_zero, List.set_cons_succ]
            refine wpAnyG_take (i := 6) (v := ?vra6) rfl (by kernel_rfl) (by kernel_rfl) (by kernel_rfl) (fun _ _ _ h => h) (by kernel_rfl) (Or.inl ⟨by rfl, ?hyra6⟩) hS ?restra6
            case hyra6 => (intro w' hSw; go_simp; first | done | with_reducible rfl)
            try simp only [Act.put, List.getElem_toArray, List.getElem_cons_zero, List.getElem_cons_succ, List.setIfInBounds_toArray, List.set_cons_zero, List.set_cons_succ]
            refine wpAnyG_take (i := 7) (v := .int .i64 x.au) rfl (by kernel_rfl) (by kernel_rfl) (by kernel_rfl) (fun _ _ _ h => h) (by kernel_rfl) (Or.inl ⟨by rfl, ?hyra7⟩) hS ?restra7
            case hyra7 => (intro w' hSw; have c0 : w'.cell? ⟨b, i * 5, none⟩ = some (.int .i64 x.au) := range_cell Xq.out (hSw b (by simp)) (z := 0) rfl; go_simp; first | done | with_reducible rfl)
            try simp only [Act.put, List.getElem_toArray, List.getElem_cons_zero, List.getElem_cons_succ, List.setIfInBounds_toArray, List.set_cons_zero, List.set_cons_succ]
            refine wpAnyG_ready (rs := [8]) (by kernel_rfl) (by simp) ?_
            refine AllReadyG.cons rfl (fun K hK => ?_) AllReadyG.nil
            go_simp
            refine (refHead_in Kb i kc S x.au N2 X KX.out (by omega) (fun k hk => Nat.lt_of_lt_of_le (hNO.out k hk) FX.out.size) HAU.out.1 HAU.out.2).mono ?_
            rintro e u ⟨Dg, dn, dc, rfl, hdc, hdg, bu⟩
            go_wp2_with fail
            have BU := Lib.hid bu
            have HDG := Lib.hid hdg
            have HDC := Lib.hid hdc
            clear hdc hdg
            have Su : ∀ k, k ∈ [gk, b] → u.heap[k]? = X.heap[k]? := fun k hk => bu.block k (by simp only [List.mem_cons, List.not_mem_nil, or_false] at hk; rcases hk with h | h; rw [h]; exact lt_of_blk XK.out; rw [h]; exact lt_of_blk Xb.out)
            refine hK.out _ _ (fun _ => Su) ?_
            clear hK K hS bu
            try simp only [Act.put, List.getElem_toArray, List.getElem_cons_zero, List.getElem_cons_succ, List.setIfInBounds_toArray, List.set_cons_zero, List.set_cons_succ]
            have hS := Su
            refine wpAnyG_take (i := 9) (v := .slice Dg dn dc) rfl (by kernel_rfl) (by kernel_rfl) (by kernel_rfl) (fun _ _ _ h => h) (by kernel_rfl) (Or.inl ⟨by rfl, ?hyra9⟩) hS ?restra9
            case hyra9 => (intro w' hSw; have hfd := field_dg (.int .i64 x.au) (.int .i64 (ofA S x.au).length) Dg dn dc w'; go_simp; first | done | with_reducible rfl)
            try simp only [Act.put, List.getElem_toArray, List.getElem_cons_zero, List.getElem_cons_succ, List.setIfInBounds_toArray, List.set_cons_zero, List.set_cons_succ]
            refine wpAnyG_ready (rs := [10]) (by kernel_rfl) (by simp) ?_
            refine AllReadyG.cons rfl (fun K hK => ?_) AllReadyG.nil
            go_simp
            refine hK.out _ _ (fun _ => hS) ?_
            clear hK K
            try simp only [Act.put, List.getElem_toArray, List.getElem_cons_zero, List.getElem_cons_succ, List.setIfInBounds_toArray, List.set_cons_zero, List.set_cons_succ]
            refine wpAnyG_take (i := 11) (v := ?vra11) rfl (by kernel_rfl) (by kernel_rfl) (by kernel_rfl) (fun _ _ _ h => h) (by kernel_rfl) (Or.inl ⟨by rfl, ?hyra11⟩) hS ?restra11
            case hyra11 => (intro w' hSw; go_simp; first | done | with_reducible rfl)
            try simp only [Act.put, List.getElem_toArray, List.getElem_cons_zero, List.getElem_cons_succ, List.setIfInBounds_toArray, List.set_cons_zero, List.set_cons_succ]
            have Cu : Hid (u.heap[b]? = some (.cells cur 40 (0, 0))) := (Su b (by simp)).trans Xb.out
            have uq : Hid (u.rangeAt b (i * 5) [.int .i64 x.au, .int .i64 x.sq, .int .i64 x.ep, .slice none 0 0, .slice q.D q.m q.c]) := range_blk Xq.out (Su b (by simp))
            refine wpAnyG_ready (rs := [12]) (by kernel_rfl) (by simp) ?_
            refine AllReadyG.cons rfl (fun K hK => ?_) AllReadyG.nil
            have s0 := uq.out 3 _ rfl
            have s1 := frozen_blk Cu.out (i * 5 + 3)
            go_simp
            clear s0 s1
            obtain ⟨Y, hY⟩ : ∃ W0, Hid (W0 = u.setCell ⟨b, i * 5 + 3, none⟩ (.slice Dg dn dc)) := ⟨_, Lib.hid rfl⟩
            rw [← hY.out]
            have FY : Hid (Fr [b] u Y [b]) := by rw [hY.out]; exact setCell_fr _ _ _ _
            refine hK.out _ _ (fun h => absurd (h.symm.trans (by kernel_rfl : _ = true)) (by decide)) ?_
            clear hK K hS Su
            try simp only [Act.put, List.getElem_toArray, List.getElem_cons_zero, List.getElem_cons_succ, List.setIfInBounds_toArray, List.set_cons_zero, List.set_cons_succ]
            refine wpAnyG_done (by kernel_rfl) (NoPanic.normal ?_) _
            have Yb : Hid (Y.heap[b]? = some (.cells (cur.setIfInBounds (i * 5 + 3) (.slice Dg dn dc)) 40 (0, 0))) := by unfold Hid; rw [hY.out]; exact heap_set Cu.out _
            have Yq : Hid (Y.rangeAt b (i * 5) [.int .i64 x.au, .int .i64 x.sq, .int .i64 x.ep, .slice Dg dn dc, .slice q.D q.m q.c]) := by rw [hY.out]; exact range_set uq.out
            have BWX : Hid (Below w.heap.size w X) := BW0.out.trans (FX.out.toBelow (fun k hk => by have h1 := hgkG.out; have h2 := hG.out; have h3 := (HB.out (by omega)).2.1; have h4 := hWs.out; simp only [List.mem_cons, List.not_mem_nil, or_false] at hk; rcases hk with h | h | h <;> omega) BW0.out.size)
            have BWu : Hid (Below w.heap.size w u) := BWX.out.trans (BU.out.mono BWX.out.size)
            have BWY : Hid (Below w.heap.size w Y) := BWu.out.trans (FY.out.toBelow (fun k hk => by have h2 := hG.out; have h3 := (HB.out (by omega)).2.1; have h4 := hWs.out; simp only [List.mem_cons, List.not_mem_nil, or_false] at hk; omega) BWu.out.size)
            have F3Y : Hid (Fr [G, gk, b] X0 Y [G, gk, b]) := (FX.out.trans (Fr.below BU.out)).trans (FY.out.wide (fun k hk => by simp at hk; simp [hk]))
            have CGY : Hid (Y.heap[G]? = some (.cells #[.slice V vn vc, .int .i64 0] 33 (0, 0))) := (FY.out.block G (lt_of_blk ((BU.out.block _ (Nat.lt_of_lt_of_le (lt_of_blk hCG.out) dX.size)).trans ((dX.block _ (lt_of_blk hCG.out)).trans hCG.out))) (by simp only [List.mem_cons, List.not_mem_nil, or_false]; exact fun e => HBN.out.2.1 e.symm)).trans ((BU.out.block _ (Nat.lt_of_lt_of_le (lt_of_blk hCG.out) dX.size)).trans ((dX.block _ (lt_of_blk hCG.out)).trans hCG.out))
            have CKu : Hid (u.heap[gk]? = some (.cells #[.slice Kb i kc] 30 (0, 0))) := (BU.out.block _ (lt_of_blk XK.out)).trans XK.out
            have CKY : Hid (Y.heap[gk]? = some (.cells #[.slice Kb i kc] 30 (0, 0))) := (FY.out.block gk (lt_of_blk CKu.out) (by simp only [List.mem_cons, List.not_mem_nil, or_false]; exact fun e => hbk.out e.symm)).trans CKu.out
            have hb1 : ∀ k, k ∈ [b] → k ∈ N2 := fun k hk => hm2.out k (by simp at hk; simp [hk])
            have HKY : Hid (OwnR N2 X0.heap.size Y Kb i kc S Ks) := ((HK.out.to dX).to BU.out).fr FY.out hb1 (fun k hk => hNO.out k (hb1 k hk))
            obtain ⟨NB, hNB⟩ : ∃ N, Hid (N = (Value.slice Kb i kc).ownBlock.toList ++ N2) := ⟨_, Lib.hid rfl⟩
            have VtY : Hid (VtN NB Y V vn hs) := by rw [hNB.out]; exact ((hVt.out.below dX).below BU.out).fr FY.out (fun k hk => List.mem_append.2 (Or.inr (hb1 k hk))) (fun k hk => Or.inl hk)
            have DGY : Hid (RdN N2 Y 1 Dg dn ((lastDg (ofA S x.au)).map B8)) := HDG.out.fr FY.out hb1 (fun k hk => Or.inl hk)
            have NBY : Hid (∀ k, k ∈ NB → k < Y.heap.size) := by rw [hNB.out]; exact HKY.out.blk (fun k hk => Nat.lt_of_lt_of_le (hNO.out k hk) F3Y.out.size)
            have RYj : Hid (∀ j q', i + 1 ≤ j → Qs[j]? = some q' → Y.rangeAt b (j * 5) (lqC q')) := fun j q' hj hq' => by rw [hY.out]; exact range_far (range_blk (range_blk (hR.out j q' (by omega) hq') (dX.block b (lt_of_blk Cb.out))) (BU.out.block b (lt_of_blk Xb.out))) (by simp [lqC]) (by omega)
            have hVN : Hid (vn ≤ 500000) := by have h1 := getS_hs (s.L.take i) [] []; obtain ⟨_, _, h2, _⟩ := hVt.out; rw [hS0.out] at h1; simp only [List.length_nil, List.length_take] at h1; unfold Hid; omega
            have hbf : Hid (bytesL (gLn S x) = bytesL (gLn S x)) := rfl
            clear hY Cu uq XK Xq Xb KX FX BWX BWu CKu HDG hVt HK hb1 hbf dX hX BU hrq Cb hCG hCK hR hF3
            go_wp2_with fail
            obtain ⟨X, hX⟩ : ∃ W, Hid (W = Y.drew) := ⟨_, Lib.hid rfl⟩
            have dX : Below Y.heap.size Y X := by rw [hX.out]; exact below_drew (Below.refl _ _)
            have XG : Hid (X.heap[G]? = some (.cells #[.slice V vn vc, .int .i64 0] 33 (0, 0))) := (dX.block _ (lt_of_blk CGY.out)).trans CGY.out
            have Xq : Hid (X.rangeAt b (i * 5) [.int .i64 x.au, .int .i64 x.sq, .int .i64 x.ep, .slice Dg dn dc, .slice q.D q.m q.c]) := range_blk Yq.out (dX.block b (lt_of_blk Yb.out))
            have hbX2 : Hid (b < X.heap.size) := Nat.lt_of_lt_of_le (lt_of_blk Yb.out) dX.size
            have BX := Lib.hid dX
            refine wp_region_noPanic ?_
            refine wp_region_held_drew (S := fun w' => ∀ k, k ∈ [G, b] → w'.heap[k]? = X.heap[k]?) (by kernel_rfl) (by rw [← hX.out]; exact fun _ _ => rfl) (fun hS => ?_)
            rw [← hX.out]
            clear hS
            have hS : ∀ k, k ∈ [G, b] → X.heap[k]? = X.heap[k]? := fun _ _ => rfl
            refine wpAnyH_take (i := 0) (v := .agg #[.slice V vn vc, .int .i64 0]) rfl (by kernel_rfl) (by kernel_rfl) (by kernel_rfl) (fun _ _ _ h => h) (Or.inl ⟨by rfl, ?hyrb0⟩) hS ?restrb0
            case hyrb0 => (intro w' hSw; have c0 : w'.cell? ⟨G, 0, none⟩ = some (.slice V vn vc) := cell_blk ((hSw G (by simp)).trans XG.out) 0 rfl; have c1 : w'.cell? ⟨G, 1, none⟩ = some (.int .i64 0) := cell_blk ((hSw G (by simp)).trans XG.out) 1 rfl; go_simp; first | done | with_reducible rfl)
            try simp only [Act.put, List.getElem_toArray, List.getElem_cons_zero, List.getElem_cons_succ, List.setIfInBounds_toArray, List.set_cons_zero, List.set_cons_succ]
            refine wpAnyH_take (i := 1) (v := ?vrb1) rfl (by kernel_rfl) (by kernel_rfl) (by kernel_rfl) (fun _ _ _ h => h) (Or.inl ⟨by rfl, ?hyrb1⟩) hS ?restrb1
            case hyrb1 => (intro w' hSw; go_simp; first | done | with_reducible rfl)
            try simp only [Act.put, List.getElem_toArray, List.getElem_cons_zero, List.getElem_cons_succ, List.setIfInBounds_toArray, List.set_cons_zero, List.set_cons_succ]
            refine wpAnyH_take (i := 2) (v := ?vrb2) rfl (by kernel_rfl) (by kernel_rfl) (by kernel_rfl) (fun _ _ _ h => h) (Or.inl ⟨by rfl, ?hyrb2⟩) hS ?restrb2
            case hyrb2 => (intro w' hSw; go_simp; first | done | with_reducible rfl)
            try simp only [Act.put, List.getElem_toArray, List.getElem_cons_zero, List.getElem_cons_succ, List.setIfInBounds_toArray, List.set_cons_zero, List.set_cons_succ]
            refine wpAnyH_take (i := 3) (v := ?vrb3) rfl (by kernel_rfl) (by kernel_rfl) (by kernel_rfl) (fun _ _ _ h => h) (Or.inl ⟨by rfl, ?hyrb3⟩) hS ?restrb3
            case hyrb3 => (intro w' hSw; go_simp; first | done | with_reducible rfl)
            try simp only [Act.put, List.getElem_toArray, List.getElem_cons_zero, List.getElem_cons_succ, List.setIfInBounds_toArray, List.set_cons_zero, List.set_cons_succ]
            refine wpAnyH_take (i := 4) (v := .agg #[.int .i64 x.au, .int .i64 x.sq, .int .i64 x.ep, .slice Dg dn dc, .slice q.D q.m q.c]) rfl (by kernel_rfl) (by kernel_rfl) (by kernel_rfl) (fun _ _ _ h => h) (Or.inl ⟨by rfl, ?hyrb4⟩) hS ?restrb4
            case hyrb4 => (intro w' hSw; have c0 : w'.cell? ⟨b, i * 5, none⟩ = some (.int .i64 x.au) := range_cell Xq.out (hSw b (by simp)) (z := 0) rfl; have c1 : w'.cell? ⟨b, i * 5 + 1, none⟩ = some (.int .i64 x.sq) := range_cell Xq.out (hSw b (by simp)) (z := 1) rfl; have c2 : w'.cell? ⟨b, i * 5 + 2, none⟩ = some (.int .i64 x.ep) := range_cell Xq.out (hSw b (by simp)) (z := 2) rfl; have c3 : w'.cell? ⟨b, i * 5 + 3, none⟩ = some (.slice Dg dn dc) := range_cell Xq.out (hSw b (by simp)) (z := 3) rfl; have c4 : w'.cell? ⟨b, i * 5 + 4, none⟩ = some (.slice q.D q.m q.c) := range_cell Xq.out (hSw b (by simp)) (z := 4) rfl; go_simp; first | done | with_reducible rfl)
            try simp only [Act.put, List.getElem_toArray, List.getElem_cons_zero, List.getElem_cons_succ, List.setIfInBounds_toArray, List.set_cons_zero, List.set_cons_succ]
            have PX : Hid (Below X.heap.size X X) := Below.refl _ _
            clear hS
            refine wpAnyH_ready (rs := [5, 10]) (by kernel_rfl) (by simp) ?_
            refine AllReadyH.cons rfl (fun K hK => ?_) (AllReadyH.cons rfl (fun K hK => ?_) AllReadyH.nil)
            · go_simp
              refine (refBytes_ (gLn S x) Dg dn dc q.D q.m q.c X (DGY.out.below (BX.out.trans (PX.out.mono BX.out.size))).1 (HT.out.bd.to (BWY.out.trans ((BX.out.trans (PX.out.mono BX.out.size)).mono BWY.out.size))) HRt.out).mono ?_
              rintro e U ⟨A7, m7, c7, rfl, hm7, hl7, o7, bb⟩
              have PU := Lib.hid (PX.out.trans (bb.mono PX.out.size))
              have P7 : Hid (RdN NB U 1 A7 m7 ((bytesL (gLn S x)).map B8)) := own_rdN o7 (fun k hk => by exact Nat.lt_of_lt_of_le (NBY.out k hk) (BX.out.trans (PX.out.mono BX.out.size)).size)
              have gU := bb
              clear bb o7 hl7
              go_wp2_with fail
              have SU : ∀ k, k ∈ [G, b] → U.heap[k]? = X.heap[k]? := fun k hk => PU.out.block k (by simp only [List.mem_cons, List.not_mem_nil, or_false] at hk; rcases hk with h | h; rw [h]; exact lt_of_blk XG.out; rw [h]; exact hbX2.out)
              refine hK.out _ _ SU ?_
              intro hS
              clear hK K hS
              try simp only [Act.put, List.getElem_toArray, List.getElem_cons_zero, List.getElem_cons_succ, List.setIfInBounds_toArray, List.set_cons_zero, List.set_cons_succ]
              refine wpAnyH_ready (rs := [6, 10]) (by kernel_rfl) (by simp) ?_
              refine AllReadyH.cons rfl (fun K hK => ?_) (AllReadyH.cons rfl (fun K hK => ?_) AllReadyH.nil)
              · go_simp
                refine (refHashN_ V vn vc 0 A7 m7 c7 hs (bytesL (gLn S x)) NB U (VtY.out.fr (own := []) (own' := []) (Fr.below (BX.out.trans (PU.out.mono BX.out.size))) (fun _ h => absurd h (by simp)) (fun k hk => Or.inl hk)) P7.out (by have h1 := hVN.out; omega) hvc.out (fun k hk => by exact Nat.lt_of_lt_of_le (NBY.out k hk) (BX.out.trans (PU.out.mono BX.out.size)).size)).mono ?_
                rintro e V1 ⟨V2, vn2, vc2, D2, d2, rfl, hvc2, hv8, o8, bb⟩
                have PV1 := Lib.hid (PU.out.trans (bb.mono PU.out.size))
                have V8 : Hid (VtN NB V1 V2 vn2 (note hs (bytesL (gLn S x)))) := hv8
                have D8 : Hid (RdN NB V1 1 D2 32 ((digL hs (gLn S x)).map B8)) := o8.rdNo (fun k hk => by exact Nat.lt_of_lt_of_le (NBY.out k hk) (BX.out.trans (PU.out.mono BX.out.size)).size)
                have D32 : Hid (32 ≤ d2) := o8.le
                have VC2 := Lib.hid hvc2
                have gV1 := bb
                clear bb o8 hv8 hvc2
                go_wp2_with fail
                have SV1 : ∀ k, k ∈ [G, b] → V1.heap[k]? = X.heap[k]? := fun k hk => PV1.out.block k (by simp only [List.mem_cons, List.not_mem_nil, or_false] at hk; rcases hk with h | h; rw [h]; exact lt_of_blk XG.out; rw [h]; exact hbX2.out)
                refine hK.out _ _ SV1 ?_
                intro hS
                clear hK K hS
                try simp only [Act.put, List.getElem_toArray, List.getElem_cons_zero, List.getElem_cons_succ, List.setIfInBounds_toArray, List.set_cons_zero, List.set_cons_succ]
                have hS : ∀ k, k ∈ [G, b] → V1.heap[k]? = X.heap[k]? := SV1
                refine wpAnyH_take (i := 7) (v := ?vrc7) rfl (by kernel_rfl) (by kernel_rfl) (by kernel_rfl) (fun _ _ _ h => h) (Or.inl ⟨by rfl, ?hyrc7⟩) hS ?restrc7
                case hyrc7 => (intro w' hSw; go_simp; first | done | with_reducible rfl)
                try simp only [Act.put, List.getElem_toArray, List.getElem_cons_zero, List.getElem_cons_succ, List.setIfInBounds_toArray, List.set_cons_zero, List.set_cons_succ]
                refine wpAnyH_take (i := 8) (v := .agg #[.slice V2 vn2 vc2, .int .i64 0]) rfl (by kernel_rfl) (by kernel_rfl) (by kernel_rfl) (fun _ _ _ h => h) (Or.inl ⟨by rfl, ?hyrc8⟩) hS ?restrc8
                case hyrc8 => (intro w' hSw; go_simp; first | done | with_reducible rfl)
                try simp only [Act.put, List.getElem_toArray, List.getElem_cons_zero, List.getElem_cons_succ, List.setIfInBounds_toArray, List.set_cons_zero, List.set_cons_succ]
                refine wpAnyH_take (i := 9) (v := .slice D2 32 d2) rfl (by kernel_rfl) (by kernel_rfl) (by kernel_rfl) (fun _ _ _ h => h) (Or.inl ⟨by rfl, ?hyrc9⟩) hS ?restrc9
                case hyrc9 => (intro w' hSw; go_simp; first | done | with_reducible rfl)
                try simp only [Act.put, List.getElem_toArray, List.getElem_cons_zero, List.getElem_cons_succ, List.setIfInBounds_toArray, List.set_cons_zero, List.set_cons_succ]
                refine wpAnyH_ready (rs := [10]) (by kernel_rfl) (by simp) ?_
                refine AllReadyH.cons rfl (fun K hK => ?_) AllReadyH.nil
                go_simp
                obtain ⟨V2w, hV2w⟩ : ∃ W0, Hid (W0 = V1.alloc (.cells #[.slice none 0 0, .int .i64 0] 33)) := ⟨_, Lib.hid rfl⟩
                obtain ⟨q0, hq0⟩ : ∃ q, Hid (q = V1.heap.size) := ⟨_, Lib.hid rfl⟩
                have gV2w : Below V1.heap.size V1 V2w := by rw [hV2w.out]; exact (Below.refl _ _).alloc (Nat.le_refl _) _
                have PV2w := Lib.hid (PV1.out.trans (gV2w.mono PV1.out.size))
                have Q0 : Hid (V2w.heap[q0]? = some (.cells #[.slice none 0 0, .int .i64 0] 33 (0, 0))) := by unfold Hid; rw [hV2w.out, hq0.out]; exact heap_alloc_new _ _
                have hqX : Hid (X.heap.size ≤ q0) := by unfold Hid; rw [hq0.out]; exact PV1.out.size
                have hqG : Hid (Y.heap.size ≤ q0) := Nat.le_trans BX.out.size hqX.out
                have hqlV2w : Hid (q0 < V2w.heap.size) := lt_of_blk Q0.out
                rw [← hV2w.out, ← hq0.out]
                have SV2w : ∀ k, k ∈ [G, b] → V2w.heap[k]? = X.heap[k]? := fun k hk => PV2w.out.block k (by simp only [List.mem_cons, List.not_mem_nil, or_false] at hk; rcases hk with h | h; rw [h]; exact lt_of_blk XG.out; rw [h]; exact hbX2.out)
                refine hK.out _ _ SV2w ?_
                intro hS
                clear hK K hS
                try simp only [Act.put, List.getElem_toArray, List.getElem_cons_zero, List.getElem_cons_succ, List.setIfInBounds_toArray, List.set_cons_zero, List.set_cons_succ]
                replace V8 : Hid (VtN (q0 :: NB) V2w V2 vn2 (note hs (bytesL (gLn S x)))) := V8.out.fr (own := []) (own' := []) (Fr.below gV2w) (fun _ h => absurd h (by simp)) (fun k hk => by rcases List.mem_cons.1 hk with h | h; exact Or.inr (by rw [h, hq0.out]; exact Nat.le_refl _); exact Or.inl h)
                replace D8 : Hid (RdN (q0 :: NB) V2w 1 D2 32 ((digL hs (gLn S x)).map B8)) := D8.out.fr (own := []) (own' := []) (Fr.below gV2w) (fun _ h => absurd h (by simp)) (fun k hk => by rcases List.mem_cons.1 hk with h | h; exact Or.inr (by rw [h, hq0.out]; exact Nat.le_refl _); exact Or.inl h)
                refine wpAnyH_ready (rs := [11]) (by kernel_rfl) (by simp) ?_
                refine AllReadyH.cons rfl (fun K hK => ?_) AllReadyH.nil
                refine step_store_row 33 (.tmp 16) (.tmp 114) rfl rfl q0 #[.slice V2 vn2 vc2, .int .i64 0] rfl rfl _ _ Q0.out (by kernel_rfl) rfl (by kernel_rfl) ?_
                obtain ⟨Z, hZ⟩ : ∃ W0, Hid (W0 = V2w.setRow q0 #[.slice V2 vn2 vc2, .int .i64 0]) := ⟨_, Lib.hid rfl⟩
                have FZ : Fr [q0] V2w Z [q0] := by rw [hZ.out]; exact setRow_fr _ _ _
                have QZ : Hid (Z.heap[q0]? = some (.cells #[.slice V2 vn2 vc2, .int .i64 0] 33 (0, 0))) := by unfold Hid; rw [hZ.out]; exact setRow_heap _ _ _ _ _ _ Q0.out
                rw [← hZ.out]
                have VZ : Hid (VtN NB Z V2 vn2 (note hs (bytesL (gLn S x)))) := V8.out.fr FZ (fun k hk => by simp at hk; simp [hk]) (fun k hk => Or.inl (List.mem_cons_of_mem _ hk))
                have DZ : Hid (RdN NB Z 1 D2 32 ((digL hs (gLn S x)).map B8)) := D8.out.fr FZ (fun k hk => by simp at hk; simp [hk]) (fun k hk => Or.inl (List.mem_cons_of_mem _ hk))
                have PZ : Hid (Below X.heap.size X Z) := by unfold Hid; rw [hZ.out]; exact below_setRow PV2w.out hqX.out _
                have BZ : Hid (Below Y.heap.size Y Z) := BX.out.trans (PZ.out.mono BX.out.size)
                have SZ : ∀ k, k ∈ [G, b] → Z.heap[k]? = X.heap[k]? := fun k hk => PZ.out.block k (by simp only [List.mem_cons, List.not_mem_nil, or_false] at hk; rcases hk with h | h; rw [h]; exact lt_of_blk XG.out; rw [h]; exact hbX2.out)
                refine hK.out _ _ SZ ?_
                intro hS
                clear hK K hS
                try simp only [Act.put, List.getElem_toArray, List.getElem_cons_zero, List.getElem_cons_succ, List.setIfInBounds_toArray, List.set_cons_zero, List.set_cons_succ]
                have hS : ∀ k, k ∈ [G, b] → Z.heap[k]? = X.heap[k]? := SZ
                refine wpAnyH_take (i := 12) (v := .slice D2 32 d2) rfl (by kernel_rfl) (by kernel_rfl) (by kernel_rfl) (fun _ _ _ h => h) (Or.inl ⟨by rfl, ?hyrc12⟩) hS ?restrc12
                case hyrc12 => (intro w' hSw; go_simp; first | done | with_reducible rfl)
                try simp only [Act.put, List.getElem_toArray, List.getElem_cons_zero, List.getElem_cons_succ, List.setIfInBounds_toArray, List.set_cons_zero, List.set_cons_succ]
                refine wpAnyH_done (by kernel_rfl) (NoPanic.normal ?_) _
                have c0 := cell_blk QZ.out 0 rfl
                have c1 := cell_blk QZ.out 1 rfl
                have CGZ : Hid (Z.heap[G]? = some (.cells #[.slice V vn vc, .int .i64 0] 33 (0, 0))) := (BZ.out.block _ (lt_of_blk CGY.out)).trans CGY.out
                have CKZ : Hid (Z.heap[gk]? = some (.cells #[.slice Kb i kc] 30 (0, 0))) := (BZ.out.block _ (lt_of_blk CKY.out)).trans CKY.out
                have hbe := BZ.out.block b (lt_of_blk Yb.out)
                go_wp2_with (refine wpList_store_row rfl 33 (.tmp 2) (.tmp 116) rfl G #[.slice V2 vn2 vc2, .int .i64 0] rfl rfl _ _ CGZ.out (by kernel_rfl) rfl (by kernel_rfl) ?_)
                clear c0 c1
                obtain ⟨T, hT⟩ : ∃ T, Hid (T = Z.setRow G #[.slice V2 vn2 vc2, .int .i64 0]) := ⟨_, Lib.hid rfl⟩
                rw [← hT.out]
                have FT : Fr [G] Z T [G] := by rw [hT.out]; exact setRow_fr _ _ _
                have hGm : ∀ k, k ∈ [G] → k ∈ [G, gk, b] := fun k hk => by simp at hk; simp [hk]
                have hGm2 : ∀ k, k ∈ [G] → k ∈ N2 := fun k hk => hm2.out k (hGm k hk)
                have hGn : ∀ k, k ∈ [G] → k ∈ NB := fun k hk => by rw [hNB.out]; exact List.mem_append.2 (Or.inr (hGm2 k hk))
                have hbG : b ∉ [G] := by simp only [List.mem_cons, List.not_mem_nil, or_false]; exact HBN.out.2.1
                have hbeT := (FT.block b (Nat.lt_of_lt_of_le (lt_of_blk Yb.out) BZ.out.size) hbG).trans hbe
                have CGT : Hid (T.heap[G]? = some (.cells #[.slice V2 vn2 vc2, .int .i64 0] 33 (0, 0))) := by rw [hT.out]; exact setRow_heap _ _ _ _ _ _ CGZ.out
                have CKT : Hid (T.heap[gk]? = some (.cells #[.slice Kb i kc] 30 (0, 0))) := (FT.block gk (lt_of_blk CKZ.out) (by simp only [List.mem_cons, List.not_mem_nil, or_false]; have := hgkG.out; omega)).trans CKZ.out
                have Tb : Hid (T.heap[b]? = some (.cells (cur.setIfInBounds (i * 5 + 3) (.slice Dg dn dc)) 40 (0, 0))) := hbeT.trans Yb.out
                have Tq : Hid (T.rangeAt b (i * 5) [.int .i64 x.au, .int .i64 x.sq, .int .i64 x.ep, .slice Dg dn dc, .slice q.D q.m q.c]) := range_blk Yq.out hbeT
                have RTj : Hid (∀ j q', i + 1 ≤ j → Qs[j]? = some q' → T.rangeAt b (j * 5) (lqC q')) := fun j q' hj hq' => range_blk (RYj.out j q' hj hq') hbeT
                have HKT : Hid (OwnR N2 X0.heap.size T Kb i kc S Ks) := (HKY.out.to BZ.out).fr FT hGm2 (fun k hk => hNO.out k (hGm2 k hk))
                have VTT : Hid (VtN NB T V2 vn2 (note hs (bytesL (gLn S x)))) := VZ.out.fr FT hGn (fun k hk => Or.inl hk)
                have DTT : Hid (RdN NB T 1 D2 32 ((digL hs (gLn S x)).map B8)) := DZ.out.fr FT hGn (fun k hk => Or.inl hk)
                have F3T : Hid (Fr [G, gk, b] X0 T [G, gk, b]) := (F3Y.out.trans (Fr.below BZ.out)).trans (FT.wide hGm)
                clear hGm hGm2 hGn hbG hbe hbeT FT hT QZ VZ DZ PZ BZ CGZ CKZ hZ Yq Yb RYj HKY VtY CGY CKY DGY BWY F3Y BX XG Xq hbX2 dX hX PX
                obtain ⟨X, hX⟩ : ∃ W, Hid (W = T.drew) := ⟨_, Lib.hid rfl⟩
                have dX : Below T.heap.size T X := by rw [hX.out]; exact below_drew (Below.refl _ _)
                have XK : Hid (X.heap[gk]? = some (.cells #[.slice Kb i kc] 30 (0, 0))) := (dX.block _ (lt_of_blk CKT.out)).trans CKT.out
                have Xb : Hid (X.heap[b]? = some (.cells (cur.setIfInBounds (i * 5 + 3) (.slice Dg dn dc)) 40 (0, 0))) := (dX.block _ (lt_of_blk Tb.out)).trans Tb.out
                have Xq : Hid (X.rangeAt b (i * 5) [.int .i64 x.au, .int .i64 x.sq, .int .i64 x.ep, .slice Dg dn dc, .slice q.D q.m q.c]) := range_blk Tq.out (dX.block b (lt_of_blk Tb.out))
                refine wp_region_noPanic ?_
                refine wp_region_G (S := fun w' => ∀ k, k ∈ [gk, b] → w'.heap[k]? = X.heap[k]?) (s := 22) (by kernel_rfl) ?_
                rw [← hX.out]
                have hS : ∀ k, k ∈ [gk, b] → X.heap[k]? = X.heap[k]? := fun _ _ => rfl
                refine wpAnyG_take (i := 0) (v := ?vrcx0) rfl (by kernel_rfl) (by kernel_rfl) (by kernel_rfl) (fun _ _ _ h => h) (by kernel_rfl) (Or.inl ⟨by rfl, ?hyrcx0⟩) hS ?restrcx0
                case hyrcx0 => (intro w' hSw; go_simp; first | done | with_reducible rfl)
                try simp only [Act.put, List.getElem_toArray, List.getElem_cons_zero, List.getElem_cons_succ, List.setIfInBounds_toArray, List.set_cons_zero, List.set_cons_succ]
                refine wpAnyG_take (i := 1) (v := .slice Kb i kc) rfl (by kernel_rfl) (by kernel_rfl) (by kernel_rfl) (fun _ _ _ h => h) (by kernel_rfl) (Or.inl ⟨by rfl, ?hyrcx1⟩) hS ?restrcx1
                case hyrcx1 => (intro w' hSw; have c0 : w'.cell? ⟨gk, 0, none⟩ = some (.slice Kb i kc) := cell_blk ((hSw gk (by simp)).trans XK.out) 0 rfl; go_simp; first | done | with_reducible rfl)
                try simp only [Act.put, List.getElem_toArray, List.getElem_cons_zero, List.getElem_cons_succ, List.setIfInBounds_toArray, List.set_cons_zero, List.set_cons_succ]
                refine wpAnyG_take (i := 2) (v := ?vrcx2) rfl (by kernel_rfl) (by kernel_rfl) (by kernel_rfl) (fun _ _ _ h => h) (by kernel_rfl) (Or.inl ⟨by rfl, ?hyrcx2⟩) hS ?restrcx2
                case hyrcx2 => (intro w' hSw; go_simp; first | done | with_reducible rfl)
                try simp only [Act.put, List.getElem_toArray, List.getElem_cons_zero, List.getElem_cons_succ, List.setIfInBounds_toArray, List.set_cons_zero, List.set_cons_succ]
                refine wpAnyG_take (i := 3) (v := ?vrcx3) rfl (by kernel_rfl) (by kernel_rfl) (by kernel_rfl) (fun _ _ _ h => h) (by kernel_rfl) (Or.inl ⟨by rfl, ?hyrcx3⟩) hS ?restrcx3
                case hyrcx3 => (intro w' hSw; go_simp; first | done | with_reducible rfl)
                try simp only [Act.put, List.getElem_toArray, List.getElem_cons_zero, List.getElem_cons_succ, List.setIfInBounds_toArray, List.set_cons_zero, List.set_cons_succ]
                refine wpAnyG_take (i := 4) (v := ?vrcx4) rfl (by kernel_rfl) (by kernel_rfl) (by kernel_rfl) (fun _ _ _ h => h) (by kernel_rfl) (Or.inl ⟨by rfl, ?hyrcx4⟩) hS ?restrcx4
                case hyrcx4 => (intro w' hSw; go_simp; first | done | with_reducible rfl)
                try simp only [Act.put, List.getElem_toArray, List.getElem_cons_zero, List.getElem_cons_succ, List.setIfInBounds_toArray, List.set_cons_zero, List.set_cons_succ]
                refine wpAnyG_take (i := 5) (v := ?vrcx5) rfl (by kernel_rfl) (by kernel_rfl) (by kernel_rfl) (fun _ _ _ h => h) (by kernel_rfl) (Or.inl ⟨by rfl, ?hyrcx5⟩) hS ?restrcx5
                case hyrcx5 => (intro w' hSw; go_simp; first | done | with_reducible rfl)
                try simp only [Act.put, List.getElem_toArray, List.getElem_cons_zero, List.getElem_cons_succ, List.setIfInBounds_toArray, List.set_cons_zero, List.set_cons_succ]
                refine wpAnyG_take (i := 6) (v := .int .i64 x.au) rfl (by kernel_rfl) (by kernel_rfl) (by kernel_rfl) (fun _ _ _ h => h) (by kernel_rfl) (Or.inl ⟨by rfl, ?hyrcx6⟩) hS ?restrcx6
                case hyrcx6 => (intro w' hSw; have c0 : w'.cell? ⟨b, i * 5, none⟩ = some (.int .i64 x.au) := range_cell Xq.out (hSw b (by simp)) (z := 0) rfl; go_simp; first | done | with_reducible rfl)
                try simp only [Act.put, List.getElem_toArray, List.getElem_cons_zero, List.getElem_cons_succ, List.setIfInBounds_toArray, List.set_cons_zero, List.set_cons_succ]
                refine wpAnyG_take (i := 7) (v := .slice D2 32 d2) rfl (by kernel_rfl) (by kernel_rfl) (by kernel_rfl) (fun _ _ _ h => h) (by kernel_rfl) (Or.inl ⟨by rfl, ?hyrcx7⟩) hS ?restrcx7
                case hyrcx7 => (intro w' hSw; go_simp; first | done | with_reducible rfl)
                try simp only [Act.put, List.getElem_toArray, List.getElem_cons_zero, List.getElem_cons_succ, List.setIfInBounds_toArray, List.set_cons_zero, List.set_cons_succ]
                refine wpAnyG_take (i := 8) (v := ?vrcx8) rfl (by kernel_rfl) (by kernel_rfl) (by kernel_rfl) (fun _ _ _ h => h) (by kernel_rfl) (Or.inl ⟨by rfl, ?hyrcx8⟩) hS ?restrcx8
                case hyrcx8 => (intro w' hSw; go_simp; first | done | with_reducible rfl)
                try simp only [Act.put, List.getElem_toArray, List.getElem_cons_zero, List.getElem_cons_succ, List.setIfInBounds_toArray, List.set_cons_zero, List.set_cons_succ]
                refine wpAnyG_take (i := 9) (v := ?vrcx9) rfl (by kernel_rfl) (by kernel_rfl) (by kernel_rfl) (fun _ _ _ h => h) (by kernel_rfl) (Or.inl ⟨by rfl, ?hyrcx9⟩) hS ?restrcx9
                case hyrcx9 => (intro w' hSw; go_simp; first | done | with_reducible rfl)
                try simp only [Act.put, List.getElem_toArray, List.getElem_cons_zero, List.getElem_cons_succ, List.setIfInBounds_toArray, List.set_cons_zero, List.set_cons_succ]
                refine wpAnyG_take (i := 10) (v := ?vrcx10) rfl (by kernel_rfl) (by kernel_rfl) (by kernel_rfl) (fun _ _ _ h => h) (by kernel_rfl) (Or.inl ⟨by rfl, ?hyrcx10⟩) hS ?restrcx10
                case hyrcx10 => (intro w' hSw; go_simp; first | done | with_reducible rfl)
                try simp only [Act.put, List.getElem_toArray, List.getElem_cons_zero, List.getElem_cons_succ, List.setIfInBounds_toArray, List.set_cons_zero, List.set_cons_succ]
                refine wpAnyG_take (i := 11) (v := ?vrcx11) rfl (by kernel_rfl) (by kernel_rfl) (by kernel_rfl) (fun _ _ _ h => h) (by kernel_rfl) (Or.inl ⟨by rfl, ?hyrcx11⟩) hS ?restrcx11
                case hyrcx11 => (intro w' hSw; go_simp; first | done | with_reducible rfl)
                try simp only [Act.put, List.getElem_toArray, List.getElem_cons_zero, List.getElem_cons_succ, List.setIfInBounds_toArray, List.set_cons_zero, List.set_cons_succ]
                refine wpAnyG_take (i := 12) (v := .slice q.D q.m q.c) rfl (by kernel_rfl) (by kernel_rfl) (by kernel_rfl) (fun _ _ _ h => h) (by kernel_rfl) (Or.inl ⟨by rfl, ?hyrcx12⟩) hS ?restrcx12
                case hyrcx12 => (intro w' hSw; have c4 : w'.cell? ⟨b, i * 5 + 4, none⟩ = some (.slice q.D q.m q.c) := range_cell Xq.out (hSw b (by simp)) (z := 4) rfl; go_simp; first | done | with_reducible rfl)
                try simp only [Act.put, List.getElem_toArray, List.getElem_cons_zero, List.getElem_cons_succ, List.setIfInBounds_toArray, List.set_cons_zero, List.set_cons_succ]
                refine wpAnyG_take (i := 13) (v := ?vrcx13) rfl (by kernel_rfl) (by kernel_rfl) (by kernel_rfl) (fun _ _ _ h => h) (by kernel_rfl) (Or.inl ⟨by rfl, ?hyrcx13⟩) hS ?restrcx13
                case hyrcx13 => (intro w' hSw; go_simp; first | done | with_reducible rfl)
                try simp only [Act.put, List.getElem_toArray, List.getElem_cons_zero, List.getElem_cons_succ, List.setIfInBounds_toArray, List.set_cons_zero, List.set_cons_succ]
                refine wpAnyG_take (i := 14) (v := ?vrcx14) rfl (by kernel_rfl) (by kernel_rfl) (by kernel_rfl) (fun _ _ _ h => h) (by kernel_rfl) (Or.inl ⟨by rfl, ?hyrcx14⟩) hS ?restrcx14
                case hyrcx14 => (intro w' hSw; go_simp; first | done | with_reducible rfl)
                try simp only [Act.put, List.getElem_toArray, List.getElem_cons_zero, List.getElem_cons_succ, List.setIfInBounds_toArray, List.set_cons_zero, List.set_cons_succ]
                refine wpAnyG_take (i := 15) (v := ?vrcx15) rfl (by kernel_rfl) (by kernel_rfl) (by kernel_rfl) (fun _ _ _ h => h) (by kernel_rfl) (Or.inl ⟨by rfl, ?hyrcx15⟩) hS ?restrcx15
                case hyrcx15 => (intro w' hSw; go_simp; first | done | with_reducible rfl)
                try simp only [Act.put, List.getElem_toArray, List.getElem_cons_zero, List.getElem_cons_succ, List.setIfInBounds_toArray, List.set_cons_zero, List.set_cons_succ]
                refine wpAnyG_take (i := 16) (v := ?vrcx16) rfl (by kernel_rfl) (by kernel_rfl) (by kernel_rfl) (fun _ _ _ h => h) (by kernel_rfl) (Or.inl ⟨by rfl, ?hyrcx16⟩) hS ?restrcx16
                case hyrcx16 => (intro w' hSw; go_simp; first | done | with_reducible rfl)
                try simp only [Act.put, List.getElem_toArray, List.getElem_cons_zero, List.getElem_cons_succ, List.setIfInBounds_toArray, List.set_cons_zero, List.set_cons_succ]
                refine wpAnyG_take (i := 17) (v := .int .i64 x.ep) rfl (by kernel_rfl) (by kernel_rfl) (by kernel_rfl) (fun _ _ _ h => h) (by kernel_rfl) (Or.inl ⟨by rfl, ?hyrcx17⟩) hS ?restrcx17
                case hyrcx17 => (intro w' hSw; have c2 : w'.cell? ⟨b, i * 5 + 2, none⟩ = some (.int .i64 x.ep) := range_cell Xq.out (hSw b (by simp)) (z := 2) rfl; go_simp; first | done | with_reducible rfl)
                try simp only [Act.put, List.getElem_toArray, List.getElem_cons_zero, List.getElem_cons_succ, List.setIfInBounds_toArray, List.set_cons_zero, List.set_cons_succ]
                refine wpAnyG_take (i := 18) (v := .agg #[.int .i64 x.au, .slice D2 32 d2, .slice q.D q.m q.c, .int .i64 x.ep]) rfl (by kernel_rfl) (by kernel_rfl) (by kernel_rfl) (fun _ _ _ h => h) (by kernel_rfl) (Or.inl ⟨by rfl, ?hyrcx18⟩) hS ?restrcx18
                case hyrcx18 => (intro w' hSw; go_simp; first | done | with_reducible rfl)
                try simp only [Act.put, List.getElem_toArray, List.getElem_cons_zero, List.getElem_cons_succ, List.setIfInBounds_toArray, List.set_cons_zero, List.set_cons_succ]
                refine wpAnyG_ready (rs := [19]) (by kernel_rfl) (by simp) ?_
                refine AllReadyG.cons rfl (fun K hK => ?_) AllReadyG.nil
                go_simp
                obtain ⟨U, hU⟩ : ∃ W0, Hid (W0 = X.alloc (.cells #[.int .i64 x.au, .slice D2 32 d2, .slice q.D q.m q.c, .int .i64 x.ep] 127)) := ⟨_, Lib.hid rfl⟩
                obtain ⟨q5, hq5⟩ : ∃ q, Hid (q = X.heap.size) := ⟨_, Lib.hid rfl⟩
                have gU : Below X.heap.size X U := by rw [hU.out]; exact (Below.refl _ _).alloc (Nat.le_refl _) _
                have bU : Below T.heap.size T U := dX.trans (gU.mono dX.size)
                have L5 : Hid (Rd U U.heap.size 4 (some ⟨q5, 0, none⟩) 1 (rkC (⟨x.au, D2, 32, d2, q.D, q.m, q.c, x.ep⟩ : Rk))) := by rw [hU.out, hq5.out]; exact (rowK X (⟨x.au, D2, 32, d2, q.D, q.m, q.c, x.ep⟩ : Rk) 127).more (by rw [szAlloc]; exact Nat.le_refl _)
                have HKU := Lib.hid (HKT.out.to bU)
                have hXU : Hid (X0.heap.size ≤ U.heap.size) := Nat.le_trans F3T.out.size bU.size
                rw [← hU.out, ← hq5.out]
                have SU : ∀ k, k ∈ [gk, b] → U.heap[k]? = X.heap[k]? := fun k hk => gU.block k (by simp only [List.mem_cons, List.not_mem_nil, or_false] at hk; rcases hk with h | h; rw [h]; exact lt_of_blk XK.out; rw [h]; exact lt_of_blk Xb.out)
                refine hK.out _ _ (fun _ => SU) ?_
                clear hK K hS
                try simp only [Act.put, List.getElem_toArray, List.getElem_cons_zero, List.getElem_cons_succ, List.setIfInBounds_toArray, List.set_cons_zero, List.set_cons_succ]
                have hS := SU
                refine wpAnyG_ready (rs := [20]) (by kernel_rfl) (by simp) ?_
                refine AllReadyG.cons rfl (fun K hK => ?_) AllReadyG.nil
                refine step_app (.tmp 118) (.tmp 136) 28 rfl rfl X0.heap.size 127 4 64 _ Try.underlying28 infoK rfl (by decide) (.slice Kb i kc) i _ rfl HKU.out.row _ (some ⟨q5, 0, none⟩) 1 1 (rkC (⟨x.au, D2, 32, d2, q.D, q.m, q.c, x.ep⟩ : Rk)) rfl L5.out (rkC_one _) (by simp only [maxLen]; omega) (by omega) hXU.out ?_
                intro A6 c6 w6 o6 g6 k6
                have hne : ∀ k, k < X0.heap.size → (Value.slice Kb i kc).ownBlock ≠ some k := fun k hk e => by have h1 := own_block_ge2 HKU.out.row k e; omega
                have S6 : ∀ k, k ∈ [gk, b] → w6.heap[k]? = X.heap[k]? := fun k hk => (g6.block k (Nat.lt_of_lt_of_le (by simp only [List.mem_cons, List.not_mem_nil, or_false] at hk; rcases hk with h | h; rw [h]; exact lt_of_blk XK.out; rw [h]; exact lt_of_blk Xb.out) gU.size) (fun e => hne k (hNO.out k (hm2.out k (by simp only [List.mem_cons, List.not_mem_nil, or_false] at hk ⊢; rcases hk with h | h; exact Or.inr (Or.inl h); exact Or.inr (Or.inr h)))) e.symm)).trans (SU k hk)
                refine hK.out _ _ (fun _ => S6) ?_
                clear hK K hS
                try simp only [Act.put, List.getElem_toArray, List.getElem_cons_zero, List.getElem_cons_succ, List.setIfInBounds_toArray, List.set_cons_zero, List.set_cons_succ]
                have hS := S6
                refine wpAnyG_take (i := 21) (v := ?vrcx21) rfl (by kernel_rfl) (by kernel_rfl) (by kernel_rfl) (fun _ _ _ h => h) (by kernel_rfl) (Or.inl ⟨by rfl, ?hyrcx21⟩) hS ?restrcx21
                case hyrcx21 => (intro w' hSw; go_simp; first | done | with_reducible rfl)
                try simp only [Act.put, List.getElem_toArray, List.getElem_cons_zero, List.getElem_cons_succ, List.setIfInBounds_toArray, List.set_cons_zero, List.set_cons_succ]
                have K6 : Hid (w6.heap[gk]? = some (.cells #[.slice Kb i kc] 30 (0, 0))) := (S6 gk (by simp)).trans XK.out
                refine wpAnyG_ready (rs := [22]) (by kernel_rfl) (by simp) ?_
                refine AllReadyG.cons rfl (fun K hK => ?_) AllReadyG.nil
                have s0 := cell_blk K6.out 0 rfl
                have s1 := frozen_blk K6.out 0
                go_simp
                clear s0 s1
                obtain ⟨R, hR9⟩ : ∃ W0, Hid (W0 = w6.setCell ⟨gk, 0, none⟩ (.slice A6 (i + 1) c6)) := ⟨_, Lib.hid rfl⟩
                rw [← hR9.out]
                have FR : Fr [gk] w6 R [gk] := by rw [hR9.out]; exact setCell_fr _ _ _ _
                refine hK.out _ _ (fun h => absurd (h.symm.trans (by kernel_rfl : _ = true)) (by decide)) ?_
                clear hK K hS
                try simp only [Act.put, List.getElem_toArray, List.getElem_cons_zero, List.getElem_cons_succ, List.setIfInBounds_toArray, List.set_cons_zero, List.set_cons_succ]
                refine wpAnyG_done (by kernel_rfl) (NoPanic.normal ?_) _
                have bgr : Below X0.heap.size U w6 := below_grown g6 (own_block_ge2 HKU.out.row) hXU.out
                have F6 : Hid (Fr [G, gk, b] X0 w6 [G, gk, b]) := (F3T.out.trans (Fr.below bU)).tail bgr
                have FR3 : Hid (Fr [G, gk, b] X0 R [G, gk, b]) := F6.out.trans (FR.wide (fun k hk => by simp at hk; simp [hk]))
                have eG : w6.heap[G]? = T.heap[G]? := (g6.block G (Nat.lt_of_lt_of_le (lt_of_blk CGT.out) bU.size) (fun e => hne G (hNO.out G (hm2.out G (by simp))) e.symm)).trans (bU.block G (lt_of_blk CGT.out))
                have hGgk : G ∉ [gk] := by simp only [List.mem_cons, List.not_mem_nil, or_false]; have := hgkG.out; omega
                have hbgk : b ∉ [gk] := by simp only [List.mem_cons, List.not_mem_nil, or_false]; exact hbk.out
                have CG6 : w6.heap[G]? = some (.cells #[.slice V2 vn2 vc2, .int .i64 0] 33 (0, 0)) := eG.trans CGT.out
                have CGR : Hid (R.heap[G]? = some (.cells #[.slice V2 vn2 vc2, .int .i64 0] 33 (0, 0))) := (FR.block G (lt_of_blk CG6) hGgk).trans CG6
                have CKR : Hid (R.heap[gk]? = some (.cells #[.slice A6 (i + 1) c6] 30 (0, 0))) := by rw [hR9.out]; exact heap_set K6.out _
                have Cb6 := (S6 b (by simp)).trans Xb.out
                have ebR : R.heap[b]? = X.heap[b]? := (FR.block b (lt_of_blk Cb6) hbgk).trans (S6 b (by simp))
                have CbR : Hid (0 < m → (∃ cur, R.heap[b]? = some (.cells cur 40 (0, 0))) ∧ ∀ j q, i + 1 ≤ j → Qs[j]? = some q → R.rangeAt b (j * 5) (lqC q)) := fun _ => ⟨⟨_, ebR.trans Xb.out⟩, fun j q' hj hq' => range_blk (range_blk (RTj.out j q' hj hq') (dX.block b (lt_of_blk Tb.out))) ebR⟩
                have hgk1 : ∀ k, k ∈ [gk] → k ∈ N2 := fun k hk => hm2.out k (by simp at hk; simp [hk])
                have BWU : Below w.heap.size w U := BW0.out.trans (((F3T.out.trans (Fr.below bU)).toBelow (fun k hk => by have h1 := hgkG.out; have h2 := hG.out; have h3 := (HB.out (by omega)).2.1; have h4 := hWs.out; simp only [List.mem_cons, List.not_mem_nil, or_false] at hk; rcases hk with h | h | h <;> omega) BW0.out.size))
                have NBw : ∀ k, k ∈ (Value.slice Kb i kc).ownBlock.toList ++ N2 → w.heap.size ≤ k := fun k hk => by
                  rcases List.mem_append.1 hk with h | h
                  · have h1 := own_block_ge2 HKU.out.row k (by simpa using h); have h2 := BW0.out.size; omega
                  · exact hNw.out k h
                have VTU := VTT.out.below bU
                have DTU := DTT.out.below bU
                rw [hNB.out] at VTU DTU
                have hx1 : RkX ((Value.slice Kb i kc).ownBlock.toList ++ N2) U (⟨x.au, D2, 32, d2, q.D, q.m, q.c, x.ep⟩ : Rk) (x.au, knL hs (gLn S x)) := ⟨rfl, rfl, DTU, D32.out, rd_static HT.out.bd BWU NBw, HT.out.le⟩
                have KR : Hid (∃ Ks, OwnR N2 X0.heap.size R A6 (i + 1) c6 (S ++ [(x.au, knL hs (gLn S x))]) Ks) := ⟨_, (HKU.out.snoc hx1 g6 k6 o6).fr FR hgk1 (fun k hk => hNO.out k (hgk1 k hk))⟩
                have VR : Hid (VtN ((Value.slice A6 (i + 1) c6).ownBlock.toList ++ N2) R V2 vn2 (note hs (bytesL (gLn S x)))) := by
                  obtain ⟨hf, s2⟩ := grow_no (no := N2) g6 k6
                  exact (VTU.fr hf (fun k hk => List.mem_append.2 (Or.inl hk)) s2).fr FR (fun k hk => List.mem_append.2 (Or.inr (hgk1 k hk))) (fun k hk => Or.inl hk)
                have SR : Hid (getS (s.L.take (i + 1)) [] [] = (S ++ [(x.au, knL hs (gLn S x))], note hs (bytesL (gLn S x)))) := by
                  have h1 : s.L.take (i + 1) = s.L.take i ++ [x] := by rw [List.take_add_one, HXi.out]; rfl
                  unfold Hid; rw [h1, getS_snoc, hS0.out]
                clear VTU DTU hx1 o6 g6 k6 NBw BWU ebR Cb6 CG6 eG hGgk hbgk hgk1 bgr F6 K6 hne SU S6 FR HKU hXU bU gU L5 XK Xb Xq dX hX hU hR9
                go_wp2_with fail
                go_roundw
                case rel => exact ⟨i + 1, A6, c6, V2, vn2, vc2, S ++ [(x.au, knL hs (gLn S x))], note hs (bytesL (gLn S x)), by go_num, by omega, SR, FR3, CGR, CKR, CbR, KR, VR, VC2⟩
                case measure => simp only [intOf]; omega
              · go_simp
                obtain ⟨V1, hV1⟩ : ∃ W0, Hid (W0 = U.alloc (.cells #[.slice none 0 0, .int .i64 0] 33)) := ⟨_, Lib.hid rfl⟩
                obtain ⟨q0, hq0⟩ : ∃ q, Hid (q = U.heap.size) := ⟨_, Lib.hid rfl⟩
                have gV1 : Below U.heap.size U V1 := by rw [hV1.out]; exact (Below.refl _ _).alloc (Nat.le_refl _) _
                have PV1 := Lib.hid (PU.out.trans (gV1.mono PU.out.size))
                have Q0 : Hid (V1.heap[q0]? = some (.cells #[.slice none 0 0, .int .i64 0] 33 (0, 0))) := by unfold Hid; rw [hV1.out, hq0.out]; exact heap_alloc_new _ _
                have hqX : Hid (X.heap.size ≤ q0) := by unfold Hid; rw [hq0.out]; exact PU.out.size
                have hqG : Hid (Y.heap.size ≤ q0) := Nat.le_trans BX.out.size hqX.out
                have hqlV1 : Hid (q0 < V1.heap.size) := lt_of_blk Q0.out
                rw [← hV1.out, ← hq0.out]
                have SV1 : ∀ k, k ∈ [G, b] → V1.heap[k]? = X.heap[k]? := fun k hk => PV1.out.block k (by simp only [List.mem_cons, List.not_mem_nil, or_false] at hk; rcases hk with h | h; rw [h]; exact lt_of_blk XG.out; rw [h]; exact hbX2.out)
                refine hK.out _ _ SV1 ?_
                intro hS
                clear hK K hS
                try simp only [Act.put, List.getElem_toArray, List.getElem_cons_zero, List.getElem_cons_succ, List.setIfInBounds_toArray, List.set_cons_zero, List.set_cons_succ]
                replace P7 : Hid (RdN (q0 :: NB) V1 1 A7 m7 ((bytesL (gLn S x)).map B8)) := P7.out.fr (own := []) (own' := []) (Fr.below gV1) (fun _ h => absurd h (by simp)) (fun k hk => by rcases List.mem_cons.1 hk with h | h; exact Or.inr (by rw [h, hq0.out]; exact Nat.le_refl _); exact Or.inl h)
                refine wpAnyH_ready (rs := [6]) (by kernel_rfl) (by simp) ?_
                refine AllReadyH.cons rfl (fun K hK => ?_) AllReadyH.nil
                go_simp
                refine (refHashN_ V vn vc 0 A7 m7 c7 hs (bytesL (gLn S x)) (q0 :: NB) V1 (VtY.out.fr (own := []) (own' := []) (Fr.below (BX.out.trans (PV1.out.mono BX.out.size))) (fun _ h => absurd h (by simp)) (fun k hk => by rcases List.mem_cons.1 hk with h | h; exact Or.inr (h ▸ hqG.out); exact Or.inl h)) P7.out (by have h1 := hVN.out; omega) hvc.out (fun k hk => by rcases List.mem_cons.1 hk with h | hk; exact h ▸ hqlV1.out; exact Nat.lt_of_lt_of_le (NBY.out k hk) (BX.out.trans (PV1.out.mono BX.out.size)).size)).mono ?_
                rintro e V2w ⟨V2, vn2, vc2, D2, d2, rfl, hvc2, hv8, o8, bb⟩
                have PV2w := Lib.hid (PV1.out.trans (bb.mono PV1.out.size))
                have V8 : Hid (VtN (q0 :: NB) V2w V2 vn2 (note hs (bytesL (gLn S x)))) := hv8
                have D8 : Hid (RdN (q0 :: NB) V2w 1 D2 32 ((digL hs (gLn S x)).map B8)) := o8.rdNo (fun k hk => by rcases List.mem_cons.1 hk with h | hk; exact h ▸ hqlV1.out; exact Nat.lt_of_lt_of_le (NBY.out k hk) (BX.out.trans (PV1.out.mono BX.out.size)).size)
                have D32 : Hid (32 ≤ d2) := o8.le
                have VC2 := Lib.hid hvc2
                have gV2w := bb
                clear bb o8 hv8 hvc2
                go_wp2_with fail
                have SV2w : ∀ k, k ∈ [G, b] → V2w.heap[k]? = X.heap[k]? := fun k hk => PV2w.out.block k (by simp only [List.mem_cons, List.not_mem_nil, or_false] at hk; rcases hk with h | h; rw [h]; exact lt_of_blk XG.out; rw [h]; exact hbX2.out)
                refine hK.out _ _ SV2w ?_
                intro hS
                clear hK K hS
                try simp only [Act.put, List.getElem_toArray, List.getElem_cons_zero, List.getElem_cons_succ, List.setIfInBounds_toArray, List.set_cons_zero, List.set_cons_succ]
                replace Q0 : Hid (V2w.heap[q0]? = some (.cells #[.slice none 0 0, .int .i64 0] 33 (0, 0))) := (gV2w.block q0 hqlV1.out).trans Q0.out
                have hqlV2w : Hid (q0 < V2w.heap.size) := lt_of_blk Q0.out
                have hS : ∀ k, k ∈ [G, b] → V2w.heap[k]? = X.heap[k]? := SV2w
                refine wpAnyH_take (i := 7) (v := ?vrd7) rfl (by kernel_rfl) (by kernel_rfl) (by kernel_rfl) (fun _ _ _ h => h) (Or.inl ⟨by rfl, ?hyrd7⟩) hS ?restrd7
                case hyrd7 => (intro w' hSw; go_simp; first | done | with_reducible rfl)
                try simp only [Act.put, List.getElem_toArray, List.getElem_cons_zero, List.getElem_cons_succ, List.setIfInBounds_toArray, List.set_cons_zero, List.set_cons_succ]
                refine wpAnyH_take (i := 8) (v := .agg #[.slice V2 vn2 vc2, .int .i64 0]) rfl (by kernel_rfl) (by kernel_rfl) (by kernel_rfl) (fun _ _ _ h => h) (Or.inl ⟨by rfl, ?hyrd8⟩) hS ?restrd8
                case hyrd8 => (intro w' hSw; go_simp; first | done | with_reducible rfl)
                try simp only [Act.put, List.getElem_toArray, List.getElem_cons_zero, List.getElem_cons_succ, List.setIfInBounds_toArray, List.set_cons_zero, List.set_cons_succ]
                refine wpAnyH_take (i := 9) (v := .slice D2 32 d2) rfl (by kernel_rfl) (by kernel_rfl) (by kernel_rfl) (fun _ _ _ h => h) (Or.inl ⟨by rfl, ?hyrd9⟩) hS ?restrd9
                case hyrd9 => (intro w' hSw; go_simp; first | done | with_reducible rfl)
                try simp only [Act.put, List.getElem_toArray, List.getElem_cons_zero, List.getElem_cons_succ, List.setIfInBounds_toArray, List.set_cons_zero, List.set_cons_succ]
                refine wpAnyH_ready (rs := [11]) (by kernel_rfl) (by simp) ?_
                refine AllReadyH.cons rfl (fun K hK => ?_) AllReadyH.nil
                refine step_store_row 33 (.tmp 16) (.tmp 114) rfl rfl q0 #[.slice V2 vn2 vc2, .int .i64 0] rfl rfl _ _ Q0.out (by kernel_rfl) rfl (by kernel_rfl) ?_
                obtain ⟨Z, hZ⟩ : ∃ W0, Hid (W0 = V2w.setRow q0 #[.slice V2 vn2 vc2, .int .i64 0]) := ⟨_, Lib.hid rfl⟩
                have FZ : Fr [q0] V2w Z [q0] := by rw [hZ.out]; exact setRow_fr _ _ _
                have QZ : Hid (Z.heap[q0]? = some (.cells #[.slice V2 vn2 vc2, .int .i64 0] 33 (0, 0))) := by unfold Hid; rw [hZ.out]; exact setRow_heap _ _ _ _ _ _ Q0.out
                rw [← hZ.out]
                have VZ : Hid (VtN NB Z V2 vn2 (note hs (bytesL (gLn S x)))) := V8.out.fr FZ (fun k hk => by simp at hk; simp [hk]) (fun k hk => Or.inl (List.mem_cons_of_mem _ hk))
                have DZ : Hid (RdN NB Z 1 D2 32 ((digL hs (gLn S x)).map B8)) := D8.out.fr FZ (fun k hk => by simp at hk; simp [hk]) (fun k hk => Or.inl (List.mem_cons_of_mem _ hk))
                have PZ : Hid (Below X.heap.size X Z) := by unfold Hid; rw [hZ.out]; exact below_setRow PV2w.out hqX.out _
                have BZ : Hid (Below Y.heap.size Y Z) := BX.out.trans (PZ.out.mono BX.out.size)
                have SZ : ∀ k, k ∈ [G, b] → Z.heap[k]? = X.heap[k]? := fun k hk => PZ.out.block k (by simp only [List.mem_cons, List.not_mem_nil, or_false] at hk; rcases hk with h | h; rw [h]; exact lt_of_blk XG.out; rw [h]; exact hbX2.out)
                refine hK.out _ _ SZ ?_
                intro hS
                clear hK K hS
                try simp only [Act.put, List.getElem_toArray, List.getElem_cons_zero, List.getElem_cons_succ, List.setIfInBounds_toArray, List.set_cons_zero, List.set_cons_succ]
                have hS : ∀ k, k ∈ [G, b] → Z.heap[k]? = X.heap[k]? := SZ
                refine wpAnyH_take (i := 12) (v := .slice D2 32 d2) rfl (by kernel_rfl) (by kernel_rfl) (by kernel_rfl) (fun _ _ _ h => h) (Or.inl ⟨by rfl, ?hyrd12⟩) hS ?restrd12
                case hyrd12 => (intro w' hSw; go_simp; first | done | with_reducible rfl)
                try simp only [Act.put, List.getElem_toArray, List.getElem_cons_zero, List.getElem_cons_succ, List.setIfInBounds_toArray, List.set_cons_zero, List.set_cons_succ]
                refine wpAnyH_done (by kernel_rfl) (NoPanic.normal ?_) _
                have c0 := cell_blk QZ.out 0 rfl
                have c1 := cell_blk QZ.out 1 rfl
                have CGZ : Hid (Z.heap[G]? = some (.cells #[.slice V vn vc, .int .i64 0] 33 (0, 0))) := (BZ.out.block _ (lt_of_blk CGY.out)).trans CGY.out
                have CKZ : Hid (Z.heap[gk]? = some (.cells #[.slice Kb i kc] 30 (0, 0))) := (BZ.out.block _ (lt_of_blk CKY.out)).trans CKY.out
                have hbe := BZ.out.block b (lt_of_blk Yb.out)
                go_wp2_with (refine wpList_store_row rfl 33 (.tmp 2) (.tmp 116) rfl G #[.slice V2 vn2 vc2, .int .i64 0] rfl rfl _ _ CGZ.out (by kernel_rfl) rfl (by kernel_rfl) ?_)
                clear c0 c1
                obtain ⟨T, hT⟩ : ∃ T, Hid (T = Z.setRow G #[.slice V2 vn2 vc2, .int .i64 0]) := ⟨_, Lib.hid rfl⟩
                rw [← hT.out]
                have FT : Fr [G] Z T [G] := by rw [hT.out]; exact setRow_fr _ _ _
                have hGm : ∀ k, k ∈ [G] → k ∈ [G, gk, b] := fun k hk => by simp at hk; simp [hk]
                have hGm2 : ∀ k, k ∈ [G] → k ∈ N2 := fun k hk => hm2.out k (hGm k hk)
                have hGn : ∀ k, k ∈ [G] → k ∈ NB := fun k hk => by rw [hNB.out]; exact List.mem_append.2 (Or.inr (hGm2 k hk))
                have hbG : b ∉ [G] := by simp only [List.mem_cons, List.not_mem_nil, or_false]; exact HBN.out.2.1
                have hbeT := (FT.block b (Nat.lt_of_lt_of_le (lt_of_blk Yb.out) BZ.out.size) hbG).trans hbe
                have CGT : Hid (T.heap[G]? = some (.cells #[.slice V2 vn2 vc2, .int .i64 0] 33 (0, 0))) := by rw [hT.out]; exact setRow_heap _ _ _ _ _ _ CGZ.out
                have CKT : Hid (T.heap[gk]? = some (.cells #[.slice Kb i kc] 30 (0, 0))) := (FT.block gk (lt_of_blk CKZ.out) (by simp only [List.mem_cons, List.not_mem_nil, or_false]; have := hgkG.out; omega)).trans CKZ.out
                have Tb : Hid (T.heap[b]? = some (.cells (cur.setIfInBounds (i * 5 + 3) (.slice Dg dn dc)) 40 (0, 0))) := hbeT.trans Yb.out
                have Tq : Hid (T.rangeAt b (i * 5) [.int .i64 x.au, .int .i64 x.sq, .int .i64 x.ep, .slice Dg dn dc, .slice q.D q.m q.c]) := range_blk Yq.out hbeT
                have RTj : Hid (∀ j q', i + 1 ≤ j → Qs[j]? = some q' → T.rangeAt b (j * 5) (lqC q')) := fun j q' hj hq' => range_blk (RYj.out j q' hj hq') hbeT
                have HKT : Hid (OwnR N2 X0.heap.size T Kb i kc S Ks) := (HKY.out.to BZ.out).fr FT hGm2 (fun k hk => hNO.out k (hGm2 k hk))
                have VTT : Hid (VtN NB T V2 vn2 (note hs (bytesL (gLn S x)))) := VZ.out.fr FT hGn (fun k hk => Or.inl hk)
                have DTT : Hid (RdN NB T 1 D2 32 ((digL hs (gLn S x)).map B8)) := DZ.out.fr FT hGn (fun k hk => Or.inl hk)
                have F3T : Hid (Fr [G, gk, b] X0 T [G, gk, b]) := (F3Y.out.trans (Fr.below BZ.out)).trans (FT.wide hGm)
                clear hGm hGm2 hGn hbG hbe hbeT FT hT QZ VZ DZ PZ BZ CGZ CKZ hZ Yq Yb RYj HKY VtY CGY CKY DGY BWY F3Y BX XG Xq hbX2 dX hX PX
                obtain ⟨X, hX⟩ : ∃ W, Hid (W = T.drew) := ⟨_, Lib.hid rfl⟩
                have dX : Below T.heap.size T X := by rw [hX.out]; exact below_drew (Below.refl _ _)
                have XK : Hid (X.heap[gk]? = some (.cells #[.slice Kb i kc] 30 (0, 0))) := (dX.block _ (lt_of_blk CKT.out)).trans CKT.out
                have Xb : Hid (X.heap[b]? = some (.cells (cur.setIfInBounds (i * 5 + 3) (.slice Dg dn dc)) 40 (0, 0))) := (dX.block _ (lt_of_blk Tb.out)).trans Tb.out
                have Xq : Hid (X.rangeAt b (i * 5) [.int .i64 x.au, .int .i64 x.sq, .int .i64 x.ep, .slice Dg dn dc, .slice q.D q.m q.c]) := range_blk Tq.out (dX.block b (lt_of_blk Tb.out))
                refine wp_region_noPanic ?_
                refine wp_region_G (S := fun w' => ∀ k, k ∈ [gk, b] → w'.heap[k]? = X.heap[k]?) (s := 22) (by kernel_rfl) ?_
                rw [← hX.out]
                have hS : ∀ k, k ∈ [gk, b] → X.heap[k]? = X.heap[k]? := fun _ _ => rfl
                refine wpAnyG_take (i := 0) (v := ?vrdx0) rfl (by kernel_rfl) (by kernel_rfl) (by kernel_rfl) (fun _ _ _ h => h) (by kernel_rfl) (Or.inl ⟨by rfl, ?hyrdx0⟩) hS ?restrdx0
                case hyrdx0 => (intro w' hSw; go_simp; first | done | with_reducible rfl)
                try simp only [Act.put, List.getElem_toArray, List.getElem_cons_zero, List.getElem_cons_succ, List.setIfInBounds_toArray, List.set_cons_zero, List.set_cons_succ]
                refine wpAnyG_take (i := 1) (v := .slice Kb i kc) rfl (by kernel_rfl) (by kernel_rfl) (by kernel_rfl) (fun _ _ _ h => h) (by kernel_rfl) (Or.inl ⟨by rfl, ?hyrdx1⟩) hS ?restrdx1
                case hyrdx1 => (intro w' hSw; have c0 : w'.cell? ⟨gk, 0, none⟩ = some (.slice Kb i kc) := cell_blk ((hSw gk (by simp)).trans XK.out) 0 rfl; go_simp; first | done | with_reducible rfl)
                try simp only [Act.put, List.getElem_toArray, List.getElem_cons_zero, List.getElem_cons_succ, List.setIfInBounds_toArray, List.set_cons_zero, List.set_cons_succ]
                refine wpAnyG_take (i := 2) (v := ?vrdx2) rfl (by kernel_rfl) (by kernel_rfl) (by kernel_rfl) (fun _ _ _ h => h) (by kernel_rfl) (Or.inl ⟨by rfl, ?hyrdx2⟩) hS ?restrdx2
                case hyrdx2 => (intro w' hSw; go_simp; first | done | with_reducible rfl)
                try simp only [Act.put, List.getElem_toArray, List.getElem_cons_zero, List.getElem_cons_succ, List.setIfInBounds_toArray, List.set_cons_zero, List.set_cons_succ]
                refine wpAnyG_take (i := 3) (v := ?vrdx3) rfl (by kernel_rfl) (by kernel_rfl) (by kernel_rfl) (fun _ _ _ h => h) (by kernel_rfl) (Or.inl ⟨by rfl, ?hyrdx3⟩) hS ?restrdx3
                case hyrdx3 => (intro w' hSw; go_simp; first | done | with_reducible rfl)
                try simp only [Act.put, List.getElem_toArray, List.getElem_cons_zero, List.getElem_cons_succ, List.setIfInBounds_toArray, List.set_cons_zero, List.set_cons_succ]
                refine wpAnyG_take (i := 4) (v := ?vrdx4) rfl (by kernel_rfl) (by kernel_rfl) (by kernel_rfl) (fun _ _ _ h => h) (by kernel_rfl) (Or.inl ⟨by rfl, ?hyrdx4⟩) hS ?restrdx4
                case hyrdx4 => (intro w' hSw; go_simp; first | done | with_reducible rfl)
                try simp only [Act.put, List.getElem_toArray, List.getElem_cons_zero, List.getElem_cons_succ, List.setIfInBounds_toArray, List.set_cons_zero, List.set_cons_succ]
                refine wpAnyG_take (i := 5) (v := ?vrdx5) rfl (by kernel_rfl) (by kernel_rfl) (by kernel_rfl) (fun _ _ _ h => h) (by kernel_rfl) (Or.inl ⟨by rfl, ?hyrdx5⟩) hS ?restrdx5
                case hyrdx5 => (intro w' hSw; go_simp; first | done | with_reducible rfl)
                try simp only [Act.put, List.getElem_toArray, List.getElem_cons_zero, List.getElem_cons_succ, List.setIfInBounds_toArray, List.set_cons_zero, List.set_cons_succ]
                refine wpAnyG_take (i := 6) (v := .int .i64 x.au) rfl (by kernel_rfl) (by kernel_rfl) (by kernel_rfl) (fun _ _ _ h => h) (by kernel_rfl) (Or.inl ⟨by rfl, ?hyrdx6⟩) hS ?restrdx6
                case hyrdx6 => (intro w' hSw; have c0 : w'.cell? ⟨b, i * 5, none⟩ = some (.int .i64 x.au) := range_cell Xq.out (hSw b (by simp)) (z := 0) rfl; go_simp; first | done | with_reducible rfl)
                try simp only [Act.put, List.getElem_toArray, List.getElem_cons_zero, List.getElem_cons_succ, List.setIfInBounds_toArray, List.set_cons_zero, List.set_cons_succ]
                refine wpAnyG_take (i := 7) (v := .slice D2 32 d2) rfl (by kernel_rfl) (by kernel_rfl) (by kernel_rfl) (fun _ _ _ h => h) (by kernel_rfl) (Or.inl ⟨by rfl, ?hyrdx7⟩) hS ?restrdx7
                case hyrdx7 => (intro w' hSw; go_simp; first | done | with_reducible rfl)
                try simp only [Act.put, List.getElem_toArray, List.getElem_cons_zero, List.getElem_cons_succ, List.setIfInBounds_toArray, List.set_cons_zero, List.set_cons_succ]
                refine wpAnyG_take (i := 8) (v := ?vrdx8) rfl (by kernel_rfl) (by kernel_rfl) (by kernel_rfl) (fun _ _ _ h => h) (by kernel_rfl) (Or.inl ⟨by rfl, ?hyrdx8⟩) hS ?restrdx8
                case hyrdx8 => (intro w' hSw; go_simp; first | done | with_reducible rfl)
                try simp only [Act.put, List.getElem_toArray, List.getElem_cons_zero, List.getElem_cons_succ, List.setIfInBounds_toArray, List.set_cons_zero, List.set_cons_succ]
                refine wpAnyG_take (i := 9) (v := ?vrdx9) rfl (by kernel_rfl) (by kernel_rfl) (by kernel_rfl) (fun _ _ _ h => h) (by kernel_rfl) (Or.inl ⟨by rfl, ?hyrdx9⟩) hS ?restrdx9
                case hyrdx9 => (intro w' hSw; go_simp; first | done | with_reducible rfl)
                try simp only [Act.put, List.getElem_toArray, List.getElem_cons_zero, List.getElem_cons_succ, List.setIfInBounds_toArray, List.set_cons_zero, List.set_cons_succ]
                refine wpAnyG_take (i := 10) (v := ?vrdx10) rfl (by kernel_rfl) (by kernel_rfl) (by kernel_rfl) (fun _ _ _ h => h) (by kernel_rfl) (Or.inl ⟨by rfl, ?hyrdx10⟩) hS ?restrdx10
                case hyrdx10 => (intro w' hSw; go_simp; first | done | with_reducible rfl)
                try simp only [Act.put, List.getElem_toArray, List.getElem_cons_zero, List.getElem_cons_succ, List.setIfInBounds_toArray, List.set_cons_zero, List.set_cons_succ]
                refine wpAnyG_take (i := 11) (v := ?vrdx11) rfl (by kernel_rfl) (by kernel_rfl) (by kernel_rfl) (fun _ _ _ h => h) (by kernel_rfl) (Or.inl ⟨by rfl, ?hyrdx11⟩) hS ?restrdx11
                case hyrdx11 => (intro w' hSw; go_simp; first | done | with_reducible rfl)
                try simp only [Act.put, List.getElem_toArray, List.getElem_cons_zero, List.getElem_cons_succ, List.setIfInBounds_toArray, List.set_cons_zero, List.set_cons_succ]
                refine wpAnyG_take (i := 12) (v := .slice q.D q.m q.c) rfl (by kernel_rfl) (by kernel_rfl) (by kernel_rfl) (fun _ _ _ h => h) (by kernel_rfl) (Or.inl ⟨by rfl, ?hyrdx12⟩) hS ?restrdx12
                case hyrdx12 => (intro w' hSw; have c4 : w'.cell? ⟨b, i * 5 + 4, none⟩ = some (.slice q.D q.m q.c) := range_cell Xq.out (hSw b (by simp)) (z := 4) rfl; go_simp; first | done | with_reducible rfl)
                try simp only [Act.put, List.getElem_toArray, List.getElem_cons_zero, List.getElem_cons_succ, List.setIfInBounds_toArray, List.set_cons_zero, List.set_cons_succ]
                refine wpAnyG_take (i := 13) (v := ?vrdx13) rfl (by kernel_rfl) (by kernel_rfl) (by kernel_rfl) (fun _ _ _ h => h) (by kernel_rfl) (Or.inl ⟨by rfl, ?hyrdx13⟩) hS ?restrdx13
                case hyrdx13 => (intro w' hSw; go_simp; first | done | with_reducible rfl)
                try simp only [Act.put, List.getElem_toArray, List.getElem_cons_zero, List.getElem_cons_succ, List.setIfInBounds_toArray, List.set_cons_zero, List.set_cons_succ]
                refine wpAnyG_take (i := 14) (v := ?vrdx14) rfl (by kernel_rfl) (by kernel_rfl) (by kernel_rfl) (fun _ _ _ h => h) (by kernel_rfl) (Or.inl ⟨by rfl, ?hyrdx14⟩) hS ?restrdx14
                case hyrdx14 => (intro w' hSw; go_simp; first | done | with_reducible rfl)
                try simp only [Act.put, List.getElem_toArray, List.getElem_cons_zero, List.getElem_cons_succ, List.setIfInBounds_toArray, List.set_cons_zero, List.set_cons_succ]
                refine wpAnyG_take (i := 15) (v := ?vrdx15) rfl (by kernel_rfl) (by kernel_rfl) (by kernel_rfl) (fun _ _ _ h => h) (by kernel_rfl) (Or.inl ⟨by rfl, ?hyrdx15⟩) hS ?restrdx15
                case hyrdx15 => (intro w' hSw; go_simp; first | done | with_reducible rfl)
                try simp only [Act.put, List.getElem_toArray, List.getElem_cons_zero, List.getElem_cons_succ, List.setIfInBounds_toArray, List.set_cons_zero, List.set_cons_succ]
                refine wpAnyG_take (i := 16) (v := ?vrdx16) rfl (by kernel_rfl) (by kernel_rfl) (by kernel_rfl) (fun _ _ _ h => h) (by kernel_rfl) (Or.inl ⟨by rfl, ?hyrdx16⟩) hS ?restrdx16
                case hyrdx16 => (intro w' hSw; go_simp; first | done | with_reducible rfl)
                try simp only [Act.put, List.getElem_toArray, List.getElem_cons_zero, List.getElem_cons_succ, List.setIfInBounds_toArray, List.set_cons_zero, List.set_cons_succ]
                refine wpAnyG_take (i := 17) (v := .int .i64 x.ep) rfl (by kernel_rfl) (by kernel_rfl) (by kernel_rfl) (fun _ _ _ h => h) (by kernel_rfl) (Or.inl ⟨by rfl, ?hyrdx17⟩) hS ?restrdx17
                case hyrdx17 => (intro w' hSw; have c2 : w'.cell? ⟨b, i * 5 + 2, none⟩ = some (.int .i64 x.ep) := range_cell Xq.out (hSw b (by simp)) (z := 2) rfl; go_simp; first | done | with_reducible rfl)
                try simp only [Act.put, List.getElem_toArray, List.getElem_cons_zero, List.getElem_cons_succ, List.setIfInBounds_toArray, List.set_cons_zero, List.set_cons_succ]
                refine wpAnyG_take (i := 18) (v := .agg #[.int .i64 x.au, .slice D2 32 d2, .slice q.D q.m q.c, .int .i64 x.ep]) rfl (by kernel_rfl) (by kernel_rfl) (by kernel_rfl) (fun _ _ _ h => h) (by kernel_rfl) (Or.inl ⟨by rfl, ?hyrdx18⟩) hS ?restrdx18
                case hyrdx18 => (intro w' hSw; go_simp; first | done | with_reducible rfl)
                try simp only [Act.put, List.getElem_toArray, List.getElem_cons_zero, List.getElem_cons_succ, List.setIfInBounds_toArray, List.set_cons_zero, List.set_cons_succ]
                refine wpAnyG_ready (rs := [19]) (by kernel_rfl) (by simp) ?_
                refine AllReadyG.cons rfl (fun K hK => ?_) AllReadyG.nil
                go_simp
                obtain ⟨U, hU⟩ : ∃ W0, Hid (W0 = X.alloc (.cells #[.int .i64 x.au, .slice D2 32 d2, .slice q.D q.m q.c, .int .i64 x.ep] 127)) := ⟨_, Lib.hid rfl⟩
                obtain ⟨q5, hq5⟩ : ∃ q, Hid (q = X.heap.size) := ⟨_, Lib.hid rfl⟩
                have gU : Below X.heap.size X U := by rw [hU.out]; exact (Below.refl _ _).alloc (Nat.le_refl _) _
                have bU : Below T.heap.size T U := dX.trans (gU.mono dX.size)
                have L5 : Hid (Rd U U.heap.size 4 (some ⟨q5, 0, none⟩) 1 (rkC (⟨x.au, D2, 32, d2, q.D, q.m, q.c, x.ep⟩ : Rk))) := by rw [hU.out, hq5.out]; exact (rowK X (⟨x.au, D2, 32, d2, q.D, q.m, q.c, x.ep⟩ : Rk) 127).more (by rw [szAlloc]; exact Nat.le_refl _)
                have HKU := Lib.hid (HKT.out.to bU)
                have hXU : Hid (X0.heap.size ≤ U.heap.size) := Nat.le_trans F3T.out.size bU.size
                rw [← hU.out, ← hq5.out]
                have SU : ∀ k, k ∈ [gk, b] → U.heap[k]? = X.heap[k]? := fun k hk => gU.block k (by simp only [List.mem_cons, List.not_mem_nil, or_false] at hk; rcases hk with h | h; rw [h]; exact lt_of_blk XK.out; rw [h]; exact lt_of_blk Xb.out)
                refine hK.out _ _ (fun _ => SU) ?_
                clear hK K hS
                try simp only [Act.put, List.getElem_toArray, List.getElem_cons_zero, List.getElem_cons_succ, List.setIfInBounds_toArray, List.set_cons_zero, List.set_cons_succ]
                have hS := SU
                refine wpAnyG_ready (rs := [20]) (by kernel_rfl) (by simp) ?_
                refine AllReadyG.cons rfl (fun K hK => ?_) AllReadyG.nil
                refine step_app (.tmp 118) (.tmp 136) 28 rfl rfl X0.heap.size 127 4 64 _ Try.underlying28 infoK rfl (by decide) (.slice Kb i kc) i _ rfl HKU.out.row _ (some ⟨q5, 0, none⟩) 1 1 (rkC (⟨x.au, D2, 32, d2, q.D, q.m, q.c, x.ep⟩ : Rk)) rfl L5.out (rkC_one _) (by simp only [maxLen]; omega) (by omega) hXU.out ?_
                intro A6 c6 w6 o6 g6 k6
                have hne : ∀ k, k < X0.heap.size → (Value.slice Kb i kc).ownBlock ≠ some k := fun k hk e => by have h1 := own_block_ge2 HKU.out.row k e; omega
                have S6 : ∀ k, k ∈ [gk, b] → w6.heap[k]? = X.heap[k]? := fun k hk => (g6.block k (Nat.lt_of_lt_of_le (by simp only [List.mem_cons, List.not_mem_nil, or_false] at hk; rcases hk with h | h; rw [h]; exact lt_of_blk XK.out; rw [h]; exact lt_of_blk Xb.out) gU.size) (fun e => hne k (hNO.out k (hm2.out k (by simp only [List.mem_cons, List.not_mem_nil, or_false] at hk ⊢; rcases hk with h | h; exact Or.inr (Or.inl h); exact Or.inr (Or.inr h)))) e.symm)).trans (SU k hk)
                refine hK.out _ _ (fun _ => S6) ?_
                clear hK K hS
                try simp only [Act.put, List.getElem_toArray, List.getElem_cons_zero, List.getElem_cons_succ, List.setIfInBounds_toArray, List.set_cons_zero, List.set_cons_succ]
                have hS := S6
                refine wpAnyG_take (i := 21) (v := ?vrdx21) rfl (by kernel_rfl) (by kernel_rfl) (by kernel_rfl) (fun _ _ _ h => h) (by kernel_rfl) (Or.inl ⟨by rfl, ?hyrdx21⟩) hS ?restrdx21
                case hyrdx21 => (intro w' hSw; go_simp; first | done | with_reducible rfl)
                try simp only [Act.put, List.getElem_toArray, List.getElem_cons_zero, List.getElem_cons_succ, List.setIfInBounds_toArray, List.set_cons_zero, List.set_cons_succ]
                have K6 : Hid (w6.heap[gk]? = some (.cells #[.slice Kb i kc] 30 (0, 0))) := (S6 gk (by simp)).trans XK.out
                refine wpAnyG_ready (rs := [22]) (by kernel_rfl) (by simp) ?_
                refine AllReadyG.cons rfl (fun K hK => ?_) AllReadyG.nil
                have s0 := cell_blk K6.out 0 rfl
                have s1 := frozen_blk K6.out 0
                go_simp
                clear s0 s1
                obtain ⟨R, hR9⟩ : ∃ W0, Hid (W0 = w6.setCell ⟨gk, 0, none⟩ (.slice A6 (i + 1) c6)) := ⟨_, Lib.hid rfl⟩
                rw [← hR9.out]
                have FR : Fr [gk] w6 R [gk] := by rw [hR9.out]; exact setCell_fr _ _ _ _
                refine hK.out _ _ (fun h => absurd (h.symm.trans (by kernel_rfl : _ = true)) (by decide)) ?_
                clear hK K hS
                try simp only [Act.put, List.getElem_toArray, List.getElem_cons_zero, List.getElem_cons_succ, List.setIfInBounds_toArray, List.set_cons_zero, List.set_cons_succ]
                refine wpAnyG_done (by kernel_rfl) (NoPanic.normal ?_) _
                have bgr : Below X0.heap.size U w6 := below_grown g6 (own_block_ge2 HKU.out.row) hXU.out
                have F6 : Hid (Fr [G, gk, b] X0 w6 [G, gk, b]) := (F3T.out.trans (Fr.below bU)).tail bgr
                have FR3 : Hid (Fr [G, gk, b] X0 R [G, gk, b]) := F6.out.trans (FR.wide (fun k hk => by simp at hk; simp [hk]))
                have eG : w6.heap[G]? = T.heap[G]? := (g6.block G (Nat.lt_of_lt_of_le (lt_of_blk CGT.out) bU.size) (fun e => hne G (hNO.out G (hm2.out G (by simp))) e.symm)).trans (bU.block G (lt_of_blk CGT.out))
                have hGgk : G ∉ [gk] := by simp only [List.mem_cons, List.not_mem_nil, or_false]; have := hgkG.out; omega
                have hbgk : b ∉ [gk] := by simp only [List.mem_cons, List.not_mem_nil, or_false]; exact hbk.out
                have CG6 : w6.heap[G]? = some (.cells #[.slice V2 vn2 vc2, .int .i64 0] 33 (0, 0)) := eG.trans CGT.out
                have CGR : Hid (R.heap[G]? = some (.cells #[.slice V2 vn2 vc2, .int .i64 0] 33 (0, 0))) := (FR.block G (lt_of_blk CG6) hGgk).trans CG6
                have CKR : Hid (R.heap[gk]? = some (.cells #[.slice A6 (i + 1) c6] 30 (0, 0))) := by rw [hR9.out]; exact heap_set K6.out _
                have Cb6 := (S6 b (by simp)).trans Xb.out
                have ebR : R.heap[b]? = X.heap[b]? := (FR.block b (lt_of_blk Cb6) hbgk).trans (S6 b (by simp))
                have CbR : Hid (0 < m → (∃ cur, R.heap[b]? = some (.cells cur 40 (0, 0))) ∧ ∀ j q, i + 1 ≤ j → Qs[j]? = some q → R.rangeAt b (j * 5) (lqC q)) := fun _ => ⟨⟨_, ebR.trans Xb.out⟩, fun j q' hj hq' => range_blk (range_blk (RTj.out j q' hj hq') (dX.block b (lt_of_blk Tb.out))) ebR⟩
                have hgk1 : ∀ k, k ∈ [gk] → k ∈ N2 := fun k hk => hm2.out k (by simp at hk; simp [hk])
                have BWU : Below w.heap.size w U := BW0.out.trans (((F3T.out.trans (Fr.below bU)).toBelow (fun k hk => by have h1 := hgkG.out; have h2 := hG.out; have h3 := (HB.out (by omega)).2.1; have h4 := hWs.out; simp only [List.mem_cons, List.not_mem_nil, or_false] at hk; rcases hk with h | h | h <;> omega) BW0.out.size))
                have NBw : ∀ k, k ∈ (Value.slice Kb i kc).ownBlock.toList ++ N2 → w.heap.size ≤ k := fun k hk => by
                  rcases List.mem_append.1 hk with h | h
                  · have h1 := own_block_ge2 HKU.out.row k (by simpa using h); have h2 := BW0.out.size; omega
                  · exact hNw.out k h
                have VTU := VTT.out.below bU
                have DTU := DTT.out.below bU
                rw [hNB.out] at VTU DTU
                have hx1 : RkX ((Value.slice Kb i kc).ownBlock.toList ++ N2) U (⟨x.au, D2, 32, d2, q.D, q.m, q.c, x.ep⟩ : Rk) (x.au, knL hs (gLn S x)) := ⟨rfl, rfl, DTU, D32.out, rd_static HT.out.bd BWU NBw, HT.out.le⟩
                have KR : Hid (∃ Ks, OwnR N2 X0.heap.size R A6 (i + 1) c6 (S ++ [(x.au, knL hs (gLn S x))]) Ks) := ⟨_, (HKU.out.snoc hx1 g6 k6 o6).fr FR hgk1 (fun k hk => hNO.out k (hgk1 k hk))⟩
                have VR : Hid (VtN ((Value.slice A6 (i + 1) c6).ownBlock.toList ++ N2) R V2 vn2 (note hs (bytesL (gLn S x)))) := by
                  obtain ⟨hf, s2⟩ := grow_no (no := N2) g6 k6
                  exact (VTU.fr hf (fun k hk => List.mem_append.2 (Or.inl hk)) s2).fr FR (fun k hk => List.mem_append.2 (Or.inr (hgk1 k hk))) (fun k hk => Or.inl hk)
                have SR : Hid (getS (s.L.take (i + 1)) [] [] = (S ++ [(x.au, knL hs (gLn S x))], note hs (bytesL (gLn S x)))) := by
                  have h1 : s.L.take (i + 1) = s.L.take i ++ [x] := by rw [List.take_add_one, HXi.out]; rfl
                  unfold Hid; rw [h1, getS_snoc, hS0.out]
                clear VTU DTU hx1 o6 g6 k6 NBw BWU ebR Cb6 CG6 eG hGgk hbgk hgk1 bgr F6 K6 hne SU S6 FR HKU hXU bU gU L5 XK Xb Xq dX hX hU hR9
                go_wp2_with fail
                go_roundw
                case rel => exact ⟨i + 1, A6, c6, V2, vn2, vc2, S ++ [(x.au, knL hs (gLn S x))], note hs (bytesL (gLn S x)), by go_num, by omega, SR, FR3, CGR, CKR, CbR, KR, VR, VC2⟩
                case measure => simp only [intOf]; omega
            · go_simp
              obtain ⟨U, hU⟩ : ∃ W0, Hid (W0 = X.alloc (.cells #[.slice none 0 0, .int .i64 0] 33)) := ⟨_, Lib.hid rfl⟩
              obtain ⟨q0, hq0⟩ : ∃ q, Hid (q = X.heap.size) := ⟨_, Lib.hid rfl⟩
              have gU : Below X.heap.size X U := by rw [hU.out]; exact (Below.refl _ _).alloc (Nat.le_refl _) _
              have PU := Lib.hid (PX.out.trans (gU.mono PX.out.size))
              have Q0 : Hid (U.heap[q0]? = some (.cells #[.slice none 0 0, .int .i64 0] 33 (0, 0))) := by unfold Hid; rw [hU.out, hq0.out]; exact heap_alloc_new _ _
              have hqX : Hid (X.heap.size ≤ q0) := by unfold Hid; rw [hq0.out]; exact PX.out.size
              have hqG : Hid (Y.heap.size ≤ q0) := Nat.le_trans BX.out.size hqX.out
              have hqlU : Hid (q0 < U.heap.size) := lt_of_blk Q0.out
              rw [← hU.out, ← hq0.out]
              have SU : ∀ k, k ∈ [G, b] → U.heap[k]? = X.heap[k]? := fun k hk => PU.out.block k (by simp only [List.mem_cons, List.not_mem_nil, or_false] at hk; rcases hk with h | h; rw [h]; exact lt_of_blk XG.out; rw [h]; exact hbX2.out)
              refine hK.out _ _ SU ?_
              intro hS
              clear hK K hS
              try simp only [Act.put, List.getElem_toArray, List.getElem_cons_zero, List.getElem_cons_succ, List.setIfInBounds_toArray, List.set_cons_zero, List.set_cons_succ]
              refine wpAnyH_ready (rs := [5]) (by kernel_rfl) (by simp) ?_
              refine AllReadyH.cons rfl (fun K hK => ?_) AllReadyH.nil
              go_simp
              refine (refBytes_ (gLn S x) Dg dn dc q.D q.m q.c U (DGY.out.below (BX.out.trans (PU.out.mono BX.out.size))).1 (HT.out.bd.to (BWY.out.trans ((BX.out.trans (PU.out.mono BX.out.size)).mono BWY.out.size))) HRt.out).mono ?_
              rintro e V1 ⟨A7, m7, c7, rfl, hm7, hl7, o7, bb⟩
              have PV1 := Lib.hid (PU.out.trans (bb.mono PU.out.size))
              have P7 : Hid (RdN (q0 :: NB) V1 1 A7 m7 ((bytesL (gLn S x)).map B8)) := own_rdN o7 (fun k hk => by rcases List.mem_cons.1 hk with h | hk; exact h ▸ hqlU.out; exact Nat.lt_of_lt_of_le (NBY.out k hk) (BX.out.trans (PU.out.mono BX.out.size)).size)
              have gV1 := bb
              clear bb o7 hl7
              go_wp2_with fail
              have SV1 : ∀ k, k ∈ [G, b] → V1.heap[k]? = X.heap[k]? := fun k hk => PV1.out.block k (by simp only [List.mem_cons, List.not_mem_nil, or_false] at hk; rcases hk with h | h; rw [h]; exact lt_of_blk XG.out; rw [h]; exact hbX2.out)
              refine hK.out _ _ SV1 ?_
              intro hS
              clear hK K hS
              try simp only [Act.put, List.getElem_toArray, List.getElem_cons_zero, List.getElem_cons_succ, List.setIfInBounds_toArray, List.set_cons_zero, List.set_cons_succ]
              replace Q0 : Hid (V1.heap[q0]? = some (.cells #[.slice none 0 0, .int .i64 0] 33 (0, 0))) := (gV1.block q0 hqlU.out).trans Q0.out
              have hqlV1 : Hid (q0 < V1.heap.size) := lt_of_blk Q0.out
              refine wpAnyH_ready (rs := [6]) (by kernel_rfl) (by simp) ?_
              refine AllReadyH.cons rfl (fun K hK => ?_) AllReadyH.nil
              go_simp
              refine (refHashN_ V vn vc 0 A7 m7 c7 hs (bytesL (gLn S x)) (q0 :: NB) V1 (VtY.out.fr (own := []) (own' := []) (Fr.below (BX.out.trans (PV1.out.mono BX.out.size))) (fun _ h => absurd h (by simp)) (fun k hk => by rcases List.mem_cons.1 hk with h | h; exact Or.inr (h ▸ hqG.out); exact Or.inl h)) P7.out (by have h1 := hVN.out; omega) hvc.out (fun k hk => by rcases List.mem_cons.1 hk with h | hk; exact h ▸ hqlV1.out; exact Nat.lt_of_lt_of_le (NBY.out k hk) (BX.out.trans (PV1.out.mono BX.out.size)).size)).mono ?_
              rintro e V2w ⟨V2, vn2, vc2, D2, d2, rfl, hvc2, hv8, o8, bb⟩
              have PV2w := Lib.hid (PV1.out.trans (bb.mono PV1.out.size))
              have V8 : Hid (VtN (q0 :: NB) V2w V2 vn2 (note hs (bytesL (gLn S x)))) := hv8
              have D8 : Hid (RdN (q0 :: NB) V2w 1 D2 32 ((digL hs (gLn S x)).map B8)) := o8.rdNo (fun k hk => by rcases List.mem_cons.1 hk with h | hk; exact h ▸ hqlV1.out; exact Nat.lt_of_lt_of_le (NBY.out k hk) (BX.out.trans (PV1.out.mono BX.out.size)).size)
              have D32 : Hid (32 ≤ d2) := o8.le
              have VC2 := Lib.hid hvc2
              have gV2w := bb
              clear bb o8 hv8 hvc2
              go_wp2_with fail
              have SV2w : ∀ k, k ∈ [G, b] → V2w.heap[k]? = X.heap[k]? := fun k hk => PV2w.out.block k (by simp only [List.mem_cons, List.not_mem_nil, or_false] at hk; rcases hk with h | h; rw [h]; exact lt_of_blk XG.out; rw [h]; exact hbX2.out)
              refine hK.out _ _ SV2w ?_
              intro hS
              clear hK K hS
              try simp only [Act.put, List.getElem_toArray, List.getElem_cons_zero, List.getElem_cons_succ, List.setIfInBounds_toArray, List.set_cons_zero, List.set_cons_succ]
              replace Q0 : Hid (V2w.heap[q0]? = some (.cells #[.slice none 0 0, .int .i64 0] 33 (0, 0))) := (gV2w.block q0 hqlV1.out).trans Q0.out
              have hqlV2w : Hid (q0 < V2w.heap.size) := lt_of_blk Q0.out
              have hS : ∀ k, k ∈ [G, b] → V2w.heap[k]? = X.heap[k]? := SV2w
              refine wpAnyH_take (i := 7) (v := ?vre7) rfl (by kernel_rfl) (by kernel_rfl) (by kernel_rfl) (fun _ _ _ h => h) (Or.inl ⟨by rfl, ?hyre7⟩) hS ?restre7
              case hyre7 => (intro w' hSw; go_simp; first | done | with_reducible rfl)
              try simp only [Act.put, List.getElem_toArray, List.getElem_cons_zero, List.getElem_cons_succ, List.setIfInBounds_toArray, List.set_cons_zero, List.set_cons_succ]
              refine wpAnyH_take (i := 8) (v := .agg #[.slice V2 vn2 vc2, .int .i64 0]) rfl (by kernel_rfl) (by kernel_rfl) (by kernel_rfl) (fun _ _ _ h => h) (Or.inl ⟨by rfl, ?hyre8⟩) hS ?restre8
              case hyre8 => (intro w' hSw; go_simp; first | done | with_reducible rfl)
              try simp only [Act.put, List.getElem_toArray, List.getElem_cons_zero, List.getElem_cons_succ, List.setIfInBounds_toArray, List.set_cons_zero, List.set_cons_succ]
              refine wpAnyH_take (i := 9) (v := .slice D2 32 d2) rfl (by kernel_rfl) (by kernel_rfl) (by kernel_rfl) (fun _ _ _ h => h) (Or.inl ⟨by rfl, ?hyre9⟩) hS ?restre9
              case hyre9 => (intro w' hSw; go_simp; first | done | with_reducible rfl)
              try simp only [Act.put, List.getElem_toArray, List.getElem_cons_zero, List.getElem_cons_succ, List.setIfInBounds_toArray, List.set_cons_zero, List.set_cons_succ]
              refine wpAnyH_ready (rs := [11]) (by kernel_rfl) (by simp) ?_
              refine AllReadyH.cons rfl (fun K hK => ?_) AllReadyH.nil
              refine step_store_row 33 (.tmp 16) (.tmp 114) rfl rfl q0 #[.slice V2 vn2 vc2, .int .i64 0] rfl rfl _ _ Q0.out (by kernel_rfl) rfl (by kernel_rfl) ?_
              obtain ⟨Z, hZ⟩ : ∃ W0, Hid (W0 = V2w.setRow q0 #[.slice V2 vn2 vc2, .int .i64 0]) := ⟨_, Lib.hid rfl⟩
              have FZ : Fr [q0] V2w Z [q0] := by rw [hZ.out]; exact setRow_fr _ _ _
              have QZ : Hid (Z.heap[q0]? = some (.cells #[.slice V2 vn2 vc2, .int .i64 0] 33 (0, 0))) := by unfold Hid; rw [hZ.out]; exact setRow_heap _ _ _ _ _ _ Q0.out
              rw [← hZ.out]
              have VZ : Hid (VtN NB Z V2 vn2 (note hs (bytesL (gLn S x)))) := V8.out.fr FZ (fun k hk => by simp at hk; simp [hk]) (fun k hk => Or.inl (List.mem_cons_of_mem _ hk))
              have DZ : Hid (RdN NB Z 1 D2 32 ((digL hs (gLn S x)).map B8)) := D8.out.fr FZ (fun k hk => by simp at hk; simp [hk]) (fun k hk => Or.inl (List.mem_cons_of_mem _ hk))
              have PZ : Hid (Below X.heap.size X Z) := by unfold Hid; rw [hZ.out]; exact below_setRow PV2w.out hqX.out _
              have BZ : Hid (Below Y.heap.size Y Z) := BX.out.trans (PZ.out.mono BX.out.size)
              have SZ : ∀ k, k ∈ [G, b] → Z.heap[k]? = X.heap[k]? := fun k hk => PZ.out.block k (by simp only [List.mem_cons, List.not_mem_nil, or_false] at hk; rcases hk with h | h; rw [h]; exact lt_of_blk XG.out; rw [h]; exact hbX2.out)
              refine hK.out _ _ SZ ?_
              intro hS
              clear hK K hS
              try simp only [Act.put, List.getElem_toArray, List.getElem_cons_zero, List.getElem_cons_succ, List.setIfInBounds_toArray, List.set_cons_zero, List.set_cons_succ]
              have hS : ∀ k, k ∈ [G, b] → Z.heap[k]? = X.heap[k]? := SZ
              refine wpAnyH_take (i := 12) (v := .slice D2 32 d2) rfl (by kernel_rfl) (by kernel_rfl) (by kernel_rfl) (fun _ _ _ h => h) (Or.inl ⟨by rfl, ?hyre12⟩) hS ?restre12
              case hyre12 => (intro w' hSw; go_simp; first | done | with_reducible rfl)
              try simp only [Act.put, List.getElem_toArray, List.getElem_cons_zero, List.getElem_cons_succ, List.setIfInBounds_toArray, List.set_cons_zero, List.set_cons_succ]
              refine wpAnyH_done (by kernel_rfl) (NoPanic.normal ?_) _
              have c0 := cell_blk QZ.out 0 rfl
              have c1 := cell_blk QZ.out 1 rfl
              have CGZ : Hid (Z.heap[G]? = some (.cells #[.slice V vn vc, .int .i64 0] 33 (0, 0))) := (BZ.out.block _ (lt_of_blk CGY.out)).trans CGY.out
              have CKZ : Hid (Z.heap[gk]? = some (.cells #[.slice Kb i kc] 30 (0, 0))) := (BZ.out.block _ (lt_of_blk CKY.out)).trans CKY.out
              have hbe := BZ.out.block b (lt_of_blk Yb.out)
              go_wp2_with (refine wpList_store_row rfl 33 (.tmp 2) (.tmp 116) rfl G #[.slice V2 vn2 vc2, .int .i64 0] rfl rfl _ _ CGZ.out (by kernel_rfl) rfl (by kernel_rfl) ?_)
              clear c0 c1
              obtain ⟨T, hT⟩ : ∃ T, Hid (T = Z.setRow G #[.slice V2 vn2 vc2, .int .i64 0]) := ⟨_, Lib.hid rfl⟩
              rw [← hT.out]
              have FT : Fr [G] Z T [G] := by rw [hT.out]; exact setRow_fr _ _ _
              have hGm : ∀ k, k ∈ [G] → k ∈ [G, gk, b] := fun k hk => by simp at hk; simp [hk]
              have hGm2 : ∀ k, k ∈ [G] → k ∈ N2 := fun k hk => hm2.out k (hGm k hk)
              have hGn : ∀ k, k ∈ [G] → k ∈ NB := fun k hk => by rw [hNB.out]; exact List.mem_append.2 (Or.inr (hGm2 k hk))
              have hbG : b ∉ [G] := by simp only [List.mem_cons, List.not_mem_nil, or_false]; exact HBN.out.2.1
              have hbeT := (FT.block b (Nat.lt_of_lt_of_le (lt_of_blk Yb.out) BZ.out.size) hbG).trans hbe
              have CGT : Hid (T.heap[G]? = some (.cells #[.slice V2 vn2 vc2, .int .i64 0] 33 (0, 0))) := by rw [hT.out]; exact setRow_heap _ _ _ _ _ _ CGZ.out
              have CKT : Hid (T.heap[gk]? = some (.cells #[.slice Kb i kc] 30 (0, 0))) := (FT.block gk (lt_of_blk CKZ.out) (by simp only [List.mem_cons, List.not_mem_nil, or_false]; have := hgkG.out; omega)).trans CKZ.out
              have Tb : Hid (T.heap[b]? = some (.cells (cur.setIfInBounds (i * 5 + 3) (.slice Dg dn dc)) 40 (0, 0))) := hbeT.trans Yb.out
              have Tq : Hid (T.rangeAt b (i * 5) [.int .i64 x.au, .int .i64 x.sq, .int .i64 x.ep, .slice Dg dn dc, .slice q.D q.m q.c]) := range_blk Yq.out hbeT
              have RTj : Hid (∀ j q', i + 1 ≤ j → Qs[j]? = some q' → T.rangeAt b (j * 5) (lqC q')) := fun j q' hj hq' => range_blk (RYj.out j q' hj hq') hbeT
              have HKT : Hid (OwnR N2 X0.heap.size T Kb i kc S Ks) := (HKY.out.to BZ.out).fr FT hGm2 (fun k hk => hNO.out k (hGm2 k hk))
              have VTT : Hid (VtN NB T V2 vn2 (note hs (bytesL (gLn S x)))) := VZ.out.fr FT hGn (fun k hk => Or.inl hk)
              have DTT : Hid (RdN NB T 1 D2 32 ((digL hs (gLn S x)).map B8)) := DZ.out.fr FT hGn (fun k hk => Or.inl hk)
              have F3T : Hid (Fr [G, gk, b] X0 T [G, gk, b]) := (F3Y.out.trans (Fr.below BZ.out)).trans (FT.wide hGm)
              clear hGm hGm2 hGn hbG hbe hbeT FT hT QZ VZ DZ PZ BZ CGZ CKZ hZ Yq Yb RYj HKY VtY CGY CKY DGY BWY F3Y BX XG Xq hbX2 dX hX PX
              obtain ⟨X, hX⟩ : ∃ W, Hid (W = T.drew) := ⟨_, Lib.hid rfl⟩
              have dX : Below T.heap.size T X := by rw [hX.out]; exact below_drew (Below.refl _ _)
              have XK : Hid (X.heap[gk]? = some (.cells #[.slice Kb i kc] 30 (0, 0))) := (dX.block _ (lt_of_blk CKT.out)).trans CKT.out
              have Xb : Hid (X.heap[b]? = some (.cells (cur.setIfInBounds (i * 5 + 3) (.slice Dg dn dc)) 40 (0, 0))) := (dX.block _ (lt_of_blk Tb.out)).trans Tb.out
              have Xq : Hid (X.rangeAt b (i * 5) [.int .i64 x.au, .int .i64 x.sq, .int .i64 x.ep, .slice Dg dn dc, .slice q.D q.m q.c]) := range_blk Tq.out (dX.block b (lt_of_blk Tb.out))
              refine wp_region_noPanic ?_
              refine wp_region_G (S := fun w' => ∀ k, k ∈ [gk, b] → w'.heap[k]? = X.heap[k]?) (s := 22) (by kernel_rfl) ?_
              rw [← hX.out]
              have hS : ∀ k, k ∈ [gk, b] → X.heap[k]? = X.heap[k]? := fun _ _ => rfl
              refine wpAnyG_take (i := 0) (v := ?vrex0) rfl (by kernel_rfl) (by kernel_rfl) (by kernel_rfl) (fun _ _ _ h => h) (by kernel_rfl) (Or.inl ⟨by rfl, ?hyrex0⟩) hS ?restrex0
              case hyrex0 => (intro w' hSw; go_simp; first | done | with_reducible rfl)
              try simp only [Act.put, List.getElem_toArray, List.getElem_cons_zero, List.getElem_cons_succ, List.setIfInBounds_toArray, List.set_cons_zero, List.set_cons_succ]
              refine wpAnyG_take (i := 1) (v := .slice Kb i kc) rfl (by kernel_rfl) (by kernel_rfl) (by kernel_rfl) (fun _ _ _ h => h) (by kernel_rfl) (Or.inl ⟨by rfl, ?hyrex1⟩) hS ?restrex1
              case hyrex1 => (intro w' hSw; have c0 : w'.cell? ⟨gk, 0, none⟩ = some (.slice Kb i kc) := cell_blk ((hSw gk (by simp)).trans XK.out) 0 rfl; go_simp; first | done | with_reducible rfl)
              try simp only [Act.put, List.getElem_toArray, List.getElem_cons_zero, List.getElem_cons_succ, List.setIfInBounds_toArray, List.set_cons_zero, List.set_cons_succ]
              refine wpAnyG_take (i := 2) (v := ?vrex2) rfl (by kernel_rfl) (by kernel_rfl) (by kernel_rfl) (fun _ _ _ h => h) (by kernel_rfl) (Or.inl ⟨by rfl, ?hyrex2⟩) hS ?restrex2
              case hyrex2 => (intro w' hSw; go_simp; first | done | with_reducible rfl)
              try simp only [Act.put, List.getElem_toArray, List.getElem_cons_zero, List.getElem_cons_succ, List.setIfInBounds_toArray, List.set_cons_zero, List.set_cons_succ]
              refine wpAnyG_take (i := 3) (v := ?vrex3) rfl (by kernel_rfl) (by kernel_rfl) (by kernel_rfl) (fun _ _ _ h => h) (by kernel_rfl) (Or.inl ⟨by rfl, ?hyrex3⟩) hS ?restrex3
              case hyrex3 => (intro w' hSw; go_simp; first | done | with_reducible rfl)
              try simp only [Act.put, List.getElem_toArray, List.getElem_cons_zero, List.getElem_cons_succ, List.setIfInBounds_toArray, List.set_cons_zero, List.set_cons_succ]
              refine wpAnyG_take (i := 4) (v := ?vrex4) rfl (by kernel_rfl) (by kernel_rfl) (by kernel_rfl) (fun _ _ _ h => h) (by kernel_rfl) (Or.inl ⟨by rfl, ?hyrex4⟩) hS ?restrex4
              case hyrex4 => (intro w' hSw; go_simp; first | done | with_reducible rfl)
              try simp only [Act.put, List.getElem_toArray, List.getElem_cons_zero, List.getElem_cons_succ, List.setIfInBounds_toArray, List.set_cons_zero, List.set_cons_succ]
              refine wpAnyG_take (i := 5) (v := ?vrex5) rfl (by kernel_rfl) (by kernel_rfl) (by kernel_rfl) (fun _ _ _ h => h) (by kernel_rfl) (Or.inl ⟨by rfl, ?hyrex5⟩) hS ?restrex5
              case hyrex5 => (intro w' hSw; go_simp; first | done | with_reducible rfl)
              try simp only [Act.put, List.getElem_toArray, List.getElem_cons_zero, List.getElem_cons_succ, List.setIfInBounds_toArray, List.set_cons_zero, List.set_cons_succ]
              refine wpAnyG_take (i := 6) (v := .int .i64 x.au) rfl (by kernel_rfl) (by kernel_rfl) (by kernel_rfl) (fun _ _ _ h => h) (by kernel_rfl) (Or.inl ⟨by rfl, ?hyrex6⟩) hS ?restrex6
              case hyrex6 => (intro w' hSw; have c0 : w'.cell? ⟨b, i * 5, none⟩ = some (.int .i64 x.au) := range_cell Xq.out (hSw b (by simp)) (z := 0) rfl; go_simp; first | done | with_reducible rfl)
              try simp only [Act.put, List.getElem_toArray, List.getElem_cons_zero, List.getElem_cons_succ, List.setIfInBounds_toArray, List.set_cons_zero, List.set_cons_succ]
              refine wpAnyG_take (i := 7) (v := .slice D2 32 d2) rfl (by kernel_rfl) (by kernel_rfl) (by kernel_rfl) (fun _ _ _ h => h) (by kernel_rfl) (Or.inl ⟨by rfl, ?hyrex7⟩) hS ?restrex7
              case hyrex7 => (intro w' hSw; go_simp; first | done | with_reducible rfl)
              try simp only [Act.put, List.getElem_toArray, List.getElem_cons_zero, List.getElem_cons_succ, List.setIfInBounds_toArray, List.set_cons_zero, List.set_cons_succ]
              refine wpAnyG_take (i := 8) (v := ?vrex8) rfl (by kernel_rfl) (by kernel_rfl) (by kernel_rfl) (fun _ _ _ h => h) (by kernel_rfl) (Or.inl ⟨by rfl, ?hyrex8⟩) hS ?restrex8
              case hyrex8 => (intro w' hSw; go_simp; first | done | with_reducible rfl)
              try simp only [Act.put, List.getElem_toArray, List.getElem_cons_zero, List.getElem_cons_succ, List.setIfInBounds_toArray, List.set_cons_zero, List.set_cons_succ]
              refine wpAnyG_take (i := 9) (v := ?vrex9) rfl (by kernel_rfl) (by kernel_rfl) (by kernel_rfl) (fun _ _ _ h => h) (by kernel_rfl) (Or.inl ⟨by rfl, ?hyrex9⟩) hS ?restrex9
              case hyrex9 => (intro w' hSw; go_simp; first | done | with_reducible rfl)
              try simp only [Act.put, List.getElem_toArray, List.getElem_cons_zero, List.getElem_cons_succ, List.setIfInBounds_toArray, List.set_cons_zero, List.set_cons_succ]
              refine wpAnyG_take (i := 10) (v := ?vrex10) rfl (by kernel_rfl) (by kernel_rfl) (by kernel_rfl) (fun _ _ _ h => h) (by kernel_rfl) (Or.inl ⟨by rfl, ?hyrex10⟩) hS ?restrex10
              case hyrex10 => (intro w' hSw; go_simp; first | done | with_reducible rfl)
              try simp only [Act.put, List.getElem_toArray, List.getElem_cons_zero, List.getElem_cons_succ, List.setIfInBounds_toArray, List.set_cons_zero, List.set_cons_succ]
              refine wpAnyG_take (i := 11) (v := ?vrex11) rfl (by kernel_rfl) (by kernel_rfl) (by kernel_rfl) (fun _ _ _ h => h) (by kernel_rfl) (Or.inl ⟨by rfl, ?hyrex11⟩) hS ?restrex11
              case hyrex11 => (intro w' hSw; go_simp; first | done | with_reducible rfl)
              try simp only [Act.put, List.getElem_toArray, List.getElem_cons_zero, List.getElem_cons_succ, List.setIfInBounds_toArray, List.set_cons_zero, List.set_cons_succ]
              refine wpAnyG_take (i := 12) (v := .slice q.D q.m q.c) rfl (by kernel_rfl) (by kernel_rfl) (by kernel_rfl) (fun _ _ _ h => h) (by kernel_rfl) (Or.inl ⟨by rfl, ?hyrex12⟩) hS ?restrex12
              case hyrex12 => (intro w' hSw; have c4 : w'.cell? ⟨b, i * 5 + 4, none⟩ = some (.slice q.D q.m q.c) := range_cell Xq.out (hSw b (by simp)) (z := 4) rfl; go_simp; first | done | with_reducible rfl)
              try simp only [Act.put, List.getElem_toArray, List.getElem_cons_zero, List.getElem_cons_succ, List.setIfInBounds_toArray, List.set_cons_zero, List.set_cons_succ]
              refine wpAnyG_take (i := 13) (v := ?vrex13) rfl (by kernel_rfl) (by kernel_rfl) (by kernel_rfl) (fun _ _ _ h => h) (by kernel_rfl) (Or.inl ⟨by rfl, ?hyrex13⟩) hS ?restrex13
              case hyrex13 => (intro w' hSw; go_simp; first | done | with_reducible rfl)
              try simp only [Act.put, List.getElem_toArray, List.getElem_cons_zero, List.getElem_cons_succ, List.setIfInBounds_toArray, List.set_cons_zero, List.set_cons_succ]
              refine wpAnyG_take (i := 14) (v := ?vrex14) rfl (by kernel_rfl) (by kernel_rfl) (by kernel_rfl) (fun _ _ _ h => h) (by kernel_rfl) (Or.inl ⟨by rfl, ?hyrex14⟩) hS ?restrex14
              case hyrex14 => (intro w' hSw; go_simp; first | done | with_reducible rfl)
              try simp only [Act.put, List.getElem_toArray, List.getElem_cons_zero, List.getElem_cons_succ, List.setIfInBounds_toArray, List.set_cons_zero, List.set_cons_succ]
              refine wpAnyG_take (i := 15) (v := ?vrex15) rfl (by kernel_rfl) (by kernel_rfl) (by kernel_rfl) (fun _ _ _ h => h) (by kernel_rfl) (Or.inl ⟨by rfl, ?hyrex15⟩) hS ?restrex15
              case hyrex15 => (intro w' hSw; go_simp; first | done | with_reducible rfl)
              try simp only [Act.put, List.getElem_toArray, List.getElem_cons_zero, List.getElem_cons_succ, List.setIfInBounds_toArray, List.set_cons_zero, List.set_cons_succ]
              refine wpAnyG_take (i := 16) (v := ?vrex16) rfl (by kernel_rfl) (by kernel_rfl) (by kernel_rfl) (fun _ _ _ h => h) (by kernel_rfl) (Or.inl ⟨by rfl, ?hyrex16⟩) hS ?restrex16
              case hyrex16 => (intro w' hSw; go_simp; first | done | with_reducible rfl)
              try simp only [Act.put, List.getElem_toArray, List.getElem_cons_zero, List.getElem_cons_succ, List.setIfInBounds_toArray, List.set_cons_zero, List.set_cons_succ]
              refine wpAnyG_take (i := 17) (v := .int .i64 x.ep) rfl (by kernel_rfl) (by kernel_rfl) (by kernel_rfl) (fun _ _ _ h => h) (by kernel_rfl) (Or.inl ⟨by rfl, ?hyrex17⟩) hS ?restrex17
              case hyrex17 => (intro w' hSw; have c2 : w'.cell? ⟨b, i * 5 + 2, none⟩ = some (.int .i64 x.ep) := range_cell Xq.out (hSw b (by simp)) (z := 2) rfl; go_simp; first | done | with_reducible rfl)
              try simp only [Act.put, List.getElem_toArray, List.getElem_cons_zero, List.getElem_cons_succ, List.setIfInBounds_toArray, List.set_cons_zero, List.set_cons_succ]
              refine wpAnyG_take (i := 18) (v := .agg #[.int .i64 x.au, .slice D2 32 d2, .slice q.D q.m q.c, .int .i64 x.ep]) rfl (by kernel_rfl) (by kernel_rfl) (by kernel_rfl) (fun _ _ _ h => h) (by kernel_rfl) (Or.inl ⟨by rfl, ?hyrex18⟩) hS ?restrex18
              case hyrex18 => (intro w' hSw; go_simp; first | done | with_reducible rfl)
              try simp only [Act.put, List.getElem_toArray, List.getElem_cons_zero, List.getElem_cons_succ, List.setIfInBounds_toArray, List.set_cons_zero, List.set_cons_succ]
              refine wpAnyG_ready (rs := [19]) (by kernel_rfl) (by simp) ?_
              refine AllReadyG.cons rfl (fun K hK => ?_) AllReadyG.nil
              go_simp
              obtain ⟨U, hU⟩ : ∃ W0, Hid (W0 = X.alloc (.cells #[.int .i64 x.au, .slice D2 32 d2, .slice q.D q.m q.c, .int .i64 x.ep] 127)) := ⟨_, Lib.hid rfl⟩
              obtain ⟨q5, hq5⟩ : ∃ q, Hid (q = X.heap.size) := ⟨_, Lib.hid rfl⟩
              have gU : Below X.heap.size X U := by rw [hU.out]; exact (Below.refl _ _).alloc (Nat.le_refl _) _
              have bU : Below T.heap.size T U := dX.trans (gU.mono dX.size)
              have L5 : Hid (Rd U U.heap.size 4 (some ⟨q5, 0, none⟩) 1 (rkC (⟨x.au, D2, 32, d2, q.D, q.m, q.c, x.ep⟩ : Rk))) := by rw [hU.out, hq5.out]; exact (rowK X (⟨x.au, D2, 32, d2, q.D, q.m, q.c, x.ep⟩ : Rk) 127).more (by rw [szAlloc]; exact Nat.le_refl _)
              have HKU := Lib.hid (HKT.out.to bU)
              have hXU : Hid (X0.heap.size ≤ U.heap.size) := Nat.le_trans F3T.out.size bU.size
              rw [← hU.out, ← hq5.out]
              have SU : ∀ k, k ∈ [gk, b] → U.heap[k]? = X.heap[k]? := fun k hk => gU.block k (by simp only [List.mem_cons, List.not_mem_nil, or_false] at hk; rcases hk with h | h; rw [h]; exact lt_of_blk XK.out; rw [h]; exact lt_of_blk Xb.out)
              refine hK.out _ _ (fun _ => SU) ?_
              clear hK K hS
              try simp only [Act.put, List.getElem_toArray, List.getElem_cons_zero, List.getElem_cons_succ, List.setIfInBounds_toArray, List.set_cons_zero, List.set_cons_succ]
              have hS := SU
              refine wpAnyG_ready (rs := [20]) (by kernel_rfl) (by simp) ?_
              refine AllReadyG.cons rfl (fun K hK => ?_) AllReadyG.nil
              refine step_app (.tmp 118) (.tmp 136) 28 rfl rfl X0.heap.size 127 4 64 _ Try.underlying28 infoK rfl (by decide) (.slice Kb i kc) i _ rfl HKU.out.row _ (some ⟨q5, 0, none⟩) 1 1 (rkC (⟨x.au, D2, 32, d2, q.D, q.m, q.c, x.ep⟩ : Rk)) rfl L5.out (rkC_one _) (by simp only [maxLen]; omega) (by omega) hXU.out ?_
              intro A6 c6 w6 o6 g6 k6
              have hne : ∀ k, k < X0.heap.size → (Value.slice Kb i kc).ownBlock ≠ some k := fun k hk e => by have h1 := own_block_ge2 HKU.out.row k e; omega
              have S6 : ∀ k, k ∈ [gk, b] → w6.heap[k]? = X.heap[k]? := fun k hk => (g6.block k (Nat.lt_of_lt_of_le (by simp only [List.mem_cons, List.not_mem_nil, or_false] at hk; rcases hk with h | h; rw [h]; exact lt_of_blk XK.out; rw [h]; exact lt_of_blk Xb.out) gU.size) (fun e => hne k (hNO.out k (hm2.out k (by simp only [List.mem_cons, List.not_mem_nil, or_false] at hk ⊢; rcases hk with h | h; exact Or.inr (Or.inl h); exact Or.inr (Or.inr h)))) e.symm)).trans (SU k hk)
              refine hK.out _ _ (fun _ => S6) ?_
              clear hK K hS
              try simp only [Act.put, List.getElem_toArray, List.getElem_cons_zero, List.getElem_cons_succ, List.setIfInBounds_toArray, List.set_cons_zero, List.set_cons_succ]
              have hS := S6
              refine wpAnyG_take (i := 21) (v := ?vrex21) rfl (by kernel_rfl) (by kernel_rfl) (by kernel_rfl) (fun _ _ _ h => h) (by kernel_rfl) (Or.inl ⟨by rfl, ?hyrex21⟩) hS ?restrex21
              case hyrex21 => (intro w' hSw; go_simp; first | done | with_reducible rfl)
              try simp only [Act.put, List.getElem_toArray, List.getElem_cons_zero, List.getElem_cons_succ, List.setIfInBounds_toArray, List.set_cons_zero, List.set_cons_succ]
              have K6 : Hid (w6.heap[gk]? = some (.cells #[.slice Kb i kc] 30 (0, 0))) := (S6 gk (by simp)).trans XK.out
              refine wpAnyG_ready (rs := [22]) (by kernel_rfl) (by simp) ?_
              refine AllReadyG.cons rfl (fun K hK => ?_) AllReadyG.nil
              have s0 := cell_blk K6.out 0 rfl
              have s1 := frozen_blk K6.out 0
              go_simp
              clear s0 s1
              obtain ⟨R, hR9⟩ : ∃ W0, Hid (W0 = w6.setCell ⟨gk, 0, none⟩ (.slice A6 (i + 1) c6)) := ⟨_, Lib.hid rfl⟩
              rw [← hR9.out]
              have FR : Fr [gk] w6 R [gk] := by rw [hR9.out]; exact setCell_fr _ _ _ _
              refine hK.out _ _ (fun h => absurd (h.symm.trans (by kernel_rfl : _ = true)) (by decide)) ?_
              clear hK K hS
              try simp only [Act.put, List.getElem_toArray, List.getElem_cons_zero, List.getElem_cons_succ, List.setIfInBounds_toArray, List.set_cons_zero, List.set_cons_succ]
              refine wpAnyG_done (by kernel_rfl) (NoPanic.normal ?_) _
              have bgr : Below X0.heap.size U w6 := below_grown g6 (own_block_ge2 HKU.out.row) hXU.out
              have F6 : Hid (Fr [G, gk, b] X0 w6 [G, gk, b]) := (F3T.out.trans (Fr.below bU)).tail bgr
              have FR3 : Hid (Fr [G, gk, b] X0 R [G, gk, b]) := F6.out.trans (FR.wide (fun k hk => by simp at hk; simp [hk]))
              have eG : w6.heap[G]? = T.heap[G]? := (g6.block G (Nat.lt_of_lt_of_le (lt_of_blk CGT.out) bU.size) (fun e => hne G (hNO.out G (hm2.out G (by simp))) e.symm)).trans (bU.block G (lt_of_blk CGT.out))
              have hGgk : G ∉ [gk] := by simp only [List.mem_cons, List.not_mem_nil, or_false]; have := hgkG.out; omega
              have hbgk : b ∉ [gk] := by simp only [List.mem_cons, List.not_mem_nil, or_false]; exact hbk.out
              have CG6 : w6.heap[G]? = some (.cells #[.slice V2 vn2 vc2, .int .i64 0] 33 (0, 0)) := eG.trans CGT.out
              have CGR : Hid (R.heap[G]? = some (.cells #[.slice V2 vn2 vc2, .int .i64 0] 33 (0, 0))) := (FR.block G (lt_of_blk CG6) hGgk).trans CG6
              have CKR : Hid (R.heap[gk]? = some (.cells #[.slice A6 (i + 1) c6] 30 (0, 0))) := by rw [hR9.out]; exact heap_set K6.out _
              have Cb6 := (S6 b (by simp)).trans Xb.out
              have ebR : R.heap[b]? = X.heap[b]? := (FR.block b (lt_of_blk Cb6) hbgk).trans (S6 b (by simp))
              have CbR : Hid (0 < m → (∃ cur, R.heap[b]? = some (.cells cur 40 (0, 0))) ∧ ∀ j q, i + 1 ≤ j → Qs[j]? = some q → R.rangeAt b (j * 5) (lqC q)) := fun _ => ⟨⟨_, ebR.trans Xb.out⟩, fun j q' hj hq' => range_blk (range_blk (RTj.out j q' hj hq') (dX.block b (lt_of_blk Tb.out))) ebR⟩
              have hgk1 : ∀ k, k ∈ [gk] → k ∈ N2 := fun k hk => hm2.out k (by simp at hk; simp [hk])
              have BWU : Below w.heap.size w U := BW0.out.trans (((F3T.out.trans (Fr.below bU)).toBelow (fun k hk => by have h1 := hgkG.out; have h2 := hG.out; have h3 := (HB.out (by omega)).2.1; have h4 := hWs.out; simp only [List.mem_cons, List.not_mem_nil, or_false] at hk; rcases hk with h | h | h <;> omega) BW0.out.size))
              have NBw : ∀ k, k ∈ (Value.slice Kb i kc).ownBlock.toList ++ N2 → w.heap.size ≤ k := fun k hk => by
                rcases List.mem_append.1 hk with h | h
                · have h1 := own_block_ge2 HKU.out.row k (by simpa using h); have h2 := BW0.out.size; omega
                · exact hNw.out k h
              have VTU := VTT.out.below bU
              have DTU := DTT.out.below bU
              rw [hNB.out] at VTU DTU
              have hx1 : RkX ((Value.slice Kb i kc).ownBlock.toList ++ N2) U (⟨x.au, D2, 32, d2, q.D, q.m, q.c, x.ep⟩ : Rk) (x.au, knL hs (gLn S x)) := ⟨rfl, rfl, DTU, D32.out, rd_static HT.out.bd BWU NBw, HT.out.le⟩
              have KR : Hid (∃ Ks, OwnR N2 X0.heap.size R A6 (i + 1) c6 (S ++ [(x.au, knL hs (gLn S x))]) Ks) := ⟨_, (HKU.out.snoc hx1 g6 k6 o6).fr FR hgk1 (fun k hk => hNO.out k (hgk1 k hk))⟩
              have VR : Hid (VtN ((Value.slice A6 (i + 1) c6).ownBlock.toList ++ N2) R V2 vn2 (note hs (bytesL (gLn S x)))) := by
                obtain ⟨hf, s2⟩ := grow_no (no := N2) g6 k6
                exact (VTU.fr hf (fun k hk => List.mem_append.2 (Or.inl hk)) s2).fr FR (fun k hk => List.mem_append.2 (Or.inr (hgk1 k hk))) (fun k hk => Or.inl hk)
              have SR : Hid (getS (s.L.take (i + 1)) [] [] = (S ++ [(x.au, knL hs (gLn S x))], note hs (bytesL (gLn S x)))) := by
                have h1 : s.L.take (i + 1) = s.L.take i ++ [x] := by rw [List.take_add_one, HXi.out]; rfl
                unfold Hid; rw [h1, getS_snoc, hS0.out]
              clear VTU DTU hx1 o6 g6 k6 NBw BWU ebR Cb6 CG6 eG hGgk hbgk hgk1 bgr F6 K6 hne SU S6 FR HKU hXU bU gU L5 XK Xb Xq dX hX hU hR9
              go_wp2_with fail
              go_roundw
              case rel => exact ⟨i + 1, A6, c6, V2, vn2, vc2, S ++ [(x.au, knL hs (gLn S x))], note hs (bytesL (gLn S x)), by go_num, by omega, SR, FR3, CGR, CKR, CbR, KR, VR, VC2⟩
              case measure => simp only [intOf]; omega
          · have him' : ¬ (i : Int) < (m : Int) := by omega
            have him2 : i = m := by omega
            obtain ⟨Ks, hKs⟩ := hKs.out
            have HK := Lib.hid hKs
            have hS1 : Hid (getS (parse l).L [] [] = (S, hs)) := by have h1 := hS0.out; rw [List.take_of_length_le (by rw [hHl.out]; omega), hpe.out] at h1; exact h1
            have BWr : Hid (Below w.heap.size w wr) := BW0.out.trans (hF3.out.toBelow (fun k hk => by have h1 := hgkG.out; have h2 := hG.out; have h4 := hWs.out; have h5 := HBX.out; simp only [List.mem_cons, List.not_mem_nil, or_false] at hk; have h6 := hbw.out; rcases hk with h | h | h <;> omega) BW0.out.size)
            have FWr : Hid (Fr [G, G + 1, gk, b] W wr [G, G + 1, gk, b]) := (F0.out.wide (fun k hk => by simp at hk; simp [hk])).trans (hF3.out.wide (fun k hk => by simp at hk; rcases hk with h | h | h <;> simp [h]))
            have CAr : Hid (wr.heap[G + 1]? = some (.cells #[.slice Ar nr cr, .int .i64 0] 94 (0, 0))) := (hF3.out.block _ (lt_of_blk c01.out) (by simp only [List.mem_cons, List.not_mem_nil, or_false]; have h1 := hgkG.out; have h2 := HBN.out; omega)).trans c01.out
            have hvl : Hid (vn = hs.length) := by obtain ⟨_, _, h2, _⟩ := hVt.out; exact h2.symm
            have hKs2 := Lib.hid (HK.out.rkN hNO.out)
            go_wp2_with fail
            have hgk2 := hgkG.out
            obtain ⟨X, hX⟩ : ∃ W, Hid (W = wr.drew) := ⟨_, Lib.hid rfl⟩
            have dX : Below wr.heap.size wr X := by rw [hX.out]; exact below_drew (Below.refl _ _)
            have XC2 : Hid (X.heap[G + 1 + 1]? = some (.cells #[.slice none 0 0, .int .i64 0] 94 (0, 0))) := (dX.block (G + 1 + 1) (Nat.lt_of_lt_of_le (by have := hWs.out; omega) FWr.out.size)).trans ((FWr.out.block (G + 1 + 1) (by have := hWs.out; omega) (by simp only [List.mem_cons, List.not_mem_nil, or_false]; have h1 := hgkG.out; have h2 := HBN.out; omega)).trans C2.out)
            have XC3 : Hid (X.heap[G + 1 + 1 + 1]? = some (.cells #[.slice none 0 0, .int .i64 0] 33 (0, 0))) := (dX.block (G + 1 + 1 + 1) (Nat.lt_of_lt_of_le (by have := hWs.out; omega) FWr.out.size)).trans ((FWr.out.block (G + 1 + 1 + 1) (by have := hWs.out; omega) (by simp only [List.mem_cons, List.not_mem_nil, or_false]; have h1 := hgkG.out; have h2 := HBN.out; omega)).trans C3.out)
            have XC4 : Hid (X.heap[G + 1 + 1 + 1 + 1]? = some (.cells #[.slice none 0 0] 30 (0, 0))) := (dX.block (G + 1 + 1 + 1 + 1) (Nat.lt_of_lt_of_le (by have := hWs.out; omega) FWr.out.size)).trans ((FWr.out.block (G + 1 + 1 + 1 + 1) (by have := hWs.out; omega) (by simp only [List.mem_cons, List.not_mem_nil, or_false]; have h1 := hgkG.out; have h2 := HBN.out; omega)).trans C4.out)
            have XA : Hid (X.heap[G + 1]? = some (.cells #[.slice Ar nr cr, .int .i64 0] 94 (0, 0))) := (dX.block _ (lt_of_blk CAr.out)).trans CAr.out
            have XV : Hid (X.heap[G]? = some (.cells #[.slice V vn vc, .int .i64 0] 33 (0, 0))) := (dX.block _ (lt_of_blk hCG.out)).trans hCG.out
            have BX : Hid (Below w.heap.size w X) := BWr.out.trans (dX.mono BWr.out.size)
            have XK : Hid (X.heap[gk]? = some (.cells #[.slice Kb i kc] 30 (0, 0))) := (dX.block _ (lt_of_blk hCK.out)).trans hCK.out
            refine wp_region_noPanic ?_
            refine wp_region_held_drew (S := fun w' => ∀ k, k ∈ [G, G + 1, gk] → w'.heap[k]? = X.heap[k]?) (by kernel_rfl) (by rw [← hX.out]; exact fun _ _ => rfl) (fun hS => ?_)
            rw [← hX.out]
            clear hS
            have hS : ∀ k, k ∈ [G, G + 1, gk] → X.heap[k]? = X.heap[k]? := fun _ _ => rfl
            refine wpAnyH_take (i := 0) (v := .agg #[.slice Ar nr cr, .int .i64 0]) rfl (by kernel_rfl) (by kernel_rfl) (by kernel_rfl) (fun _ _ _ h => h) (Or.inl ⟨by rfl, ?hyqf0⟩) hS ?restqf0
            case hyqf0 => (intro w' hSw; have c0 : w'.cell? ⟨G + 1, 0, none⟩ = some (.slice Ar nr cr) := cell_blk ((hSw (G + 1) (by simp)).trans XA.out) 0 rfl; have c1 : w'.cell? ⟨G + 1, 1, none⟩ = some (.int .i64 0) := cell_blk ((hSw (G + 1) (by simp)).trans XA.out) 1 rfl; go_simp; first | done | with_reducible rfl)
            try simp only [Act.put, List.getElem_toArray, List.getElem_cons_zero, List.getElem_cons_succ, List.setIfInBounds_toArray, List.set_cons_zero, List.set_cons_succ]
            refine wpAnyH_take (i := 1) (v := .agg #[.slice V vn vc, .int .i64 0]) rfl (by kernel_rfl) (by kernel_rfl) (by kernel_rfl) (fun _ _ _ h => h) (Or.inl ⟨by rfl, ?hyqf1⟩) hS ?restqf1
            case hyqf1 => (intro w' hSw; have c0 : w'.cell? ⟨G, 0, none⟩ = some (.slice V vn vc) := cell_blk ((hSw (G) (by simp)).trans XV.out) 0 rfl; have c1 : w'.cell? ⟨G, 1, none⟩ = some (.int .i64 0) := cell_blk ((hSw (G) (by simp)).trans XV.out) 1 rfl; go_simp; first | done | with_reducible rfl)
            try simp only [Act.put, List.getElem_toArray, List.getElem_cons_zero, List.getElem_cons_succ, List.setIfInBounds_toArray, List.set_cons_zero, List.set_cons_succ]
            refine wpAnyH_take (i := 2) (v := .agg #[.slice Kb i kc]) rfl (by kernel_rfl) (by kernel_rfl) (by kernel_rfl) (fun _ _ _ h => h) (Or.inl ⟨by rfl, ?hyqf2⟩) hS ?restqf2
            case hyqf2 => (intro w' hSw; have c0 : w'.cell? ⟨gk, 0, none⟩ = some (.slice Kb i kc) := cell_blk ((hSw (gk) (by simp)).trans XK.out) 0 rfl; go_simp; first | done | with_reducible rfl)
            try simp only [Act.put, List.getElem_toArray, List.getElem_cons_zero, List.getElem_cons_succ, List.setIfInBounds_toArray, List.set_cons_zero, List.set_cons_succ]
            refine wpAnyH_ready (rs := [3]) (by kernel_rfl) (by simp) ?_
            refine AllReadyH.cons rfl (fun K hK => ?_) AllReadyH.nil
            refine step_store_row 94 (.tmp 4) (.tmp 139) rfl rfl (G + 1 + 1) #[.slice Ar nr cr, .int .i64 0] rfl (by first | rfl | kernel_rfl) _ _ XC2.out (by kernel_rfl) rfl (by kernel_rfl) ?_
            obtain ⟨P1, hP1⟩ : ∃ W0, Hid (W0 = X.setRow (G + 1 + 1) #[.slice Ar nr cr, .int .i64 0]) := ⟨_, Lib.hid rfl⟩
            rw [← hP1.out]
            have P1o : Hid (P1.heap[G + 1 + 1]? = some (.cells #[.slice Ar nr cr, .int .i64 0] 94 (0, 0))) := by unfold Hid; rw [hP1.out]; exact setRow_heap _ _ _ _ _ _ XC2.out
            have P13 : Hid (P1.heap[G + 1 + 1 + 1]? = some (.cells #[.slice none 0 0, .int .i64 0] 33 (0, 0))) := by unfold Hid; rw [hP1.out, setRow_other _ _ _ _ (by omega)]; exact XC3.out
            have P14 : Hid (P1.heap[G + 1 + 1 + 1 + 1]? = some (.cells #[.slice none 0 0] 30 (0, 0))) := by unfold Hid; rw [hP1.out, setRow_other _ _ _ _ (by omega)]; exact XC4.out
            have BP1 : Hid (Below w.heap.size w P1) := by rw [hP1.out]; exact below_setRow BX.out (by have := hG.out; omega) _
            have SP1 : ∀ k, k ∈ [G, G + 1, gk] → P1.heap[k]? = X.heap[k]? := fun k hk => (show P1.heap[k]? = X.heap[k]? by rw [hP1.out]; exact setRow_other _ _ _ _ (by simp only [List.mem_cons, List.not_mem_nil, or_false] at hk; omega)).trans (hS k hk)
            refine hK.out _ _ SP1 ?_
            intro hS2
            clear hK K hS hS2
            try simp only [Act.put, List.getElem_toArray, List.getElem_cons_zero, List.getElem_cons_succ, List.setIfInBounds_toArray, List.set_cons_zero, List.set_cons_succ]
            have hS := SP1
            refine wpAnyH_ready (rs := [4]) (by kernel_rfl) (by simp) ?_
            refine AllReadyH.cons rfl (fun K hK => ?_) AllReadyH.nil
            refine step_store_row 33 (.tmp 5) (.tmp 140) rfl rfl (G + 1 + 1 + 1) #[.slice V vn vc, .int .i64 0] rfl (by first | rfl | kernel_rfl) _ _ P13.out (by kernel_rfl) rfl (by kernel_rfl) ?_
            obtain ⟨P2, hP2⟩ : ∃ W0, Hid (W0 = P1.setRow (G + 1 + 1 + 1) #[.slice V vn vc, .int .i64 0]) := ⟨_, Lib.hid rfl⟩
            rw [← hP2.out]
            have P2o : Hid (P2.heap[G + 1 + 1 + 1]? = some (.cells #[.slice V vn vc, .int .i64 0] 33 (0, 0))) := by unfold Hid; rw [hP2.out]; exact setRow_heap _ _ _ _ _ _ P13.out
            have P22 : Hid (P2.heap[G + 1 + 1]? = some (.cells #[.slice Ar nr cr, .int .i64 0] 94 (0, 0))) := by unfold Hid; rw [hP2.out, setRow_other _ _ _ _ (by omega)]; exact P1o.out
            have P24 : Hid (P2.heap[G + 1 + 1 + 1 + 1]? = some (.cells #[.slice none 0 0] 30 (0, 0))) := by unfold Hid; rw [hP2.out, setRow_other _ _ _ _ (by omega)]; exact P14.out
            have BP2 : Hid (Below w.heap.size w P2) := by rw [hP2.out]; exact below_setRow BP1.out (by have := hG.out; omega) _
            have SP2 : ∀ k, k ∈ [G, G + 1, gk] → P2.heap[k]? = X.heap[k]? := fun k hk => (show P2.heap[k]? = P1.heap[k]? by rw [hP2.out]; exact setRow_other _ _ _ _ (by simp only [List.mem_cons, List.not_mem_nil, or_false] at hk; omega)).trans (hS k hk)
            refine hK.out _ _ SP2 ?_
            intro hS2
            clear hK K hS hS2
            try simp only [Act.put, List.getElem_toArray, List.getElem_cons_zero, List.getElem_cons_succ, List.setIfInBounds_toArray, List.set_cons_zero, List.set_cons_succ]
            have hS := SP2
            refine wpAnyH_ready (rs := [5]) (by kernel_rfl) (by simp) ?_
            refine AllReadyH.cons rfl (fun K hK => ?_) AllReadyH.nil
            refine step_store_row 30 (.tmp 6) (.tmp 141) rfl rfl (G + 1 + 1 + 1 + 1) #[.slice Kb i kc] rfl (by first | rfl | kernel_rfl) _ _ P24.out (by kernel_rfl) rfl (by kernel_rfl) ?_
            obtain ⟨P3, hP3⟩ : ∃ W0, Hid (W0 = P2.setRow (G + 1 + 1 + 1 + 1) #[.slice Kb i kc]) := ⟨_, Lib.hid rfl⟩
            rw [← hP3.out]
            have P3o : Hid (P3.heap[G + 1 + 1 + 1 + 1]? = some (.cells #[.slice Kb i kc] 30 (0, 0))) := by unfold Hid; rw [hP3.out]; exact setRow_heap _ _ _ _ _ _ P24.out
            have P32 : Hid (P3.heap[G + 1 + 1]? = some (.cells #[.slice Ar nr cr, .int .i64 0] 94 (0, 0))) := by unfold Hid; rw [hP3.out, setRow_other _ _ _ _ (by omega)]; exact P22.out
            have P33 : Hid (P3.heap[G + 1 + 1 + 1]? = some (.cells #[.slice V vn vc, .int .i64 0] 33 (0, 0))) := by unfold Hid; rw [hP3.out, setRow_other _ _ _ _ (by omega)]; exact P2o.out
            have BP3 : Hid (Below w.heap.size w P3) := by rw [hP3.out]; exact below_setRow BP2.out (by have := hG.out; omega) _
            have SP3 : ∀ k, k ∈ [G, G + 1, gk] → P3.heap[k]? = X.heap[k]? := fun k hk => (show P3.heap[k]? = P2.heap[k]? by rw [hP3.out]; exact setRow_other _ _ _ _ (by simp only [List.mem_cons, List.not_mem_nil, or_false] at hk; omega)).trans (hS k hk)
            refine hK.out _ _ SP3 ?_
            intro hS2
            clear hK K hS hS2
            try simp only [Act.put, List.getElem_toArray, List.getElem_cons_zero, List.getElem_cons_succ, List.setIfInBounds_toArray, List.set_cons_zero, List.set_cons_succ]
            have hS := SP3
            refine wpAnyH_done (by kernel_rfl) (NoPanic.normal ?_) _
            go_wp2_with fail
            refine bodyPost_ret (v := .tuple #[.agg #[.slice Ar nr cr, .int .i64 0], .agg #[.slice V vn vc, .int .i64 0], .agg #[.slice Kb i kc]]) ?_ rfl ⟨_, _, _, _, _, _, _, _, _, by rw [← hpe.out, hse], BP3.out, fun _ => ⟨by rw [← hpe.out]; exact hRA.out.len, ?_, by rw [hS1.out]; exact hvl.out⟩⟩
            exact results_ccc Try.results48 rfl rfl rfl (run_loadVar_mid (P := Try.prog) P3 (G + 1 + 1) 0 94 _ _ (range_of P32.out) Try.underlying94 rfl (by kernel_rfl)) (run_loadVar_mid (P := Try.prog) P3 (G + 1 + 1 + 1) 0 33 _ _ (range_of P33.out) Try.underlying33 rfl (by kernel_rfl)) (run_loadVar_mid (P := Try.prog) P3 (G + 1 + 1 + 1 + 1) 0 30 _ _ (range_of P3o.out) Try.underlying30 rfl (by kernel_rfl))
            · rw [hS1.out]
              have f1 : Fr [G + 1 + 1] X P1 [G + 1 + 1] := by rw [hP1.out]; exact setRow_fr _ _ _
              have f2 : Fr [G + 1 + 1 + 1] P1 P2 [G + 1 + 1 + 1] := by rw [hP2.out]; exact setRow_fr _ _ _
              have f3 : Fr [G + 1 + 1 + 1 + 1] P2 P3 [G + 1 + 1 + 1 + 1] := by rw [hP3.out]; exact setRow_fr _ _ _
              exact (((hKs2.out.below dX).fr f1 (fun k hk => hm4.out k (by simp at hk; simp [hk])) (fun k hk => Or.inl hk)).fr f2 (fun k hk => hm4.out k (by simp at hk; simp [hk])) (fun k hk => Or.inl hk)).fr f3 (fun k hk => hm4.out k (by simp at hk; simp [hk])) (fun k hk => absurd hk (by simp))
      · have hse' : (s.e != 0) = true := by simpa using hse
        have hne : Hid (¬ (parse l).e = 0) := by unfold Hid; rw [← hpe.out]; exact hse
        clear hse
        go_wp2_with fail
        clear e0 e1
        have wo0 : Hid (wo.heap[G]? = some (.cells #[.slice none 0 0, .int .i64 0] 33 (0, 0))) := (hF.out.block G (by have := hWs.out; omega) (by simp)).trans C0.out
        obtain ⟨X, hX⟩ : ∃ W, Hid (W = wo.drew) := ⟨_, Lib.hid rfl⟩
        have dX : Below wo.heap.size wo X := by rw [hX.out]; exact below_drew (Below.refl _ _)
        have XC2 : Hid (X.heap[G + 1 + 1]? = some (.cells #[.slice none 0 0, .int .i64 0] 94 (0, 0))) := (dX.block (G + 1 + 1) (Nat.lt_of_lt_of_le (by have := hWs.out; omega) hF.out.size)).trans ((hF.out.block (G + 1 + 1) (by have := hWs.out; omega) (by simp only [List.mem_cons, List.not_mem_nil, or_false]; omega)).trans C2.out)
        have XC3 : Hid (X.heap[G + 1 + 1 + 1]? = some (.cells #[.slice none 0 0, .int .i64 0] 33 (0, 0))) := (dX.block (G + 1 + 1 + 1) (Nat.lt_of_lt_of_le (by have := hWs.out; omega) hF.out.size)).trans ((hF.out.block (G + 1 + 1 + 1) (by have := hWs.out; omega) (by simp only [List.mem_cons, List.not_mem_nil, or_false]; omega)).trans C3.out)
        have XC4 : Hid (X.heap[G + 1 + 1 + 1 + 1]? = some (.cells #[.slice none 0 0] 30 (0, 0))) := (dX.block (G + 1 + 1 + 1 + 1) (Nat.lt_of_lt_of_le (by have := hWs.out; omega) hF.out.size)).trans ((hF.out.block (G + 1 + 1 + 1 + 1) (by have := hWs.out; omega) (by simp only [List.mem_cons, List.not_mem_nil, or_false]; omega)).trans C4.out)
        have XA : Hid (X.heap[G + 1]? = some (.cells #[.slice Ar nr cr, .int .i64 s.e] 94 (0, 0))) := (dX.block _ (lt_of_blk hC.out)).trans hC.out
        have XV : Hid (X.heap[G]? = some (.cells #[.slice none 0 0, .int .i64 0] 33 (0, 0))) := (dX.block _ (lt_of_blk wo0.out)).trans wo0.out
        have BX : Hid (Below w.heap.size w X) := BWo.out.trans (dX.mono BWo.out.size)
        refine wp_region_noPanic ?_
        refine wp_region_held_drew (S := fun w' => ∀ k, k ∈ [G, G + 1] → w'.heap[k]? = X.heap[k]?) (by kernel_rfl) (by rw [← hX.out]; exact fun _ _ => rfl) (fun hS => ?_)
        rw [← hX.out]
        clear hS
        have hS : ∀ k, k ∈ [G, G + 1] → X.heap[k]? = X.heap[k]? := fun _ _ => rfl
        refine wpAnyH_take (i := 0) (v := .agg #[.slice Ar nr cr, .int .i64 s.e]) rfl (by kernel_rfl) (by kernel_rfl) (by kernel_rfl) (fun _ _ _ h => h) (Or.inl ⟨by rfl, ?hyqe0⟩) hS ?restqe0
        case hyqe0 => (intro w' hSw; have c0 : w'.cell? ⟨G + 1, 0, none⟩ = some (.slice Ar nr cr) := cell_blk ((hSw (G + 1) (by simp)).trans XA.out) 0 rfl; have c1 : w'.cell? ⟨G + 1, 1, none⟩ = some (.int .i64 s.e) := cell_blk ((hSw (G + 1) (by simp)).trans XA.out) 1 rfl; go_simp; first | done | with_reducible rfl)
        try simp only [Act.put, List.getElem_toArray, List.getElem_cons_zero, List.getElem_cons_succ, List.setIfInBounds_toArray, List.set_cons_zero, List.set_cons_succ]
        refine wpAnyH_take (i := 1) (v := .agg #[.slice none 0 0, .int .i64 0]) rfl (by kernel_rfl) (by kernel_rfl) (by kernel_rfl) (fun _ _ _ h => h) (Or.inl ⟨by rfl, ?hyqe1⟩) hS ?restqe1
        case hyqe1 => (intro w' hSw; have c0 : w'.cell? ⟨G, 0, none⟩ = some (.slice none 0 0) := cell_blk ((hSw (G) (by simp)).trans XV.out) 0 rfl; have c1 : w'.cell? ⟨G, 1, none⟩ = some (.int .i64 0) := cell_blk ((hSw (G) (by simp)).trans XV.out) 1 rfl; go_simp; first | done | with_reducible rfl)
        try simp only [Act.put, List.getElem_toArray, List.getElem_cons_zero, List.getElem_cons_succ, List.setIfInBounds_toArray, List.set_cons_zero, List.set_cons_succ]
        refine wpAnyH_take (i := 2) (v := .agg #[.slice none 0 0]) rfl (by kernel_rfl) (by kernel_rfl) (by kernel_rfl) (fun _ _ _ h => h) (Or.inl ⟨by rfl, ?hyqe2⟩) hS ?restqe2
        case hyqe2 => (intro w' hSw; go_simp; first | done | with_reducible rfl)
        try simp only [Act.put, List.getElem_toArray, List.getElem_cons_zero, List.getElem_cons_succ, List.setIfInBounds_toArray, List.set_cons_zero, List.set_cons_succ]
        refine wpAnyH_ready (rs := [3]) (by kernel_rfl) (by simp) ?_
        refine AllReadyH.cons rfl (fun K hK => ?_) AllReadyH.nil
        refine step_store_row 94 (.tmp 4) (.tmp 84) rfl rfl (G + 1 + 1) #[.slice Ar nr cr, .int .i64 s.e] rfl (by first | rfl | kernel_rfl) _ _ XC2.out (by kernel_rfl) rfl (by kernel_rfl) ?_
        obtain ⟨P1, hP1⟩ : ∃ W0, Hid (W0 = X.setRow (G + 1 + 1) #[.slice Ar nr cr, .int .i64 s.e]) := ⟨_, Lib.hid rfl⟩
        rw [← hP1.out]
        have P1o : Hid (P1.heap[G + 1 + 1]? = some (.cells #[.slice Ar nr cr, .int .i64 s.e] 94 (0, 0))) := by unfold Hid; rw [hP1.out]; exact setRow_heap _ _ _ _ _ _ XC2.out
        have P13 : Hid (P1.heap[G + 1 + 1 + 1]? = some (.cells #[.slice none 0 0, .int .i64 0] 33 (0, 0))) := by unfold Hid; rw [hP1.out, setRow_other _ _ _ _ (by omega)]; exact XC3.out
        have P14 : Hid (P1.heap[G + 1 + 1 + 1 + 1]? = some (.cells #[.slice none 0 0] 30 (0, 0))) := by unfold Hid; rw [hP1.out, setRow_other _ _ _ _ (by omega)]; exact XC4.out
        have BP1 : Hid (Below w.heap.size w P1) := by rw [hP1.out]; exact below_setRow BX.out (by have := hG.out; omega) _
        have SP1 : ∀ k, k ∈ [G, G + 1] → P1.heap[k]? = X.heap[k]? := fun k hk => (show P1.heap[k]? = X.heap[k]? by rw [hP1.out]; exact setRow_other _ _ _ _ (by simp only [List.mem_cons, List.not_mem_nil, or_false] at hk; omega)).trans (hS k hk)
        refine hK.out _ _ SP1 ?_
        intro hS2
        clear hK K hS hS2
        try simp only [Act.put, List.getElem_toArray, List.getElem_cons_zero, List.getElem_cons_succ, List.setIfInBounds_toArray, List.set_cons_zero, List.set_cons_succ]
        have hS := SP1
        refine wpAnyH_ready (rs := [4]) (by kernel_rfl) (by simp) ?_
        refine AllReadyH.cons rfl (fun K hK => ?_) AllReadyH.nil
        refine step_store_row 33 (.tmp 5) (.tmp 85) rfl rfl (G + 1 + 1 + 1) #[.slice none 0 0, .int .i64 0] rfl (by first | rfl | kernel_rfl) _ _ P13.out (by kernel_rfl) rfl (by kernel_rfl) ?_
        obtain ⟨P2, hP2⟩ : ∃ W0, Hid (W0 = P1.setRow (G + 1 + 1 + 1) #[.slice none 0 0, .int .i64 0]) := ⟨_, Lib.hid rfl⟩
        rw [← hP2.out]
        have P2o : Hid (P2.heap[G + 1 + 1 + 1]? = some (.cells #[.slice none 0 0, .int .i64 0] 33 (0, 0))) := by unfold Hid; rw [hP2.out]; exact setRow_heap _ _ _ _ _ _ P13.out
        have P22 : Hid (P2.heap[G + 1 + 1]? = some (.cells #[.slice Ar nr cr, .int .i64 s.e] 94 (0, 0))) := by unfold Hid; rw [hP2.out, setRow_other _ _ _ _ (by omega)]; exact P1o.out
        have P24 : Hid (P2.heap[G + 1 + 1 + 1 + 1]? = some (.cells #[.slice none 0 0] 30 (0, 0))) := by unfold Hid; rw [hP2.out, setRow_other _ _ _ _ (by omega)]; exact P14.out
        have BP2 : Hid (Below w.heap.size w P2) := by rw [hP2.out]; exact below_setRow BP1.out (by have := hG.out; omega) _
        have SP2 : ∀ k, k ∈ [G, G + 1] → P2.heap[k]? = X.heap[k]? := fun k hk => (show P2.heap[k]? = P1.heap[k]? by rw [hP2.out]; exact setRow_other _ _ _ _ (by simp only [List.mem_cons, List.not_mem_nil, or_false] at hk; omega)).trans (hS k hk)
        refine hK.out _ _ SP2 ?_
        intro hS2
        clear hK K hS hS2
        try simp only [Act.put, List.getElem_toArray, List.getElem_cons_zero, List.getElem_cons_succ, List.setIfInBounds_toArray, List.set_cons_zero, List.set_cons_succ]
        have hS := SP2
        refine wpAnyH_ready (rs := [5]) (by kernel_rfl) (by simp) ?_
        refine AllReadyH.cons rfl (fun K hK => ?_) AllReadyH.nil
        refine step_store_row 30 (.tmp 6) (.tmp 86) rfl rfl (G + 1 + 1 + 1 + 1) #[.slice none 0 0] rfl (by first | rfl | kernel_rfl) _ _ P24.out (by kernel_rfl) rfl (by kernel_rfl) ?_
        obtain ⟨P3, hP3⟩ : ∃ W0, Hid (W0 = P2.setRow (G + 1 + 1 + 1 + 1) #[.slice none 0 0]) := ⟨_, Lib.hid rfl⟩
        rw [← hP3.out]
        have P3o : Hid (P3.heap[G + 1 + 1 + 1 + 1]? = some (.cells #[.slice none 0 0] 30 (0, 0))) := by unfold Hid; rw [hP3.out]; exact setRow_heap _ _ _ _ _ _ P24.out
        have P32 : Hid (P3.heap[G + 1 + 1]? = some (.cells #[.slice Ar nr cr, .int .i64 s.e] 94 (0, 0))) := by unfold Hid; rw [hP3.out, setRow_other _ _ _ _ (by omega)]; exact P22.out
        have P33 : Hid (P3.heap[G + 1 + 1 + 1]? = some (.cells #[.slice none 0 0, .int .i64 0] 33 (0, 0))) := by unfold Hid; rw [hP3.out, setRow_other _ _ _ _ (by omega)]; exact P2o.out
        have BP3 : Hid (Below w.heap.size w P3) := by rw [hP3.out]; exact below_setRow BP2.out (by have := hG.out; omega) _
        have SP3 : ∀ k, k ∈ [G, G + 1] → P3.heap[k]? = X.heap[k]? := fun k hk => (show P3.heap[k]? = P2.heap[k]? by rw [hP3.out]; exact setRow_other _ _ _ _ (by simp only [List.mem_cons, List.not_mem_nil, or_false] at hk; omega)).trans (hS k hk)
        refine hK.out _ _ SP3 ?_
        intro hS2
        clear hK K hS hS2
        try simp only [Act.put, List.getElem_toArray, List.getElem_cons_zero, List.getElem_cons_succ, List.setIfInBounds_toArray, List.set_cons_zero, List.set_cons_succ]
        have hS := SP3
        refine wpAnyH_done (by kernel_rfl) (NoPanic.normal ?_) _
        go_wp2_with fail
        refine bodyPost_ret (v := .tuple #[.agg #[.slice Ar nr cr, .int .i64 s.e], .agg #[.slice none 0 0, .int .i64 0], .agg #[.slice none 0 0]]) ?_ rfl ⟨_, _, _, _, _, _, _, _, _, by rw [hpe.out], BP3.out, fun h => absurd h hne.out⟩
        exact results_ccc Try.results48 rfl rfl rfl (run_loadVar_mid (P := Try.prog) P3 (G + 1 + 1) 0 94 _ _ (range_of P32.out) Try.underlying94 rfl (by kernel_rfl)) (run_loadVar_mid (P := Try.prog) P3 (G + 1 + 1 + 1) 0 33 _ _ (range_of P33.out) Try.underlying33 rfl (by kernel_rfl)) (run_loadVar_mid (P := Try.prog) P3 (G + 1 + 1 + 1 + 1) 0 30 _ _ (range_of P3o.out) Try.underlying30 rfl (by kernel_rfl))
end Go.Proofs.Ytabcbpcfleociaa
