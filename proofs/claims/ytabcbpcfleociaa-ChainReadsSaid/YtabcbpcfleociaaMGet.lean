/- A book read from bytes: plain. -/
import Derived.Test.YtabcbpcfleociaaMRdr
import Derived.Test.YtabcbpcfleociaaMPv
import Derived.Test.YtabcbpcfleociaaMChk
import Derived.Test.YtabcbpcfleociaaMPla
namespace Go.Proofs.Ytabcbpcfleociaa
set_option linter.unusedSimpArgs false
set_option linter.unusedVariables false
/-- What is read so far: the links (nothing ahead yet), the place, the error. -/
structure Gs where
  L : List Ln
  at_ : Nat
  e : Int
/-- One link behind state s: the body, then the epoch. -/
def lnkT (l : List UInt8) (s : Gs) : List UInt8 × Nat × Int := txtS l s.at_ s.e 32
def lnkE (l : List UInt8) (s : Gs) : Int := if (lnkT l s).1.length = 32 then (lnkT l s).2.2 else failS (lnkT l s).2.2 5
def lnkN (l : List UInt8) (s : Gs) : Nat × Nat × Int := numS l (lnkT l s).2.1 (lnkE l s) 1 65536
def lnkF (l : List UInt8) (s : Gs) (last : Nat) : Int := if (lnkN l s).1 < last then failS (lnkN l s).2.2 5 else (lnkN l s).2.2
def lnkL (l : List UInt8) (s : Gs) (au : Int) (i : Nat) : Ln := ⟨au, (i : Int) + 1, ((lnkN l s).1 : Int), [], (lnkT l s).1⟩
def lnks (l : List UInt8) (au : Int) : Nat → Nat → Gs → Nat → Gs
  | 0, _, s, _ => s
  | k + 1, i, s, last => if lnkF l s last = 0 then lnks l au k (i + 1) ⟨s.L ++ [lnkL l s au i], (lnkN l s).2.1, 0⟩ (lnkN l s).1 else ⟨s.L, (lnkN l s).2.1, lnkF l s last⟩
def cnt (l : List UInt8) (s : Gs) : Nat × Nat × Int := numS l s.at_ s.e 0 1048576
def auths (l : List UInt8) : Nat → Nat → Gs → Gs
  | 0, _, s => s
  | k + 1, a, s => auths l k (a + 1) (lnks l (a : Int) (cnt l s).1 0 ⟨s.L, (cnt l s).2.1, (cnt l s).2.2⟩ 1)
def parse (l : List UInt8) : Gs := auths l 5 0 ⟨[], 0, 0⟩
theorem numS_err (l : List UInt8) (at_ : Nat) {e : Int} (he : e ≠ 0) (lo hi : Int) : numS l at_ e lo hi = (0, at_, e) := if_neg he
theorem txtS_err (l : List UInt8) (at_ : Nat) {e : Int} (he : e ≠ 0) (hi : Int) : txtS l at_ e hi = ([], at_, e) := if_neg he
/-- A number that is read without an error. -/
theorem numS_good {l : List UInt8} {at_ : Nat} {e lo hi : Int} (ha : at_ ≤ l.length) (h : (numS l at_ e lo hi).2.2 = 0) :
    e = 0 ∧ lo ≤ ((numS l at_ e lo hi).1 : Int) ∧ ((numS l at_ e lo hi).1 : Int) ≤ hi ∧ at_ ≤ (numS l at_ e lo hi).2.1 ∧ (numS l at_ e lo hi).2.1 ≤ l.length := by
  by_cases he : e = 0
  · subst he
    rcases hx : nxt (l.drop at_) 0 0 with ⟨x, kk, f⟩
    by_cases hf : f = 0
    · subst hf
      have hk := nxt_bd hx
      rw [List.length_drop] at hk
      by_cases hb : (x : Int) < lo ∨ hi < (x : Int)
      · have hs : numS l at_ 0 lo hi = (0, at_, 6) := by unfold numS; rw [if_pos rfl, hx]; simp only; rw [if_pos trivial, if_pos hb]
        rw [hs] at h; exact absurd (show (6 : Int) = 0 from h) (by decide)
      · have hs : numS l at_ 0 lo hi = (x, at_ + kk, 0) := by unfold numS; rw [if_pos rfl, hx]; simp only; rw [if_pos trivial, if_neg hb]
        rw [hs]
        simp only
        refine ⟨trivial, ?_, ?_, ?_, ?_⟩ <;> omega
    · have hs : numS l at_ 0 lo hi = (0, at_, f) := by unfold numS; rw [if_pos rfl, hx]; simp only; rw [if_neg hf]
      rw [hs] at h; exact absurd h hf
  · rw [numS_err l at_ he] at h; exact absurd h he
theorem numS_le {l : List UInt8} {at_ : Nat} (e lo hi : Int) (ha : at_ ≤ l.length) : at_ ≤ (numS l at_ e lo hi).2.1 ∧ (numS l at_ e lo hi).2.1 ≤ l.length ∧ ((numS l at_ e lo hi).2.2 ≠ 0 → (numS l at_ e lo hi).1 = 0) := by
  by_cases h : (numS l at_ e lo hi).2.2 = 0
  · exact ⟨(numS_good ha h).2.2.2.1, (numS_good ha h).2.2.2.2, fun hn => absurd h hn⟩
  · have : (numS l at_ e lo hi).1 = 0 ∧ (numS l at_ e lo hi).2.1 = at_ := by
      revert h
      unfold numS
      split
      · split
        · split
          · intro _; exact ⟨rfl, rfl⟩
          · intro h; exact absurd rfl h
        · intro _; exact ⟨rfl, rfl⟩
      · intro _; exact ⟨rfl, rfl⟩
    rw [this.2]
    exact ⟨Nat.le_refl _, ha, fun _ => this.1⟩
theorem txtS_good {l : List UInt8} {at_ : Nat} {e hi : Int} (ha : at_ ≤ l.length) (h : (txtS l at_ e hi).2.2 = 0) :
    e = 0 ∧ at_ + (txtS l at_ e hi).1.length ≤ (txtS l at_ e hi).2.1 ∧ (txtS l at_ e hi).2.1 ≤ l.length := by
  revert h
  unfold txtS
  split
  · rename_i he
    split
    · split
      · intro h; exact absurd h (show (2 : Int) ≠ 0 by decide)
      · split
        · intro h; exact absurd h (show (3 : Int) ≠ 0 by decide)
        · intro _
          refine ⟨he, ?_, ?_⟩
          · simp only [List.length_take, List.length_drop]; omega
          · simp only; omega
    · rename_i hn; intro h; exact absurd h hn
  · rename_i hn; intro h; exact absurd h hn
theorem txtS_le {l : List UInt8} {at_ : Nat} (e hi : Int) (ha : at_ ≤ l.length) : at_ ≤ (txtS l at_ e hi).2.1 ∧ (txtS l at_ e hi).2.1 ≤ l.length := by
  unfold txtS
  split
  · split
    · split
      · exact ⟨Nat.le_refl _, ha⟩
      · split
        · exact ⟨Nat.le_refl _, ha⟩
        · simp only; omega
    · exact ⟨Nat.le_refl _, ha⟩
  · exact ⟨Nat.le_refl _, ha⟩
/-- A link that is read without an error. -/
theorem lnkF_good {l : List UInt8} {s : Gs} {last : Nat} (ha : s.at_ ≤ l.length) (h : lnkF l s last = 0) :
    s.e = 0 ∧ (lnkT l s).1.length = 32 ∧ (lnkT l s).2.2 = 0 ∧ (lnkN l s).2.2 = 0 ∧ 1 ≤ (lnkN l s).1 ∧ (lnkN l s).1 ≤ 65536 ∧ last ≤ (lnkN l s).1 ∧ s.at_ + 32 ≤ (lnkN l s).2.1 ∧ (lnkN l s).2.1 ≤ l.length := by
  unfold lnkF at h
  by_cases hc : (lnkN l s).1 < last
  · rw [if_pos hc] at h
    unfold failS at h
    split at h
    · exact absurd h (by decide)
    · rename_i hn; exact absurd h hn
  · rw [if_neg hc] at h
    have ht := txtS_le s.e 32 ha
    have hn := numS_good (l := l) (at_ := (lnkT l s).2.1) (e := lnkE l s) (lo := 1) (hi := 65536) ht.2 h
    obtain ⟨h1, h2, h3, h4, h5⟩ := hn
    have he : (lnkT l s).1.length = 32 ∧ (lnkT l s).2.2 = 0 := by
      unfold lnkE at h1
      split at h1
      · rename_i h6; exact ⟨h6, h1⟩
      · unfold failS at h1
        split at h1
        · exact absurd h1 (by decide)
        · rename_i hn; exact absurd h1 hn
    have hg := txtS_good ha he.2
    have h7 : s.at_ + (lnkT l s).1.length ≤ (lnkT l s).2.1 := hg.2.1
    unfold lnkN at *
    refine ⟨hg.1, he.1, he.2, h, ?_, ?_, ?_, ?_, h5⟩ <;> omega
theorem lnkN_le {l : List UInt8} {s : Gs} (ha : s.at_ ≤ l.length) : s.at_ ≤ (lnkN l s).2.1 ∧ (lnkN l s).2.1 ≤ l.length := by
  have ht := txtS_le s.e 32 ha
  have hn := numS_le (l := l) (at_ := (lnkT l s).2.1) (lnkE l s) 1 65536 ht.2
  exact ⟨Nat.le_trans ht.1 hn.1, hn.2.1⟩
/-- Links as they may have been read. -/
structure Gs.ok (l : List UInt8) (s : Gs) : Prop where
  at_ : s.at_ ≤ l.length
  len : 32 * s.L.length ≤ s.at_
  au : ∀ x ∈ s.L, (0 ≤ x.au ∧ x.au < 5) ∧ 1 ≤ x.ep ∧ x.ep ≤ 65536 ∧ x.bd.length = 32 ∧ x.pv = []
theorem Gs.ok.err {l : List UInt8} {s : Gs} (h : s.ok l) (e : Int) : (Gs.mk s.L s.at_ e).ok l := ⟨h.at_, h.len, h.au⟩
theorem Gs.ok.go {l : List UInt8} {s : Gs} (h : s.ok l) {at2 : Nat} (e : Int) (h1 : s.at_ ≤ at2) (h2 : at2 ≤ l.length) : (Gs.mk s.L at2 e).ok l := ⟨h2, Nat.le_trans h.len h1, h.au⟩
theorem Gs.ok.step {l : List UInt8} {s : Gs} (h : s.ok l) {last : Nat} (hf : lnkF l s last = 0) {au : Int} (hau : 0 ≤ au ∧ au < 5) (i : Nat) : (Gs.mk (s.L ++ [lnkL l s au i]) (lnkN l s).2.1 0).ok l := by
  obtain ⟨h1, h2, h3, h4, h5, h6, h7, h8, h9⟩ := lnkF_good h.at_ hf
  refine ⟨h9, ?_, fun x hx => ?_⟩
  · have := h.len
    simp only [List.length_append, List.length_singleton]
    omega
  · rcases List.mem_append.1 hx with hx | hx
    · exact h.au x hx
    · obtain rfl : x = lnkL l s au i := by simpa using hx
      refine ⟨hau, ?_, ?_, h2, rfl⟩ <;> (unfold lnkL; simp only; omega)
theorem lnks_ok {l : List UInt8} {au : Int} (hau : 0 ≤ au ∧ au < 5) : ∀ (k i : Nat) (s : Gs) (last : Nat), s.ok l → (lnks l au k i s last).ok l
  | 0, _, s, _, h => h
  | k + 1, i, s, last, h => by
    unfold lnks
    split
    · rename_i hf
      exact lnks_ok hau k (i + 1) _ _ (h.step hf hau i)
    · exact h.go _ (lnkN_le h.at_).1 (lnkN_le h.at_).2
theorem cnt_le {l : List UInt8} {s : Gs} (h : s.ok l) : (Gs.mk s.L (cnt l s).2.1 (cnt l s).2.2).ok l := h.go _ (numS_le s.e 0 1048576 h.at_).1 (numS_le s.e 0 1048576 h.at_).2.1
theorem auths_ok {l : List UInt8} : ∀ (k a : Nat) (s : Gs), a + k ≤ 5 → s.ok l → (auths l k a s).ok l
  | 0, _, s, _, h => h
  | k + 1, a, s, ha, h => by
    unfold auths
    exact auths_ok k (a + 1) _ (by omega) (lnks_ok (by omega) _ _ _ _ (cnt_le h))
theorem auths_err {l : List UInt8} : ∀ (k a : Nat) (s : Gs), s.e ≠ 0 → auths l k a s = s
  | 0, _, s, _ => rfl
  | k + 1, a, s, he => by
    unfold auths
    have hc : cnt l s = (0, s.at_, s.e) := numS_err l s.at_ he _ _
    rw [hc]
    unfold lnks
    exact auths_err k (a + 1) _ he
theorem parse_ok (l : List UInt8) : (parse l).ok l := auths_ok 5 0 _ (by omega) ⟨Nat.zero_le _, Nat.zero_le _, by simp⟩
/-- A link put behind what is known, whatever Seq it bears: it names the last one. -/
def gLn (S : Bk) (x : Ln) : Ln := ⟨x.au, x.sq, x.ep, lastDg (ofA S x.au), x.bd⟩
def getS : List Ln → Bk → List (List UInt8) → Bk × List (List UInt8)
  | [], S, hs => (S, hs)
  | x :: t, S, hs => getS t (S ++ [(x.au, knL hs (gLn S x))]) (note hs (bytesL (gLn S x)))
theorem getS_snoc : ∀ (L : List Ln) (x : Ln) (S : Bk) (hs : List (List UInt8)), getS (L ++ [x]) S hs = ((getS L S hs).1 ++ [(x.au, knL (getS L S hs).2 (gLn (getS L S hs).1 x))], note (getS L S hs).2 (bytesL (gLn (getS L S hs).1 x)))
  | [], x, S, hs => rfl
  | y :: t, x, S, hs => getS_snoc t x _ _
theorem getS_ofA : ∀ (L : List Ln) (S : Bk) (hs : List (List UInt8)) (a : Int), (ofA (getS L S hs).1 a).length = (ofA S a).length + (L.filter fun x => x.au == a).length
  | [], S, hs, a => rfl
  | x :: t, S, hs, a => by
    unfold getS
    rw [getS_ofA t, ofA_app, ofA_one, List.length_append]
    by_cases h : x.au = a
    · rw [if_pos h, List.filter_cons_of_pos (by simpa using h)]; simp only [List.length_cons, List.length_nil]; omega
    · rw [if_neg h, List.filter_cons_of_neg (by simpa using h)]; simp
theorem getS_hs : ∀ (L : List Ln) (S : Bk) (hs : List (List UInt8)), (getS L S hs).2.length ≤ hs.length + L.length
  | [], S, hs => Nat.le_refl _
  | x :: t, S, hs => by
    have h := getS_hs t (S ++ [(x.au, knL hs (gLn S x))]) (note hs (bytesL (gLn S x)))
    have h2 := note_len hs (bytesL (gLn S x))
    unfold getS
    rw [List.length_cons]
    omega
theorem getS_len : ∀ (L : List Ln) (S : Bk) (hs : List (List UInt8)), (getS L S hs).1.length = S.length + L.length
  | [], S, hs => rfl
  | x :: t, S, hs => by
    have h := getS_len t (S ++ [(x.au, knL hs (gLn S x))]) (note hs (bytesL (gLn S x)))
    rw [List.length_append] at h
    unfold getS
    rw [h, List.length_cons]
    simp only [List.length_cons, List.length_nil]
    omega
/-- Each author's links bear the numbers 1, 2, .. -/
def Seqd (L : List Ln) : Prop := ∀ L1 x L2, L = L1 ++ x :: L2 → x.sq = ((L1.filter fun y => y.au == x.au).length : Int) + 1
theorem Seqd.snoc {L : List Ln} (h : Seqd L) {y : Ln} (hy : y.sq = ((L.filter fun z => z.au == y.au).length : Int) + 1) : Seqd (L ++ [y]) := by
  intro L1 x L2 e
  rcases List.eq_nil_or_concat L2 with rfl | ⟨L3, z, rfl⟩
  · obtain ⟨rfl, e2⟩ := List.append_inj' e rfl
    obtain rfl : y = x := by simpa using e2
    exact hy
  · have e' : L ++ [y] = (L1 ++ x :: L3) ++ [z] := by rw [e]; simp
    obtain ⟨e1, _⟩ := List.append_inj' e' rfl
    exact h L1 x L3 e1
def noneFrom (L : List Ln) (a : Int) : Prop := ∀ b, a ≤ b → (L.filter fun z => z.au == b) = []
theorem lnks_seq {l : List UInt8} {au : Int} : ∀ (k i : Nat) (s : Gs) (last : Nat), Seqd s.L → (s.L.filter fun z => z.au == au).length = i → noneFrom s.L (au + 1) → Seqd (lnks l au k i s last).L ∧ noneFrom (lnks l au k i s last).L (au + 1)
  | 0, _, s, _, h, _, h3 => ⟨h, h3⟩
  | k + 1, i, s, last, h, hi, h3 => by
    unfold lnks
    split
    · have ha : (lnkL l s au i).au = au := rfl
      refine lnks_seq k (i + 1) _ _ (h.snoc (by rw [ha, hi]; rfl)) ?_ ?_
      · simp only [List.filter_append, List.length_append, hi]
        rw [List.filter_cons_of_pos (by simp [ha])]
        rfl
      · intro b hb
        simp only [List.filter_append]
        rw [h3 b hb, List.filter_cons_of_neg (by simp [ha]; omega)]
        rfl
    · exact ⟨h, h3⟩
theorem auths_seq {l : List UInt8} : ∀ (k a : Nat) (s : Gs), Seqd s.L → noneFrom s.L a → Seqd (auths l k a s).L
  | 0, _, s, h, _ => h
  | k + 1, a, s, h, h3 => by
    unfold auths
    have hh := lnks_seq (l := l) (au := (a : Int)) (cnt l s).1 0 ⟨s.L, (cnt l s).2.1, (cnt l s).2.2⟩ 1 h (by rw [h3 a (Int.le_refl _)]; rfl) (fun b hb => h3 b (by omega))
    exact auths_seq k (a + 1) _ hh.1 (fun b hb => hh.2 b (by omega))
theorem parse_seq (l : List UInt8) : Seqd (parse l).L := auths_seq 5 0 _ (fun L1 x L2 e => by simp at e) (fun b _ => rfl)
theorem lastDg_len {S : Bk} (hS : S.ok) (a : Int) : (lastDg (ofA S a)).length = if ofA S a = [] then 0 else 32 := by
  by_cases h : ofA S a = []
  · rw [h]; rfl
  · obtain ⟨k, h1, h2⟩ := last_at h
    rw [if_neg h]
    unfold lastDg
    rw [h2]
    exact (hS.of (List.mem_of_getElem? h1)).dg
theorem getS_kn (L : List Ln) (S : Bk) (hs : List (List UInt8)) (hS : S.ok) (hL : ∀ x ∈ L, (0 ≤ x.au ∧ x.au < 5) ∧ 1 ≤ x.ep ∧ x.ep ≤ 65536 ∧ x.bd.length = 32 ∧ x.pv = []) : (getS L S hs).1.ok := by
  induction L generalizing S hs with
  | nil => exact hS
  | cons x t ih =>
    obtain ⟨h1, h2, h3, h4, _⟩ := hL x (by simp)
    exact ih _ _ (hS.app h1 ⟨digL_len _ _, h4, h2, h3⟩) (fun y hy => hL y (by simp [hy]))
/-- Each link that is put may be. -/
theorem get_right {l : List UInt8} {s : Gs} (h : s.ok l) (hq : Seqd s.L) (hl : l.length ≤ 1000000) (hs : List (List UInt8)) {j : Nat} {x : Ln} (hx : s.L[j]? = some x) : rightL (gLn (getS (s.L.take j) [] hs).1 x) := by
  have hj : j < s.L.length := by rcases Nat.lt_or_ge j s.L.length with h | h; exact h; rw [List.getElem?_eq_none h] at hx; cases hx
  have e : s.L = s.L.take j ++ x :: s.L.drop (j + 1) := by
    have h1 : s.L.drop j = x :: s.L.drop (j + 1) := by rw [List.drop_eq_getElem_cons hj]; rw [List.getElem?_eq_getElem hj] at hx; injection hx with hx; rw [hx]
    rw [← h1, List.take_append_drop]
  have hsq := hq _ _ _ e
  have hn := getS_ofA (s.L.take j) [] hs x.au
  obtain ⟨h1, h2, h3, h4, _⟩ := h.au x (List.mem_of_getElem? hx)
  have hS := getS_kn (s.L.take j) [] hs Bk.ok.nil (fun y hy => h.au y (List.mem_of_mem_take hy))
  have hd := lastDg_len hS x.au
  have hle : ((s.L.take j).filter fun y => y.au == x.au).length ≤ s.L.length := Nat.le_trans (List.length_filter_le _ _) (by rw [List.length_take]; omega)
  have h5 := h.len
  have h6 := h.at_
  have h7 : (ofA ([] : Bk) x.au).length = 0 := rfl
  refine ⟨⟨h1.1, h1.2, ?_, ?_, h2, h3⟩, h4, ?_⟩
  · show 1 ≤ x.sq; omega
  · show x.sq ≤ 1048576; omega
  · show x.sq = 1 ∧ (lastDg (ofA _ x.au)).length = 0 ∨ (lastDg (ofA _ x.au)).length = 32
    by_cases he : ofA (getS (s.L.take j) [] hs).1 x.au = []
    · rw [he] at hn hd
      rw [if_pos rfl] at hd
      left
      rw [he]
      refine ⟨?_, hd⟩
      simp only [List.length_nil] at hn
      omega
    · rw [if_neg he] at hd
      exact Or.inr hd
end Go.Proofs.Ytabcbpcfleociaa

/- The links that are read, in memory. -/
namespace Go.Proofs.Ytabcbpcfleociaa
open Go.RowKit
attribute [local go_sem ↓] Go.wp_at_zero Go.wp_at_succ
set_option linter.unusedSimpArgs false
set_option linter.unusedVariables false
/-- A link's five cells (nothing alink yet). -/
structure Lq where
  au : Int
  sq : Int
  ep : Int
  D : Option Addr
  m : Nat
  c : Nat
def lqC (q : Lq) : List Value := [.int .i64 q.au, .int .i64 q.sq, .int .i64 q.ep, .slice none 0 0, .slice q.D q.m q.c]
structure LqX (no : List Nat) (w : World) (q : Lq) (h : Ln) : Prop where
  au : q.au = h.au
  sq : q.sq = h.sq
  ep : q.ep = h.ep
  bd : RdN no w 1 q.D q.m (h.bd.map B8)
theorem LqX.len {no : List Nat} {w : World} {q : Lq} {h : Ln} (H : LqX no w q h) : q.m = h.bd.length := by have := H.bd.1.len; simpa using this.symm
/-- Links in memory, in none of the blocks 'no'. -/
def LkN (no : List Nat) (w : World) (A : Option Addr) (n : Nat) (Hs : List Ln) : Prop := ∃ Qs : List Lq, Qs.length = n ∧ Hs.length = n ∧ RdN no w 5 A n (Qs.flatMap lqC) ∧ ∀ (i : Nat) (q : Lq) (h : Ln), Qs[i]? = some q → Hs[i]? = some h → LqX no w q h
theorem LqX.fr {no no' own own' : List Nat} {w w' : World} {q : Lq} {x : Ln} (H : LqX no w q x) (hf : Fr own w w' own') (hs : ∀ k, k ∈ own → k ∈ no) (h2 : ∀ k, k ∈ no' → k ∈ no ∨ w.heap.size ≤ k) : LqX no' w' q x :=
  ⟨H.au, H.sq, H.ep, H.bd.fr hf hs h2⟩
theorem LkN.fr {no no' own own' : List Nat} {w w' : World} {n : Nat} {A : Option Addr} {S : List Ln} (H : LkN no w A n S) (hf : Fr own w w' own') (h1 : ∀ k, k ∈ own → k ∈ no) (h2 : ∀ k, k ∈ no' → k ∈ no ∨ w.heap.size ≤ k) : LkN no' w' A n S := by
  obtain ⟨Qs, e1, e2, e3, e4⟩ := H
  exact ⟨Qs, e1, e2, e3.fr hf h1 h2, fun i q x hq hx => (e4 i q x hq hx).fr hf h1 h2⟩
theorem LkN.below {no : List Nat} {w w' : World} {n : Nat} {A : Option Addr} {S : List Ln} (H : LkN no w A n S) (hb : Below w.heap.size w w') : LkN no w' A n S :=
  H.fr (own := []) (Fr.below hb) (fun _ h => absurd h (by simp)) (fun _ h => Or.inl h)
theorem LkN.nil (no : List Nat) (w : World) (A : Option Addr) : LkN no w A 0 [] := ⟨[], rfl, rfl, ⟨Rd.nil _ _ _ _, fun b o h => absurd h (by omega)⟩, fun i q x hi => by simp at hi⟩
theorem LkN.len {no : List Nat} {w : World} {n : Nat} {A : Option Addr} {S : List Ln} (H : LkN no w A n S) : S.length = n := by obtain ⟨_, _, h, _⟩ := H; exact h
theorem LkN.at_ {no : List Nat} {w : World} {n : Nat} {A : Option Addr} {S : List Ln} (H : LkN no w A n S) {i : Nat} {x : Ln} (hx : S[i]? = some x) :
    ∃ b o q, A = some ⟨b, o, none⟩ ∧ b < w.heap.size ∧ b ∉ no ∧ w.rangeAt b (o + i * 5) (lqC q) ∧ LqX no w q x := by
  obtain ⟨Qs, h1, h2, h3, h4⟩ := H
  have hil : i < Qs.length := by
    rcases Nat.lt_or_ge i S.length with h | h
    · omega
    · rw [List.getElem?_eq_none h] at hx; cases hx
  obtain ⟨b, o, e, hb, hr⟩ := h3.1.elem (fun _ _ => rfl) h1 (List.getElem?_eq_getElem hil)
  exact ⟨b, o, _, e, hb, h3.2 b o (by omega) e, hr, h4 i _ x (List.getElem?_eq_getElem hil) hx⟩
theorem infoLk : (Try.prog.info? 40).map (fun i => (i.zero, i.size, i.bytes)) = some (some (.agg #[.int .i64 0, .int .i64 0, .int .i64 0, .slice none 0 0, .slice none 0 0]), 5, 72) := by kernel_rfl
theorem lqC_one (q : Lq) : ∀ u ∈ lqC q, u.oneCell' = true := by
  intro u hu
  simp [lqC] at hu
  rcases hu with rfl | rfl | rfl | rfl | rfl <;> rfl
theorem rowLk (w : World) (q : Lq) (t : TypeId) : Rd (w.alloc (.cells #[.int .i64 q.au, .int .i64 q.sq, .int .i64 q.ep, .slice none 0 0, .slice q.D q.m q.c] t)) (w.heap.size + 1) 5 (some ⟨w.heap.size, 0, none⟩) 1 (lqC q) :=
  ⟨rfl, fun _ => ⟨w.heap.size, 0, rfl, Nat.lt_succ_self _, fun j u hj => rangeNew w (lqC q) t j u hj⟩⟩
/-- A slice of one's own of links. -/
structure OwnK (no : List Nat) (base : Nat) (w : World) (A : Option Addr) (m c : Nat) (Hs : List Ln) (Qs : List Lq) : Prop where
  ql : Qs.length = m
  hl : Hs.length = m
  row : w.ownsRow base 40 5 (.slice A m c) m (Qs.flatMap lqC)
  el : ∀ (j : Nat) (q : Lq) (x : Ln), Qs[j]? = some q → Hs[j]? = some x → LqX ((Value.slice A m c).ownBlock.toList ++ no) w q x
theorem OwnK.nil (no : List Nat) (base : Nat) (w : World) : OwnK no base w none 0 0 [] [] := ⟨rfl, rfl, World.ownsRow_nil _ _ _ _, fun j q x h => by simp at h⟩
theorem OwnK.to {no : List Nat} {base : Nat} {w w' : World} {A : Option Addr} {m c : Nat} {Hs : List Ln} {Qs : List Lq} (h : OwnK no base w A m c Hs Qs) (hb : Below w.heap.size w w') : OwnK no base w' A m c Hs Qs :=
  ⟨h.ql, h.hl, own_to h.row hb, fun j q x h1 h2 => (h.el j q x h1 h2).fr (own := []) (own' := []) (Fr.below hb) (fun _ h => absurd h (by simp)) (fun _ h => Or.inl h)⟩
theorem OwnK.blk {no : List Nat} {base : Nat} {w : World} {A : Option Addr} {m c : Nat} {Hs : List Ln} {Qs : List Lq} (h : OwnK no base w A m c Hs Qs) (hno : ∀ k, k ∈ no → k < w.heap.size) : ∀ k, k ∈ (Value.slice A m c).ownBlock.toList ++ no → k < w.heap.size := fun k hk => by
  rcases List.mem_append.1 hk with h1 | h1
  · rcases h.row.2 with ⟨hv, _⟩ | ⟨g, cap, cur, hv, hb, hg, _⟩
    · rw [hv] at h1; simp [Value.ownBlock] at h1
    · rw [hv] at h1
      simp [Value.ownBlock] at h1
      subst h1
      exact lt_of_blk hg
  · exact hno k h1
/-- What an append onto it of one link leaves. -/
theorem OwnK.snoc {no : List Nat} {base : Nat} {w w' : World} {A A' : Option Addr} {m c c' : Nat} {Hs : List Ln} {Qs : List Lq} (h : OwnK no base w A m c Hs Qs) {q : Lq} {x : Ln} (hq : LqX ((Value.slice A m c).ownBlock.toList ++ no) w q x) (hg : w.grownBy w' (Value.slice A m c).ownBlock)
    (ho : (Value.slice A' (m + 1) c').ownBlock = (Value.slice A m c).ownBlock ∨ (Value.slice A' (m + 1) c').ownBlock = some w.heap.size) (o : w'.ownsRow base 40 5 (.slice A' (m + 1) c') (m + 1) (Qs.flatMap lqC ++ lqC q)) : OwnK no base w' A' (m + 1) c' (Hs ++ [x]) (Qs ++ [q]) := by
  have hf : Fr (Value.slice A m c).ownBlock.toList w w' [] := Fr.grown hg (fun r e => Or.inl (by rw [e]; simp)) (fun k hk => absurd hk (by simp))
  have s1 : ∀ k, k ∈ (Value.slice A m c).ownBlock.toList → k ∈ (Value.slice A m c).ownBlock.toList ++ no := fun k hk => List.mem_append.2 (Or.inl hk)
  have s2 : ∀ k, k ∈ (Value.slice A' (m + 1) c').ownBlock.toList ++ no → k ∈ (Value.slice A m c).ownBlock.toList ++ no ∨ w.heap.size ≤ k := fun k hk => by
    rcases List.mem_append.1 hk with h1 | h1
    · rcases ho with e | e
      · rw [e] at h1; exact Or.inl (List.mem_append.2 (Or.inl h1))
      · rw [e] at h1; simp at h1; exact Or.inr (by omega)
    · exact Or.inl (List.mem_append.2 (Or.inr h1))
  refine ⟨by simp [h.ql], by simp [h.hl], by rw [List.flatMap_append, show [q].flatMap lqC = lqC q by simp]; exact o, fun j q' x' f1 f2 => ?_⟩
  rcases Nat.lt_or_ge j m with hj | hj
  · rw [List.getElem?_append_left (by rw [h.ql]; exact hj)] at f1
    rw [List.getElem?_append_left (by rw [h.hl]; exact hj)] at f2
    exact (h.el j q' x' f1 f2).fr hf s1 s2
  · rw [List.getElem?_append_right (by rw [h.ql]; exact hj)] at f1
    rw [List.getElem?_append_right (by rw [h.hl]; exact hj)] at f2
    rcases hz : j - m with _ | z
    · rw [h.ql, hz] at f1
      rw [h.hl, hz] at f2
      simp at f1 f2
      subst f1 f2
      exact hq.fr hf s1 s2
    · rw [h.ql, hz] at f1
      simp at f1
theorem OwnK.lkN {no : List Nat} {base : Nat} {w : World} {A : Option Addr} {m c : Nat} {Hs : List Ln} {Qs : List Lq} (h : OwnK no base w A m c Hs Qs) (hno : ∀ k, k ∈ no → k < base) : LkN no w A m Hs := by
  refine ⟨Qs, h.ql, h.hl, ⟨Rd.of_own h.row, fun b o h0 e hm => ?_⟩, fun i q x h1 h2 => (h.el i q x h1 h2).fr (own := []) (own' := []) (Fr.below (Below.refl _ _)) (fun _ h => absurd h (by simp)) (fun k hk => Or.inl (List.mem_append.2 (Or.inr hk)))⟩
  obtain ⟨g', e', h3, _⟩ := own_addr h.row h0
  rw [e] at e'; injection e' with e'; injection e' with e5
  have := hno b hm
  omega
end Go.Proofs.Ytabcbpcfleociaa

/- The program's Get: the links read, then put into a new book. -/
namespace Go.Proofs.Ytabcbpcfleociaa
open Go.RowKit
attribute [local go_sem ↓] Go.wp_at_zero Go.wp_at_succ
set_option linter.unusedSimpArgs false
set_option linter.unusedVariables false
theorem own_fr {w w' : World} {base e size n c : Nat} {A : Option Addr} {xs : List Value} {own own' : List Nat} (h : w.ownsRow base e size (.slice A n c) n xs) (hf : Fr own w w' own') (hb : ∀ k, k ∈ own → k < base) : w'.ownsRow base e size (.slice A n c) n xs := by
  rcases h with ⟨e1, e2 | ⟨t, cap, cur, e2, e3, e4, e5⟩⟩
  · exact ⟨e1, .inl e2⟩
  · exact ⟨e1, .inr ⟨t, cap, cur, e2, e3, (hf.block t (lt_of_blk e4) (fun hm => absurd (hb t hm) (Nat.not_lt.2 e3))).trans e4, e5⟩⟩
theorem Fr.tail {own : List Nat} {w z v : World} (h : Fr own w z own) (hb : Below w.heap.size z v) : Fr own w v own :=
  ⟨hb.os.trans h.os, hb.tape.trans h.tape, hb.output.trans h.output, Nat.le_trans h.size hb.size, fun k hk hn => (hb.block k hk).trans (h.block k hk hn), h.sub⟩
theorem OwnK.keep {no : List Nat} {base : Nat} {w w' : World} {A : Option Addr} {m c : Nat} {Hs : List Ln} {Qs : List Lq} {own own' : List Nat} (h : OwnK no base w A m c Hs Qs) (hf : Fr own w w' own') (hs : ∀ k, k ∈ own → k ∈ no) (hb : ∀ k, k ∈ own → k < base) : OwnK no base w' A m c Hs Qs :=
  ⟨h.ql, h.hl, own_fr h.row hf hb, fun j q x h1 h2 => (h.el j q x h1 h2).fr hf (fun k hk => List.mem_append.2 (Or.inr (hs k hk))) (fun _ h => Or.inl h)⟩
/-- A link that ends the reading. -/
theorem get_err {l : List UInt8} {k a a' i : Nat} {au : Int} {s : Gs} {last : Nat} {p : Gs} (h : auths l k a' (lnks l au (i + 1) a s last) = p) (hf : lnkF l s last ≠ 0) : p = ⟨s.L, (lnkN l s).2.1, lnkF l s last⟩ := by
  unfold lnks at h
  rw [if_neg hf, auths_err _ _ _ (by exact hf)] at h
  exact h.symm
theorem get_go {l : List UInt8} {k a a' i : Nat} {au : Int} {s : Gs} {last : Nat} {p : Gs} (h : auths l k a' (lnks l au (i + 1) a s last) = p) (hf : lnkF l s last = 0) : auths l k a' (lnks l au i (a + 1) ⟨s.L ++ [lnkL l s au a], (lnkN l s).2.1, 0⟩ (lnkN l s).1) = p := by
  unfold lnks at h
  rw [if_pos hf] at h
  exact h
theorem field_dg (a b : Value) (A : Option Addr) (m c : Nat) (w : World) : (Instr.field 45 (.agg #[a, b, .slice A m c]) 2).run Try.prog w = .ok (.slice A m c) w := by kernel_rfl
/-- A reader's place and error. -/
def RS (w : World) (g : Nat) (l : List UInt8) (at_ : Nat) (e : Int) : Prop := ∃ A c, Rdr w g A l.length c at_ e ∧ at_ ≤ l.length
theorem RR.rs {w : World} {B g : Nat} {l : List UInt8} {at_ : Nat} {e : Int} (h : RR w B g l at_ e) : RS w g l at_ e := by
  have h1 := h.le
  obtain ⟨A, n, c, h2, hr, _⟩ := h
  obtain rfl : l.length = n := by simpa using hr.len
  exact ⟨A, c, h2, h1⟩
theorem RS.block {w w' : World} {g : Nat} {l : List UInt8} {at_ : Nat} {e : Int} (h : RS w g l at_ e) (hb : w'.heap[g]? = w.heap[g]?) : RS w' g l at_ e := by
  obtain ⟨A, c, h2, h1⟩ := h
  refine ⟨A, c, ?_, h1⟩
  unfold Rdr at h2 ⊢
  rw [hb]
  exact h2
/-- What Get gives of bytes that are a book. -/
def GetOk (gi g : Nat) (l : List UInt8) (hs : List (List UInt8)) (oi Ri : List Nat) (w : World) (e : Ending) (w' : World) : Prop :=
  ∃ gb ob oi', e = .returned (.pointer (some ⟨gb, 0, none⟩)) ∧ (∀ k, k ∈ ob → w.heap.size ≤ k) ∧ (∀ k, k ∈ oi' → k ∈ oi ∨ w.heap.size ≤ k) ∧ (∀ k, k ∈ oi' → k ∉ ob) ∧ BookAt w' gb (getS (parse l).L [] hs).1 ob (oi' ++ Ri) ∧ IdealAt w' gi (getS (parse l).L [] hs).2 oi' (ob ++ Ri) ∧ Fr (g :: oi) w w' (g :: oi')
set_option maxRecDepth 8000 in
set_option maxHeartbeats 4000000 in
theorem get_ (gi : Nat) (hs : List (List UInt8)) (oi Ri : List Nat) (B g : Nat) (l : List UInt8) (no : List Nat) (w : World) (hI : IdealAt w gi hs oi Ri) (hoi : ∀ k, k ∈ oi → k ∈ no) (hgi : g ∉ oi) (hgR : g ∈ Ri) (hRi : ∀ k, k ∈ Ri → k < w.heap.size) (hhs : hs.length ≤ 500000) (hR : RR w B g l 0 0) (hB : B = w.heap.size) (hno : ∀ k, k ∈ no → k < w.heap.size) (hgn : g ∈ no) (hl : l.length ≤ 500000) :
    Calls Try.prog 46 #[.iface 27 (.pointer (some ⟨gi, 0, none⟩)), .pointer (some ⟨g, 0, none⟩)] w fun e w' => RS w' g l (parse l).at_ (parse l).e ∧ ((parse l).e ≠ 0 ∧ e = .returned (.pointer none) ∧ Fr [g] w w' [g] ∨ (parse l).e = 0 ∧ GetOk gi g l hs oi Ri w e w') := by
  have HI := Lib.hid hI
  have HOI := Lib.hid hoi
  have HGI := Lib.hid hgi
  have HGR := Lib.hid hgR
  have HRI := Lib.hid hRi
  have HHS := Lib.hid hhs
  clear hI hoi hgi hgR hRi hhs
  have HR := Lib.hid hR
  have HNO := Lib.hid hno
  have HGN := Lib.hid hgn
  have HBs := Lib.hid hB
  have hgw : Hid (g < w.heap.size) := hR.lt
  have hl0 := Lib.hid hl
  clear hR hno hgn hB hl
  go_enter Try.func46, Try.ntmps46
  go_wp2_with fail
  go_loopw [5, 13] (fun x5 x13 wr => ∃ (a m : Nat) (A : Option Addr) (c : Nat) (s : Gs), x5 = .slice A m c ∧ x13 = .int .i64 a ∧ a ≤ 5 ∧ Hid (Fr [g] w wr [g]) ∧ Hid (RR wr B g l s.at_ s.e) ∧ Hid (∃ Qs, OwnK no w.heap.size wr A m c s.L Qs) ∧ Hid (s.ok l) ∧ Hid (auths l (5 - a) a s = parse l)) (fun _ x13 _ => 5 - (intOf x13).toNat)
  case atStart => exact ⟨0, 0, none, 0, ⟨[], 0, 0⟩, rfl, rfl, by omega, Fr.refl _ _, HR.out, ⟨[], OwnK.nil _ _ _⟩, ⟨Nat.zero_le _, Nat.zero_le _, by simp⟩, rfl⟩
  case round =>
    obtain ⟨a, m, A, c, s, rfl, rfl, ha, hF, hRR, hQ, hok, hpa⟩ := hrel
    obtain ⟨wo, hwo⟩ : ∃ wo, wo = wr := ⟨wr, rfl⟩
    subst hwo
    by_cases h5 : a < 5
    · have h5' : (a : Int) < 5 := by omega
      have e8 : IntKind.i64.wrap ((a : Int) + 1) = ((a + 1 : Nat) : Int) := by rw [IntWalk.i64_in _ (by omega)]; omega
      go_wp2_with fail
      refine (numberR_ B g l s.at_ s.e 0 1048576 wo hRR.out).mono ?_
      rintro r w1 ⟨rfl, r1, f1⟩
      change RR w1 B g l (cnt l s).2.1 (cnt l s).2.2 at r1
      obtain ⟨C, hC⟩ : ∃ C, Hid (C = (cnt l s).1) := ⟨_, Lib.hid rfl⟩
      rw [show (numS l s.at_ s.e 0 1048576).1 = C from hC.out.symm]
      have R1 := Lib.hid r1
      have F1 : Hid (Fr [g] w w1 [g]) := hF.out.trans f1
      have Q1 : Hid (∃ Qs, OwnK no w.heap.size w1 A m c s.L Qs) := by
        obtain ⟨Qs, hq⟩ := hQ.out
        exact ⟨Qs, hq.keep f1 (fun k hk => by simp at hk; exact hk ▸ HGN.out) (fun k hk => by simp at hk; exact hk ▸ hgw.out)⟩
      have hpa1 : Hid (auths l (5 - (a + 1)) (a + 1) (lnks l (a : Int) C 0 ⟨s.L, (cnt l s).2.1, (cnt l s).2.2⟩ 1) = parse l) := by
        have h1 := hpa.out
        rw [show 5 - a = (5 - (a + 1)) + 1 by omega] at h1
        rw [hC.out]
        exact h1
      have hok1 : Hid ((Gs.mk s.L (cnt l s).2.1 (cnt l s).2.2).ok l) := cnt_le hok.out
      have hCb : C ≤ 1048576 := by
        rw [hC.out]
        by_cases h0 : (cnt l s).2.2 = 0
        · have h1 := (numS_good (l := l) (at_ := s.at_) (e := s.e) (lo := 0) (hi := 1048576) hok.out.at_ h0).2.2.1
          unfold cnt; omega
        · have h1 := (numS_le (l := l) (at_ := s.at_) s.e 0 1048576 hok.out.at_).2.2 h0
          unfold cnt; omega
      have hCb' : Hid (C ≤ 1048576) := hCb
      clear hpa hok hC r1 f1
      go_wp2_with fail
      go_loopw [5, 7, 18] (fun x5 x7 x18 wr => ∃ (i m : Nat) (A : Option Addr) (c : Nat) (s : Gs) (last : Nat), x5 = .slice A m c ∧ x7 = .int .i64 last ∧ x18 = .int .i64 i ∧ i ≤ C ∧ 1 ≤ last ∧ last ≤ 65536 ∧ Hid (Fr [g] w wr [g]) ∧ Hid (RR wr B g l s.at_ s.e) ∧ Hid (∃ Qs, OwnK no w.heap.size wr A m c s.L Qs) ∧ Hid (s.ok l) ∧ Hid (auths l (5 - (a + 1)) (a + 1) (lnks l (a : Int) (C - i) i s last) = parse l)) (fun _ _ x18 _ => C - (intOf x18).toNat)
      case atStart => exact ⟨0, m, A, c, ⟨s.L, (cnt l s).2.1, (cnt l s).2.2⟩, 1, rfl, rfl, rfl, by omega, by omega, by omega, F1.out, R1.out, Q1.out, hok1.out, hpa1.out⟩
      case round =>
        clear hF hRR hQ Q1 hok1 hpa1 R1 F1
        obtain ⟨i, m, A, c, s, last, rfl, rfl, rfl, hi, hl1, hl2, hF, hRR, hQ, hok, hpa⟩ := hrel
        by_cases hiC : i < C
        · have hiC' : (i : Int) < C := by omega
          have e9 : IntKind.i64.wrap ((i : Int) + 1) = ((i + 1 : Nat) : Int) := by rw [IntWalk.i64_in _ (by omega)]; omega
          have hpa2 : Hid (auths l (5 - (a + 1)) (a + 1) (lnks l (a : Int) (C - (i + 1) + 1) i s last) = parse l) := by
            have h1 := hpa.out
            rw [show C - i = (C - (i + 1)) + 1 by omega] at h1
            exact h1
          clear hpa
          go_wp2_with fail
          have hbk : Hid (∀ k, k ∈ (Value.slice A m c).ownBlock.toList ++ no → k < wr.heap.size) := by
            obtain ⟨Qs, hq⟩ := hQ.out
            exact hq.blk (fun k hk => Nat.lt_of_lt_of_le (HNO.out k hk) hF.out.size)
          refine (textR_ B g l s.at_ s.e 32 ((Value.slice A m c).ownBlock.toList ++ no) wr hRR.out (by decide) hbk.out).mono ?_
          rintro r w2 ⟨A2, m2, c2, rfl, l2, t2, r2, f2⟩
          change (lnkT l s).1.length = m2 at l2
          change RdN _ w2 1 A2 m2 ((lnkT l s).1.map B8) at t2
          change RR w2 B g l (lnkT l s).2.1 (lnkT l s).2.2 at r2
          have L2 := Lib.hid l2
          have T2 := Lib.hid t2
          have R2 := Lib.hid r2
          have F2 := Lib.hid f2
          clear l2 t2 r2 f2
          obtain ⟨GB, hGB⟩ : ∃ k, Hid (k = w2.heap.size) := ⟨_, Lib.hid rfl⟩
          obtain ⟨V, hV⟩ : ∃ V, Hid (V = w2.alloc (.cells #[.int .i64 a, .int .i64 ((i : Int) + 1), .int .i64 0, .slice none 0 0, .slice A2 m2 c2] 40)) := ⟨_, Lib.hid rfl⟩
          have BV : Hid (Below w2.heap.size w2 V) := by rw [hV.out]; exact (Below.refl _ _).alloc (Nat.le_refl _) _
          have RV : Hid (V.heap[GB]? = some (.cells #[.int .i64 a, .int .i64 ((i : Int) + 1), .int .i64 0, .slice none 0 0, .slice A2 m2 c2] 40 (0, 0))) := by unfold Hid; rw [hV.out, hGB.out]; exact heap_alloc_new _ _
          by_cases h32 : m2 = 32
          · subst h32
            have hE : Hid ((lnkT l s).2.2 = lnkE l s) := by unfold lnkE Hid; rw [if_pos L2.out]
            have R2V : Hid (RR V B g l (lnkT l s).2.1 (lnkE l s)) := by rw [← hE.out]; exact R2.out.below BV.out
            go_wp2_with fail
            rw [← hV.out, ← hGB.out]
            refine (numberR_ B g l (lnkT l s).2.1 (lnkE l s) 1 65536 V R2V.out).mono ?_
            rintro r w4 ⟨rfl, r4, f4⟩
            change RR w4 B g l (lnkN l s).2.1 (lnkN l s).2.2 at r4
            obtain ⟨N, hN⟩ : ∃ N, Hid (N = (lnkN l s).1) := ⟨_, Lib.hid rfl⟩
            rw [show (numS l (lnkT l s).2.1 (lnkE l s) 1 65536).1 = N from hN.out.symm]
            have RV4 : Hid (w4.heap[GB]? = some (.cells #[.int .i64 a, .int .i64 ((i : Int) + 1), .int .i64 0, .slice none 0 0, .slice A2 32 c2] 40 (0, 0))) := (f4.block GB (lt_of_blk RV.out) (fun hm => by simp at hm; have h1 := hGB.out; have h2 := R2.out.lt; omega)).trans RV.out
            have F4 : Hid (Fr [g] w w4 [g]) := ((hF.out.trans F2.out).trans (Fr.below BV.out)).trans f4
            have hBG : Hid (B ≤ GB) := by have h1 := hGB.out; have h2 := HBs.out; have h3 := F2.out.size; have h4 := hF.out.size; unfold Hid; omega
            obtain ⟨Y, hY⟩ : ∃ Y, Hid (Y = w4.setCell ⟨GB, 2, none⟩ (.int .i64 N)) := ⟨_, Lib.hid rfl⟩
            have FY0 : Hid (Fr [GB] w4 Y [GB]) := by rw [hY.out]; exact setCell_fr _ _ _ _
            have RY : Hid (Y.heap[GB]? = some (.cells #[.int .i64 a, .int .i64 ((i : Int) + 1), .int .i64 N, .slice none 0 0, .slice A2 32 c2] 40 (0, 0))) := by unfold Hid; rw [hY.out]; exact heap_set RV4.out _
            have R4 : Hid (RR Y B g l (lnkN l s).2.1 (lnkN l s).2.2) := r4.keep FY0.out (fun k hk => by simp at hk; exact hk ▸ hBG.out)
            have F2Y : Hid (Fr [g] w2 Y [g]) := by
              have g1 : Fr [g] w2 w4 [g] := (Fr.below BV.out).trans f4
              have h1 := hGB.out
              refine ⟨FY0.out.os.trans g1.os, FY0.out.tape.trans g1.tape, FY0.out.output.trans g1.output, Nat.le_trans g1.size FY0.out.size, fun k hk hn => ?_, g1.sub⟩
              rw [FY0.out.block k (Nat.lt_of_lt_of_le hk g1.size) (fun hm => by simp at hm; omega)]
              exact g1.block k hk hn
            have FrY : Hid (Fr [g] wr Y [g]) := F2.out.trans F2Y.out
            have FY : Hid (Fr [g] w Y [g]) := hF.out.trans FrY.out
            have hgs : Hid (∀ k, k ∈ [g] → k ∈ no) := fun k hk => by simp at hk; exact hk ▸ HGN.out
            have QY : Hid (∃ Qs, OwnK no w.heap.size Y A m c s.L Qs) := by
              obtain ⟨Qs, hq⟩ := hQ.out
              exact ⟨Qs, hq.keep FrY.out hgs.out (fun k hk => by simp at hk; exact hk ▸ hgw.out)⟩
            have TY : Hid (RdN ((Value.slice A m c).ownBlock.toList ++ no) Y 1 A2 32 ((lnkT l s).1.map B8)) := T2.out.fr F2Y.out (fun k hk => List.mem_append.2 (Or.inr (hgs.out k hk))) (fun _ h => Or.inl h)
            have hGY : Hid (GB < Y.heap.size) := lt_of_blk RY.out
            have hGo : Hid (∀ k, k ∈ (Value.slice A m c).ownBlock.toList → k ≠ GB) := fun k hk e => by
              have h1 := hbk.out k (List.mem_append.2 (Or.inl hk)); have h2 := hGB.out; have h3 := F2.out.size; omega
            clear r4 f4 RV
            have k2 := cell_blk RV4.out 2 rfl
            have z2 := frozen_blk RV4.out 2
            have k0 := cell_blk RY.out 0 rfl
            by_cases hlt : N < last
            · have hF0 : Hid (lnkF l s last = failS (lnkN l s).2.2 5) := by unfold lnkF Hid; rw [← hN.out]; exact if_pos hlt
              have hFe : Hid (lnkF l s last ≠ 0) := by
                rw [hF0.out]; unfold failS; split
                · exact (by decide : (5 : Int) ≠ 0)
                · assumption
              have hlt' : (N : Int) < last := by omega
              go_wp2_with fail
              rw [← hY.out]
              refine (failR_ B g l (lnkN l s).2.1 (lnkN l s).2.2 5 Y R4.out).mono ?_
              rintro r w5 ⟨rfl, r5, f5⟩
              rw [← hF0.out] at r5
              have R5 := Lib.hid r5
              have F5 := Lib.hid (FY.out.trans f5)
              clear r5 f5
              go_wp2_with fail
              refine (errR_ B g l (lnkN l s).2.1 (lnkF l s last) w5 R5.out).mono ?_
              rintro r w6 ⟨rfl, rfl⟩
              have hb0 : (lnkF l s last != 0) = true := by simpa using hFe.out
              go_wp2_with fail
              go_ret
              have hp := get_err hpa2.out hFe.out
              rw [hp]
              exact ⟨R5.out.rs, .inl ⟨hFe.out, rfl, F5.out⟩⟩
            · have hF0 : Hid (lnkF l s last = (lnkN l s).2.2) := by unfold lnkF Hid; rw [← hN.out]; exact if_neg hlt
              have hlt' : ¬ (N : Int) < last := by omega
              go_wp2_with fail
              rw [← hY.out]
              refine (errR_ B g l (lnkN l s).2.1 (lnkN l s).2.2 Y R4.out).mono ?_
              rintro r w6 ⟨rfl, rfl⟩
              by_cases hFe : lnkF l s last = 0
              · rw [← hF0.out, hFe]
                have hE0 := Lib.hid hFe
                clear hFe
                have y1 := cell_blk RY.out 1 rfl
                have y2 := cell_blk RY.out 2 rfl
                have y3 := cell_blk RY.out 3 rfl
                have y4 := cell_blk RY.out 4 rfl
                have hm : m ≤ 500000 := by
                  obtain ⟨Qs, hq⟩ := QY.out
                  have h1 := hq.hl; have h2 := hok.out.len; have h3 := hok.out.at_; have h4 := hl0.out
                  omega
                have BZ : Hid (Below Y.heap.size Y (Y.alloc (.cells #[.int .i64 a, .int .i64 ((i : Int) + 1), .int .i64 N, .slice none 0 0, .slice A2 32 c2] 40))) := (Below.refl _ _).alloc (Nat.le_refl _) _
                go_wp2_with (at_builtin
                             obtain ⟨Qs, hq⟩ := QY.out
                             have RH := rowLk Y ⟨a, (i : Int) + 1, N, A2, 32, c2⟩ 40
                             have hq' := hq.to BZ.out
                             refine wpList_app rfl (.tmp 45) (.tmp 47) 134 rfl w.heap.size 40 5 72 _ Try.underlying134 infoLk rfl (by decide) (.slice A m c) m _ rfl hq'.row _ (some ⟨Y.heap.size, 0, none⟩) 1 1 (lqC ⟨a, (i : Int) + 1, N, A2, 32, c2⟩) rfl RH (lqC_one _) (by simp only [maxLen]; omega) (by omega) (Nat.le_trans FY.out.size BZ.out.size) ?_
                             intro A6 c6 w6 o6 g6 k6
                             have F6 : Hid (Fr [g] w w6 [g]) := (FY.out.trans (Fr.below BZ.out)).tail (below_grown g6 (own_block_ge2 hq'.row) (Nat.le_trans FY.out.size BZ.out.size))
                             have R6 : Hid (RR w6 B g l (lnkN l s).2.1 0) := by
                               have h1 := R4.out.below BZ.out
                               rw [← hF0.out, hE0.out] at h1
                               refine h1.keep (Fr.grown (own := (Value.slice A m c).ownBlock.toList) (own' := []) g6 (fun r e => Or.inl (by rw [e]; simp)) (fun k hk => absurd hk (by simp))) (fun k hk => ?_)
                               have h2 := own_block_ge2 hq'.row k (by simpa using hk)
                               have h3 := HBs.out
                               omega
                             have Q6 : Hid (∃ Qs, OwnK no w.heap.size w6 A6 (m + 1) c6 (s.L ++ [lnkL l s a i]) Qs) :=
                               ⟨_, hq'.snoc (q := ⟨a, (i : Int) + 1, N, A2, 32, c2⟩) ⟨rfl, rfl, by show (N : Int) = ((lnkN l s).1 : Nat); rw [hN.out], TY.out.fr (own := []) (own' := []) (Fr.below BZ.out) (fun _ h => absurd h (by simp)) (fun _ h => Or.inl h)⟩ g6 k6 o6⟩
                             have x2 : w6.cell? ⟨GB, 2, none⟩ = some (.int .i64 N) := cell_blk ((g6.block GB (Nat.lt_of_lt_of_le hGY.out BZ.out.size) (fun e => hGo.out GB (by rw [← e]; simp) rfl)).trans ((BZ.out.block GB hGY.out).trans RY.out)) 2 rfl
                             clear o6 g6 k6 hq' hq RH)
                have hgd := lnkF_good hok.out.at_ hE0.out
                rw [← hN.out] at hgd
                obtain ⟨_, _, _, _, hN1, hN2, _, _, _⟩ := hgd
                go_roundw
                case rel => exact ⟨i + 1, m + 1, A6, c6, ⟨s.L ++ [lnkL l s a i], (lnkN l s).2.1, 0⟩, N, rfl, rfl, by go_num, by omega, by omega, by omega, F6, R6, Q6, hok.out.step hE0.out (by omega) i, by have h1 := get_go hpa2.out hE0.out; rw [← hN.out] at h1; exact h1⟩
                case measure => simp only [intOf]; omega
              · have hb0 : ((lnkN l s).2.2 != 0) = true := by rw [← hF0.out]; simpa using hFe
                have hE0 := Lib.hid hFe
                clear hFe
                go_wp2_with fail
                go_ret
                have hp := get_err hpa2.out hE0.out
                rw [hp]
                refine ⟨?_, .inl ⟨hE0.out, rfl, FY.out⟩⟩
                show RS Y g l (lnkN l s).2.1 (lnkF l s last)
                rw [hF0.out]
                exact R4.out.rs
          · have h32' : ((m2 : Int) != 32) = true := by simp; omega
            go_wp2_with fail
            rw [← hV.out, ← hGB.out]
            refine (failR_ B g l (lnkT l s).2.1 (lnkT l s).2.2 5 V (R2.out.below BV.out)).mono ?_
            rintro r w3 ⟨rfl, r3, f3⟩
            rw [show failS (lnkT l s).2.2 5 = lnkE l s by unfold lnkE; rw [if_neg (by rw [L2.out]; exact h32)]] at r3
            have R3 := Lib.hid r3
            have hne : Hid (lnkE l s ≠ 0) := by
              unfold lnkE; rw [if_neg (by rw [L2.out]; exact h32)]
              unfold failS; split
              · exact (by decide : (5 : Int) ≠ 0)
              · assumption
            have hN : Hid (lnkN l s = (0, (lnkT l s).2.1, lnkE l s)) := numS_err _ _ hne.out _ _
            have RV3 : Hid (w3.heap[GB]? = some (.cells #[.int .i64 a, .int .i64 ((i : Int) + 1), .int .i64 0, .slice none 0 0, .slice A2 m2 c2] 40 (0, 0))) := (f3.block GB (lt_of_blk RV.out) (fun hm => by simp at hm; have h1 := hGB.out; have h2 := R2.out.lt; omega)).trans RV.out
            have F3 := Lib.hid f3
            clear r3 f3
            go_wp2_with fail
            refine (numberR_ B g l (lnkT l s).2.1 (lnkE l s) 1 65536 w3 R3.out).mono ?_
            rintro r w4 ⟨rfl, r4, f4⟩
            change RR w4 B g l (lnkN l s).2.1 (lnkN l s).2.2 at r4
            rw [show (numS l (lnkT l s).2.1 (lnkE l s) 1 65536).1 = 0 by have h1 := hN.out; unfold lnkN at h1; rw [h1]]
            have R4 := Lib.hid r4
            have RV4 : Hid (w4.heap[GB]? = some (.cells #[.int .i64 a, .int .i64 ((i : Int) + 1), .int .i64 0, .slice none 0 0, .slice A2 m2 c2] 40 (0, 0))) := (f4.block GB (lt_of_blk RV3.out) (fun hm => by simp at hm; have h1 := hGB.out; have h2 := R2.out.lt; omega)).trans RV3.out
            have F4 : Hid (Fr [g] V w4 [g]) := F3.out.trans f4
            clear r4 f4
            have k2 := cell_blk RV4.out 2 rfl
            have z2 := frozen_blk RV4.out 2
            go_wp2_with fail
            have hF0 : Hid (lnkF l s last = failS (lnkN l s).2.2 5) := by unfold lnkF Hid; rw [hN.out]; exact if_pos hl1
            have hFe : Hid (lnkF l s last ≠ 0) := by
              rw [hF0.out]; unfold failS; split
              · exact (by decide : (5 : Int) ≠ 0)
              · assumption
            have hBG : Hid (B ≤ GB) := by have h1 := hGB.out; have h2 := HBs.out; have h3 := F2.out.size; have h4 := hF.out.size; unfold Hid; omega
            refine (failR_ B g l (lnkN l s).2.1 (lnkN l s).2.2 5 _ (R4.out.keep (setCell_fr w4 GB 2 (.int .i64 0)) (fun k hk => by simp at hk; exact hk ▸ hBG.out))).mono ?_
            rintro r w5 ⟨rfl, r5, f5⟩
            rw [← hF0.out] at r5
            have R5 := Lib.hid r5
            have F5 := Lib.hid f5
            clear r5 f5
            go_wp2_with fail
            refine (errR_ B g l (lnkN l s).2.1 (lnkF l s last) w5 R5.out).mono ?_
            rintro r w6 ⟨rfl, rfl⟩
            have hb0 : (lnkF l s last != 0) = true := by simpa using hFe.out
            go_wp2_with fail
            go_ret
            have hp := get_err hpa2.out hFe.out
            rw [hp]
            refine ⟨R5.out.rs, .inl ⟨hFe.out, rfl, ?_⟩⟩
            have g1 : Fr [g] w w4 [g] := ((hF.out.trans F2.out).trans (Fr.below BV.out)).trans F4.out
            have g2 : Fr [g] w (w4.setCell ⟨GB, 2, none⟩ (.int .i64 0)) [g] := by
              have h1 := hGB.out; have h3 := F2.out.size; have h4 := hF.out.size
              refine ⟨g1.os, g1.tape, g1.output, Nat.le_trans g1.size (setCell_fr w4 GB 2 (.int .i64 0)).size, fun k hk hn => ?_, g1.sub⟩
              rw [(setCell_fr w4 GB 2 (.int .i64 0)).block k (Nat.lt_of_lt_of_le hk g1.size) (fun hm => by simp at hm; omega)]
              exact g1.block k hk hn
            exact g2.trans F5.out
        · have hiC' : ¬ (i : Int) < C := by omega
          have hCi : Hid (C - i = 0) := (by omega : C - i = 0)
          go_wp2_with fail
          go_roundw
          case rel => exact ⟨a + 1, m, A, c, s, rfl, by go_num, by omega, hF.out, hRR.out, hQ.out, hok.out, by have h1 := hpa.out; rw [hCi.out] at h1; exact h1⟩
          case measure => simp only [intOf]; omega
    · have h5' : ¬ (a : Int) < 5 := by omega
      have hsp : Hid (s = parse l) := by
        have h1 := hpa.out
        rw [show 5 - a = 0 by omega] at h1
        exact h1
      clear hpa
      go_wp2_with fail
      refine (errR_ B g l s.at_ s.e wo hRR.out).mono ?_
      rintro r w6 ⟨rfl, rfl⟩
      by_cases hFe : s.e = 0
      · rw [hFe]
        have hE0 := Lib.hid hFe
        clear hFe
        go_wp2_with fail
        refine (new_ wo).mono ?_
        rintro e u ⟨gb, ob, rfl, k1, h1, b1⟩
        have K1 := Lib.hid k1
        have H1 := Lib.hid h1
        have B1 := Lib.hid b1
        clear k1 h1 b1
        have FU : Hid (Fr [g] w u [g]) := hF.out.trans (Fr.below B1.out)
        have I1 : Hid (IdealAt u gi hs oi (ob ++ Ri)) := HI.out.keep FU.out (fun k hk => by simp at hk; exact hk ▸ HGR.out) (fun k hk => by simp at hk; exact hk ▸ HGI.out) (fun k hk => by
          rcases List.mem_append.1 hk with h | h
          · exact Or.inr (Nat.le_trans hF.out.size (H1.out k h))
          · exact Or.inl h)
        have K2 : Hid (BookAt u gb [] ob (oi ++ Ri)) := K1.out.anyR _
        have LU : Hid (LkN (ob ++ oi) u A m s.L) := by
          obtain ⟨Qs, hq⟩ := hQ.out
          refine (hq.lkN HNO.out).fr (own := []) (own' := []) (Fr.below B1.out) (fun _ h => absurd h (by simp)) (fun k hk => ?_)
          rcases List.mem_append.1 hk with h | h
          · exact Or.inr (H1.out k h)
          · exact Or.inl (HOI.out k h)
        have FU2 : Hid (Fr (g :: oi) w u (g :: oi)) := ⟨FU.out.os, FU.out.tape, FU.out.output, FU.out.size, fun k hk hn => FU.out.block k hk (fun hm => hn (by simp at hm; simp [hm])), fun k hk => Or.inl hk⟩
        have RU : Hid (RS u g l s.at_ s.e) := (hRR.out.below B1.out).rs
        have DJ : Hid (∀ k, k ∈ oi → k ∉ ob) := fun k hk hm => by
          have h1 := HNO.out k (HOI.out k hk); have h2 := H1.out k hm; have h3 := hF.out.size; omega
        have hlen : Hid (s.L.length = m) := LU.out.len
        have hm5 : m ≤ 500000 := by have h2 := hok.out.len; have h3 := hok.out.at_; have h4 := hl0.out; have h5 := hlen.out; omega
        have hou : Hid (∀ k, k ∈ ob → k < u.heap.size) := K2.out.lt
        have hseq : Hid (Seqd s.L) := by rw [hsp.out]; exact parse_seq l
        clear K1
        go_wp2_with fail
        go_loopw [59] (fun x59 wr => ∃ (j : Nat) (oi2 : List Nat), x59 = .int .i64 j ∧ j ≤ m ∧ Hid (BookAt wr gb (getS (s.L.take j) [] hs).1 ob (oi2 ++ Ri)) ∧ Hid (IdealAt wr gi (getS (s.L.take j) [] hs).2 oi2 (ob ++ Ri)) ∧ Hid (∀ k, k ∈ oi2 → k ∈ oi ∨ w.heap.size ≤ k) ∧ Hid (∀ k, k ∈ oi2 → k ∉ ob) ∧ Hid (LkN (ob ++ oi2) wr A m s.L) ∧ Hid (Fr (g :: oi) w wr (g :: oi2)) ∧ Hid (RS wr g l s.at_ s.e)) (fun x59 _ => m - (intOf x59).toNat)
        case atStart => exact ⟨0, oi, rfl, by omega, K2.out, I1.out, fun k hk => Or.inl hk, DJ.out, LU.out, FU2.out, RU.out⟩
        case round =>
          clear K2 I1 LU FU2 RU DJ
          obtain ⟨wt, hwt⟩ : ∃ wt, wt = wr := ⟨wr, rfl⟩
          subst hwt
          obtain ⟨j, oi2, rfl, hj, hB, hI2, hs2, hdj, hL, hF2, hRS⟩ := hrel
          by_cases hjm : j < m
          · have hjm' : (j : Int) < m := by omega
            have e9 : IntKind.i64.wrap ((j : Int) + 1) = ((j + 1 : Nat) : Int) := by rw [IntWalk.i64_in _ (by omega)]; omega
            obtain ⟨x, hx⟩ : ∃ x, Hid (s.L[j]? = some x) := ⟨_, List.getElem?_eq_getElem (by have := hlen.out; omega)⟩
            obtain ⟨b, o, q, eA, hbl, hbn, hr, hq⟩ := hL.out.at_ hx.out
            obtain ⟨qa, qs, qe, D, qc, qd⟩ := q
            obtain rfl : qa = x.au := hq.au
            obtain rfl : qs = x.sq := hq.sq
            obtain rfl : qe = x.ep := hq.ep
            have hxo := hok.out.au x (List.mem_of_getElem? hx.out)
            obtain ⟨⟨ha0, ha5⟩, _, _, hb32, hpv⟩ := hxo
            obtain rfl : qc = 32 := by have h1 := hq.len; simp only at h1; omega
            have TB : Hid (RdN (ob ++ oi2) wt 1 D 32 (x.bd.map B8)) := hq.bd
            have HX : Hid (rightL (gLn (getS (s.L.take j) [] hs).1 x)) := get_right hok.out hseq.out (by have := hl0.out; omega) hs hx.out
            subst eA
            have y0 : wt.cell? ⟨b, o + j * 5, none⟩ = some (.int .i64 x.au) := hr 0 _ rfl
            have y1 : wt.cell? ⟨b, o + j * 5 + 1, none⟩ = some (.int .i64 x.sq) := hr 1 _ rfl
            have y2 : wt.cell? ⟨b, o + j * 5 + 2, none⟩ = some (.int .i64 x.ep) := hr 2 _ rfl
            have y3 : wt.cell? ⟨b, o + j * 5 + 3, none⟩ = some (.slice none 0 0) := hr 3 _ rfl
            have y4 : wt.cell? ⟨b, o + j * 5 + 4, none⟩ = some (.slice D 32 qd) := hr 4 _ rfl
            obtain ⟨GB, hGB⟩ : ∃ k, Hid (k = wt.heap.size) := ⟨_, Lib.hid rfl⟩
            obtain ⟨V, hV⟩ : ∃ V, Hid (V = wt.alloc (.cells #[.int .i64 x.au, .int .i64 x.sq, .int .i64 x.ep, .slice none 0 0, .slice D 32 qd] 40)) := ⟨_, Lib.hid rfl⟩
            have BV : Hid (Below wt.heap.size wt V) := by rw [hV.out]; exact (Below.refl _ _).alloc (Nat.le_refl _) _
            have RV : Hid (V.heap[GB]? = some (.cells #[.int .i64 x.au, .int .i64 x.sq, .int .i64 x.ep, .slice none 0 0, .slice D 32 qd] 40 (0, 0))) := by unfold Hid; rw [hV.out, hGB.out]; exact heap_alloc_new _ _
            obtain ⟨S, hS⟩ : ∃ S, Hid (S = (getS (s.L.take j) [] hs).1) := ⟨_, Lib.hid rfl⟩
            obtain ⟨h2, hh2⟩ : ∃ S, Hid (S = (getS (s.L.take j) [] hs).2) := ⟨_, Lib.hid rfl⟩
            rw [← hS.out] at hB HX
            rw [← hh2.out] at hI2
            go_wp2_with fail
            rw [← hV.out, ← hGB.out]
            refine (head_in gb S ob (oi2 ++ Ri) x.au V (hB.out.below BV.out) ha0 ha5).mono ?_
            rintro e w2 ⟨D2, dm, dc, rfl, hdl, od, b2⟩
            have OD := Lib.hid od
            have RV2 : Hid (w2.heap[GB]? = some (.cells #[.int .i64 x.au, .int .i64 x.sq, .int .i64 x.ep, .slice none 0 0, .slice D 32 qd] 40 (0, 0))) := (b2.block GB (lt_of_blk RV.out)).trans RV.out
            have B2 : Hid (Below wt.heap.size wt w2) := BV.out.trans (b2.mono BV.out.size)
            obtain ⟨Y, hY⟩ : ∃ Y, Hid (Y = w2.setCell ⟨GB, 3, none⟩ (.slice D2 dm dc)) := ⟨_, Lib.hid rfl⟩
            have FY0 : Hid (Fr [GB] w2 Y [GB]) := by rw [hY.out]; exact setCell_fr _ _ _ _
            have RY : Hid (Y.heap[GB]? = some (.cells #[.int .i64 x.au, .int .i64 x.sq, .int .i64 x.ep, .slice D2 dm dc, .slice D 32 qd] 40 (0, 0))) := by unfold Hid; rw [hY.out]; exact heap_set RV2.out _
            have BY : Hid (Below wt.heap.size wt Y) := B2.out.trans (FY0.out.toBelow (fun k hk => by simp at hk; have h1 := hGB.out; omega) B2.out.size)
            have hGV : Hid (GB < V.heap.size) := lt_of_blk RV.out
            clear od b2 RV
            have k3 := cell_blk RV2.out 3 rfl
            have z3 := frozen_blk RV2.out 3
            have c0 := cell_blk RY.out 0 rfl
            have c1 := cell_blk RY.out 1 rfl
            have c2 := cell_blk RY.out 2 rfl
            have c3 := cell_blk RY.out 3 rfl
            have c4 := cell_blk RY.out 4 rfl
            rw [hY.out] at c0 c1 c2 c3 c4
            have fd := field_dg (.int .i64 x.au) (.int .i64 (ofA S x.au).length) D2 dm dc w2
            go_wp2_with fail
            rw [← hY.out]
            have e3 : (getS (s.L.take (j + 1)) [] hs) = (S ++ [(x.au, knL h2 (gLn S x))], note h2 (bytesL (gLn S x))) := by
              rw [List.take_add_one, hx.out, hS.out, hh2.out]; exact getS_snoc _ _ _ _
            have hhl : h2.length ≤ 1000000 := by
              have h3 := getS_hs (s.L.take j) [] hs; rw [← hh2.out] at h3
              have h4 := HHS.out; have h5 : (s.L.take j).length ≤ m := by rw [List.length_take]; omega
              omega
            have hSl : S.length < 1048576 := by
              have h3 := getS_len (s.L.take j) [] hs; rw [← hS.out] at h3
              have h5 : (s.L.take j).length ≤ m := by rw [List.length_take]; omega
              simp only [List.length_nil] at h3
              omega
            have hlt2 : ∀ k, k ∈ oi2 → k < wt.heap.size := note_lt hI2.out
            have hRl : ∀ k, k ∈ Ri → k < Y.heap.size := fun k hk => Nat.lt_of_lt_of_le (HRI.out k hk) (Nat.le_trans hF2.out.size BY.out.size)
            have hob2 : ∀ k, k ∈ ob → k < Y.heap.size := fun k hk => Nat.lt_of_lt_of_le (hB.out.lt k hk) BY.out.size
            refine (put_ gb S ob (oi2 ++ Ri) gi h2 oi2 (ob ++ Ri) (gLn S x) D2 dm dc D 32 qd Y (hB.out.below BY.out) (hI2.out.below BY.out) ?_ ?_ (fun k hk => List.mem_append.2 (Or.inl hk)) (fun k hk => List.mem_append.2 (Or.inl hk)) hdj.out hhl hSl ?_ ?_ HX.out).mono ?_
            · refine (OD.out.rdNo (no := GB :: oi2) (fun k hk => ?_)).fr FY0.out (fun k hk => by simp at hk; simp [hk]) (fun k hk => Or.inl (List.mem_cons_of_mem _ hk))
              rcases List.mem_cons.1 hk with h | h
              · exact h ▸ hGV.out
              · exact Nat.lt_of_lt_of_le (hlt2 k h) BV.out.size
            · exact (TB.out.less (fun k hk => Or.inl (List.mem_append.2 (Or.inr hk)))).fr (own := []) (own' := []) (Fr.below BY.out) (fun _ h => absurd h (by simp)) (fun _ h => Or.inl h)
            · intro k hk
              rcases List.mem_append.1 hk with h | h
              · exact hob2 k h
              · exact hRl k h
            · intro k hk
              rcases List.mem_append.1 hk with h | h
              · exact Nat.lt_of_lt_of_le (hlt2 k h) BY.out.size
              · exact hRl k h
            · rintro e v ⟨oi3, rfl, i3, k3', f3, s3⟩
              have hs3 : Hid (∀ k, k ∈ oi3 → k ∈ oi2 ∨ wt.heap.size ≤ k) := fun k hk => (s3 k hk).imp id (Nat.le_trans BY.out.size)
              have I3 := Lib.hid i3
              have F3 : Hid (Fr (ob ++ oi2) wt v (ob ++ oi3)) := (Fr.below BY.out).trans f3
              have K3 : Hid (BookAt v gb (S ++ [(x.au, knL h2 (gLn S x))]) ob (oi3 ++ Ri)) := k3'.keep (own2 := []) (own2' := []) (Fr.below (Below.refl _ _)) (fun _ h => absurd h (by simp)) (fun _ h => absurd h (by simp)) (fun k hk => Or.inl (by
                rcases List.mem_append.1 hk with h | h
                · exact List.mem_append.2 (Or.inr h)
                · exact List.mem_append.2 (Or.inl (List.mem_append.2 (Or.inr h)))))
              have L3 : Hid (LkN (ob ++ oi3) v (some ⟨b, o, none⟩) m s.L) := hL.out.fr F3.out (fun _ h => h) (fun k hk => by
                rcases List.mem_append.1 hk with h | h
                · exact Or.inl (List.mem_append.2 (Or.inl h))
                · exact (hs3.out k h).imp (fun h => List.mem_append.2 (Or.inr h)) id)
              have hs4 : Hid (∀ k, k ∈ oi3 → k ∈ oi ∨ w.heap.size ≤ k) := fun k hk => by
                rcases hs3.out k hk with h | h
                · exact hs2.out k h
                · exact Or.inr (Nat.le_trans hF2.out.size h)
              have hdj3 : Hid (∀ k, k ∈ oi3 → k ∉ ob) := fun k hk hm => by
                rcases hs3.out k hk with h | h
                · exact hdj.out k h hm
                · have h4 := hB.out.lt k hm; omega
              have hgo : Hid (g ∉ ob ++ oi2) := fun hm => by
                rcases List.mem_append.1 hm with h | h
                · have h3 := H1.out g h; have h4 := hF.out.size; have h5 := hgw.out; omega
                · rcases hs2.out g h with h3 | h3
                  · exact HGI.out h3
                  · have h5 := hgw.out; omega
              have R3 : Hid (RS v g l s.at_ s.e) := hRS.out.block (F3.out.block g (Nat.lt_of_lt_of_le hgw.out hF2.out.size) hgo.out)
              have F4 : Hid (Fr (g :: oi) w v (g :: oi3)) := by
                refine ⟨F3.out.os.trans hF2.out.os, F3.out.tape.trans hF2.out.tape, F3.out.output.trans hF2.out.output, Nat.le_trans hF2.out.size F3.out.size, fun k hk hn => ?_, fun k hk => ?_⟩
                · rw [F3.out.block k (Nat.lt_of_lt_of_le hk hF2.out.size) (fun hm => ?_)]
                  · exact hF2.out.block k hk hn
                  · rcases List.mem_append.1 hm with h | h
                    · have h3 := H1.out k h; have h4 := hF.out.size; omega
                    · rcases hs2.out k h with h3 | h3
                      · exact hn (List.mem_cons_of_mem _ h3)
                      · omega
                · rcases List.mem_cons.1 hk with h | h
                  · exact Or.inl (by simp [h])
                  · exact (hs4.out k h).imp (List.mem_cons_of_mem _) id
              clear i3 k3' f3 s3 c0 c1 c2 c3 c4 fd k3 z3 y0 y1 y2 y3 y4
              go_wp2_with fail
              go_roundw
              case rel => exact ⟨j + 1, oi3, by go_num, by omega, by rw [e3]; exact K3.out, by rw [e3]; exact I3.out, hs4.out, hdj3.out, L3.out, F4.out, R3.out⟩
              case measure => simp only [intOf]; omega
          · have hjm' : ¬ (j : Int) < m := by omega
            go_wp2_with fail
            go_ret
            have e1 : s.L.take j = (parse l).L := by rw [← hsp.out]; exact List.take_of_length_le (by have := hlen.out; omega)
            rw [e1] at hB hI2
            rw [← hsp.out]
            rw [← hsp.out] at hB hI2
            refine ⟨hRS.out, .inr ⟨hE0.out, gb, ob, oi2, rfl, fun k hk => Nat.le_trans hF.out.size (H1.out k hk), hs2.out, hdj.out, ?_, ?_, hF2.out⟩⟩
            · rw [← hsp.out]; exact hB.out
            · rw [← hsp.out]; exact hI2.out
      · have hb0 : (s.e != 0) = true := by simpa using hFe
        have hE0 := Lib.hid hFe
        clear hFe
        go_wp2_with fail
        go_ret
        rw [← hsp.out]
        exact ⟨hRR.out.rs, .inl ⟨hE0.out, rfl, hF.out⟩⟩
end Go.Proofs.Ytabcbpcfleociaa
