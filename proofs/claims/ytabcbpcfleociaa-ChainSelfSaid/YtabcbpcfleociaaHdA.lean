/- Heads: plain, and in memory; a book's Vector. -/
import Derived.Test.YtabcbpcfleociaaChL
import Derived.Test.YtabcbpcfleociaaVaC
namespace Go.Proofs.Ytabcbpcfleociaa
open Go.RowKit
attribute [local go_sem ↓] Go.wp_at_zero Go.wp_at_succ
set_option linter.unusedSimpArgs false
set_option linter.unusedVariables false
/-- A head. -/
structure Hd where
  au : Int
  sq : Int
  dg : List UInt8
def headL (S : Bk) (a : Int) : Hd := ⟨a, (ofA S a).length, lastDg (ofA S a)⟩
/-- The heads of the first i authors of whom links are known. -/
def vecP (S : Bk) : Nat → List Hd
  | 0 => []
  | i + 1 => if ofA S i = [] then vecP S i else vecP S i ++ [headL S i]
def vecL (S : Bk) : List Hd := vecP S 5
theorem vecP_len (S : Bk) : ∀ i, (vecP S i).length ≤ i
  | 0 => Nat.le_refl _
  | i + 1 => by
    have := vecP_len S i
    unfold vecP
    split
    · omega
    · simp; omega
/-- A head's three cells. -/
structure Hq where
  au : Int
  sq : Int
  D : Option Addr
  m : Nat
  c : Nat
def hqC (q : Hq) : List Value := [.int .i64 q.au, .int .i64 q.sq, .slice q.D q.m q.c]
structure HqX (no : List Nat) (w : World) (q : Hq) (h : Hd) : Prop where
  au : q.au = h.au
  sq : q.sq = h.sq
  dg : RdN no w 1 q.D q.m (h.dg.map B8)
theorem HqX.len {no : List Nat} {w : World} {q : Hq} {h : Hd} (H : HqX no w q h) : q.m = h.dg.length := by have := H.dg.1.len; simpa using this.symm
/-- Heads in memory, in none of the blocks 'no'. -/
def HdN (no : List Nat) (w : World) (A : Option Addr) (n : Nat) (Hs : List Hd) : Prop := ∃ Qs : List Hq, Qs.length = n ∧ Hs.length = n ∧ RdN no w 3 A n (Qs.flatMap hqC) ∧ ∀ (i : Nat) (q : Hq) (h : Hd), Qs[i]? = some q → Hs[i]? = some h → HqX no w q h
theorem HqX.fr {no no' own own' : List Nat} {w w' : World} {q : Hq} {x : Hd} (H : HqX no w q x) (hf : Fr own w w' own') (hs : ∀ k, k ∈ own → k ∈ no) (h2 : ∀ k, k ∈ no' → k ∈ no ∨ w.heap.size ≤ k) : HqX no' w' q x :=
  ⟨H.au, H.sq, H.dg.fr hf hs h2⟩
theorem HdN.fr {no no' own own' : List Nat} {w w' : World} {n : Nat} {A : Option Addr} {S : List Hd} (H : HdN no w A n S) (hf : Fr own w w' own') (h1 : ∀ k, k ∈ own → k ∈ no) (h2 : ∀ k, k ∈ no' → k ∈ no ∨ w.heap.size ≤ k) : HdN no' w' A n S := by
  obtain ⟨Qs, e1, e2, e3, e4⟩ := H
  exact ⟨Qs, e1, e2, e3.fr hf h1 h2, fun i q x hq hx => (e4 i q x hq hx).fr hf h1 h2⟩
theorem HdN.below {no : List Nat} {w w' : World} {n : Nat} {A : Option Addr} {S : List Hd} (H : HdN no w A n S) (hb : Below w.heap.size w w') : HdN no w' A n S :=
  H.fr (own := []) (Fr.below hb) (fun _ h => absurd h (by simp)) (fun _ h => Or.inl h)
theorem HdN.nil (no : List Nat) (w : World) (A : Option Addr) : HdN no w A 0 [] := ⟨[], rfl, rfl, ⟨Rd.nil _ _ _ _, fun b o h => absurd h (by omega)⟩, fun i q x hi => by simp at hi⟩
theorem HdN.len {no : List Nat} {w : World} {n : Nat} {A : Option Addr} {S : List Hd} (H : HdN no w A n S) : S.length = n := by obtain ⟨_, _, h, _⟩ := H; exact h
theorem HdN.at_ {no : List Nat} {w : World} {n : Nat} {A : Option Addr} {S : List Hd} (H : HdN no w A n S) {i : Nat} {x : Hd} (hx : S[i]? = some x) :
    ∃ b o q, A = some ⟨b, o, none⟩ ∧ b < w.heap.size ∧ b ∉ no ∧ w.rangeAt b (o + i * 3) (hqC q) ∧ HqX no w q x := by
  obtain ⟨Qs, h1, h2, h3, h4⟩ := H
  have hil : i < Qs.length := by
    rcases Nat.lt_or_ge i S.length with h | h
    · omega
    · rw [List.getElem?_eq_none h] at hx; cases hx
  obtain ⟨b, o, e, hb, hr⟩ := h3.1.elem (fun _ _ => rfl) h1 (List.getElem?_eq_getElem hil)
  exact ⟨b, o, _, e, hb, h3.2 b o (by omega) e, hr, h4 i _ x (List.getElem?_eq_getElem hil) hx⟩
theorem infoH : (Try.prog.info? 45).map (fun i => (i.zero, i.size, i.bytes)) = some (some (.agg #[.int .i64 0, .int .i64 0, .slice none 0 0]), 3, 40) := by kernel_rfl
theorem hqC_one (q : Hq) : ∀ u ∈ hqC q, u.oneCell' = true := by
  intro u hu
  simp [hqC] at hu
  rcases hu with rfl | rfl | rfl <;> rfl
theorem rowH (w : World) (q : Hq) (t : TypeId) : Rd (w.alloc (.cells #[.int .i64 q.au, .int .i64 q.sq, .slice q.D q.m q.c] t)) (w.heap.size + 1) 3 (some ⟨w.heap.size, 0, none⟩) 1 (hqC q) :=
  ⟨rfl, fun _ => ⟨w.heap.size, 0, rfl, Nat.lt_succ_self _, fun j u hj => rangeNew w (hqC q) t j u hj⟩⟩
/-- A slice of one's own of heads. -/
structure OwnH (no : List Nat) (base : Nat) (w : World) (A : Option Addr) (m c : Nat) (Hs : List Hd) (Qs : List Hq) : Prop where
  ql : Qs.length = m
  hl : Hs.length = m
  row : w.ownsRow base 45 3 (.slice A m c) m (Qs.flatMap hqC)
  el : ∀ (j : Nat) (q : Hq) (x : Hd), Qs[j]? = some q → Hs[j]? = some x → HqX ((Value.slice A m c).ownBlock.toList ++ no) w q x
theorem OwnH.nil (no : List Nat) (base : Nat) (w : World) : OwnH no base w none 0 0 [] [] := ⟨rfl, rfl, World.ownsRow_nil _ _ _ _, fun j q x h => by simp at h⟩
theorem OwnH.to {no : List Nat} {base : Nat} {w w' : World} {A : Option Addr} {m c : Nat} {Hs : List Hd} {Qs : List Hq} (h : OwnH no base w A m c Hs Qs) (hb : Below w.heap.size w w') : OwnH no base w' A m c Hs Qs :=
  ⟨h.ql, h.hl, own_to h.row hb, fun j q x h1 h2 => (h.el j q x h1 h2).fr (own := []) (own' := []) (Fr.below hb) (fun _ h => absurd h (by simp)) (fun _ h => Or.inl h)⟩
theorem OwnH.blk {no : List Nat} {base : Nat} {w : World} {A : Option Addr} {m c : Nat} {Hs : List Hd} {Qs : List Hq} (h : OwnH no base w A m c Hs Qs) (hno : ∀ k, k ∈ no → k < w.heap.size) : ∀ k, k ∈ (Value.slice A m c).ownBlock.toList ++ no → k < w.heap.size := fun k hk => by
  rcases List.mem_append.1 hk with h1 | h1
  · rcases h.row.2 with ⟨hv, _⟩ | ⟨g, cap, cur, hv, hb, hg, _⟩
    · rw [hv] at h1; simp [Value.ownBlock] at h1
    · rw [hv] at h1
      simp [Value.ownBlock] at h1
      subst h1
      exact lt_of_blk hg
  · exact hno k h1
/-- What an append onto it of one head leaves. -/
theorem OwnH.snoc {no : List Nat} {base : Nat} {w w' : World} {A A' : Option Addr} {m c c' : Nat} {Hs : List Hd} {Qs : List Hq} (h : OwnH no base w A m c Hs Qs) {q : Hq} {x : Hd} (hq : HqX ((Value.slice A m c).ownBlock.toList ++ no) w q x) (hg : w.grownBy w' (Value.slice A m c).ownBlock)
    (ho : (Value.slice A' (m + 1) c').ownBlock = (Value.slice A m c).ownBlock ∨ (Value.slice A' (m + 1) c').ownBlock = some w.heap.size) (o : w'.ownsRow base 45 3 (.slice A' (m + 1) c') (m + 1) (Qs.flatMap hqC ++ hqC q)) : OwnH no base w' A' (m + 1) c' (Hs ++ [x]) (Qs ++ [q]) := by
  have hf : Fr (Value.slice A m c).ownBlock.toList w w' [] := Fr.grown hg (fun r e => Or.inl (by rw [e]; simp)) (fun k hk => absurd hk (by simp))
  have s1 : ∀ k, k ∈ (Value.slice A m c).ownBlock.toList → k ∈ (Value.slice A m c).ownBlock.toList ++ no := fun k hk => List.mem_append.2 (Or.inl hk)
  have s2 : ∀ k, k ∈ (Value.slice A' (m + 1) c').ownBlock.toList ++ no → k ∈ (Value.slice A m c).ownBlock.toList ++ no ∨ w.heap.size ≤ k := fun k hk => by
    rcases List.mem_append.1 hk with h1 | h1
    · rcases ho with e | e
      · rw [e] at h1; exact Or.inl (List.mem_append.2 (Or.inl h1))
      · rw [e] at h1; simp at h1; exact Or.inr (by omega)
    · exact Or.inl (List.mem_append.2 (Or.inr h1))
  refine ⟨by simp [h.ql], by simp [h.hl], by rw [List.flatMap_append, show [q].flatMap hqC = hqC q by simp]; exact o, fun j q' x' f1 f2 => ?_⟩
  rcases Nat.lt_or_ge j m with hj | hj
  · rw [List.getElem?_append_left (by rw [h.ql]; exact hj)] at f1
    rw [List.getElem?_append_left (by rw [h.hl]; exact hj)] at f2
    exact (h.el j q' x' f1 f2).fr hf s1 s2
  · rw [List.getElem?_append_right (by rw [h.ql]; exact hj)] at f1
    rw [List.getElem?_append_right (by rw [h.hl]; exact hj)] at f2
    rcases hz : j - m with _ | z
    · rw [h.ql, hz] at f1
      rw [h.hl, hz] at f2
      simp at f1 f2
      subst f1 f2
      exact hq.fr hf s1 s2
    · rw [h.ql, hz] at f1
      simp at f1
theorem OwnH.hdN {no : List Nat} {base : Nat} {w : World} {A : Option Addr} {m c : Nat} {Hs : List Hd} {Qs : List Hq} (h : OwnH no base w A m c Hs Qs) (hno : ∀ k, k ∈ no → k < base) : HdN no w A m Hs := by
  refine ⟨Qs, h.ql, h.hl, ⟨Rd.of_own h.row, fun b o h0 e hm => ?_⟩, fun i q x h1 h2 => (h.el i q x h1 h2).fr (own := []) (own' := []) (Fr.below (Below.refl _ _)) (fun _ h => absurd h (by simp)) (fun k hk => Or.inl (List.mem_append.2 (Or.inr hk)))⟩
  obtain ⟨g', e', h3, _⟩ := own_addr h.row h0
  rw [e] at e'; injection e' with e'; injection e' with e5
  have := hno b hm
  omega
set_option maxRecDepth 4000 in
set_option maxHeartbeats 2000000 in
theorem vector_ (g : Nat) (S : Bk) (own R : List Nat) (no : List Nat) (w : World) (hB : BookAt w g S own R) (hno : ∀ k, k ∈ no → k < w.heap.size) :
    Calls Try.prog 36 #[.pointer (some ⟨g, 0, none⟩)] w fun e w' => ∃ A n c, e = .returned (.slice A n c) ∧ n ≤ c ∧ HdN no w' A n (vecL S) ∧ Below w.heap.size w w' := by
  have HB := Lib.hid hB
  have HNO := Lib.hid hno
  clear hB hno
  go_enter Try.func36, Try.ntmps36
  go_wp2_with fail
  go_loopw [3, 6] (fun x3 x6 wr => ∃ (i m : Nat) (A : Option Addr) (c : Nat), x3 = .slice A m c ∧ x6 = .int .i64 i ∧ i ≤ 5 ∧ m ≤ i ∧ Hid (Below w.heap.size w wr) ∧ Hid (∃ Qs, OwnH no w.heap.size wr A m c (vecP S i) Qs)) (fun _ x6 _ => 5 - (intOf x6).toNat)
  case atStart => exact ⟨0, 0, none, 0, rfl, rfl, by omega, by omega, Below.refl _ _, [], OwnH.nil _ _ _⟩
  case round =>
    obtain ⟨i, m, A, c, rfl, rfl, hi, hmi, hb, hQ⟩ := hrel
    by_cases h5 : i < 5
    · have h5' : (i : Int) < 5 := by omega
      have e8 : IntKind.i64.wrap ((i : Int) + 1) = ((i + 1 : Nat) : Int) := by rw [IntWalk.i64_in _ (by omega)]; omega
      go_wp2_with fail
      refine (head_in g S own R i wr (HB.out.below hb.out) (by omega) h5').mono ?_
      rintro e w1 ⟨D, dm, dc, rfl, hdl, od, b1⟩
      have OD := Lib.hid od
      have B1 := Lib.hid b1
      clear od b1
      by_cases hz : ofA S i = []
      · have hvs : vecP S (i + 1) = vecP S i := by show (if _ then _ else _) = _; rw [if_pos hz]
        have hL0 : (ofA S i).length = 0 := by rw [hz]; rfl
        rw [hL0]
        have B2 := Lib.hid ((hb.out.trans (B1.out.mono hb.out.size)).alloc (Nat.le_trans hb.out.size B1.out.size) (.cells #[.int .i64 i, .int .i64 0, .slice D dm dc] 45))
        have hQ2 : Hid (∃ Qs, OwnH no w.heap.size (w1.alloc (.cells #[.int .i64 i, .int .i64 0, .slice D dm dc] 45)) A m c (vecP S (i + 1)) Qs) := by
          obtain ⟨Qs, hq⟩ := hQ.out
          rw [hvs]
          exact ⟨Qs, hq.to (B1.out.alloc B1.out.size _)⟩
        go_wp2_with fail
        go_roundw
        case rel => exact ⟨i + 1, m, A, c, rfl, by go_num, h5, by omega, B2, hQ2⟩
        case measure => simp only [intOf]; omega
      · have hvs : vecP S (i + 1) = vecP S i ++ [headL S i] := by show (if _ then _ else _) = _; rw [if_neg hz]
        obtain ⟨L, hL⟩ : ∃ L, Hid ((ofA S i).length = L) := ⟨_, Lib.hid rfl⟩
        have hL0 : (0 : Int) < (L : Int) := by have h1 := hL.out; have h2 := List.length_pos_iff.2 hz; omega
        rw [hL.out]
        clear hz
        obtain ⟨U, hU⟩ : ∃ U, Hid (U = w1.alloc (.cells #[.int .i64 i, .int .i64 L, .slice D dm dc] 45)) := ⟨_, Lib.hid rfl⟩
        have BU : Hid (Below wr.heap.size wr U) := by rw [hU.out]; exact B1.out.alloc B1.out.size _
        go_wp2_with (at_builtin
                     obtain ⟨Qs, hq⟩ := hQ.out
                     have BV : Hid (Below wr.heap.size wr (U.alloc (.cells #[.int .i64 i, .int .i64 L, .slice D dm dc] 45))) := BU.out.alloc BU.out.size _
                     have hq' := hq.to BV.out
                     rw [hU.out] at hq' BV
                     have RH := rowH (w1.alloc (.cells #[.int .i64 i, .int .i64 L, .slice D dm dc] 45)) ⟨i, L, D, dm, dc⟩ 45
                     rw [szAlloc] at RH
                     refine wpList_app rfl (.tmp 15) (.tmp 17) 71 rfl w.heap.size 45 3 40 _ Try.underlying71 infoH rfl (by decide) (.slice A m c) m _ rfl hq'.row _ (some ⟨w1.heap.size + 1, 0, none⟩) 1 1 (hqC ⟨i, L, D, dm, dc⟩) rfl RH (hqC_one _) (by simp only [maxLen]; omega) (by omega) (Nat.le_trans hb.out.size BV.out.size) ?_
                     intro A6 c6 w6 o6 g6 k6
                     have B6 : Hid (Below w.heap.size w w6) := (hb.out.trans (BV.out.mono hb.out.size)).trans (below_grown g6 (own_block_ge2 hq'.row) (Nat.le_trans hb.out.size BV.out.size))
                     have Q6 : Hid (∃ Qs, OwnH no w.heap.size w6 A6 (m + 1) c6 (vecP S (i + 1)) Qs) := by
                       rw [hvs]
                       refine ⟨_, hq'.snoc (q := ⟨i, L, D, dm, dc⟩) ⟨rfl, by show (L : Int) = ((ofA S i).length : Nat); rw [hL.out], ?_⟩ g6 k6 o6⟩
                       exact (OD.out.rdNo (fun k hk => hq.blk (fun k hk => Nat.lt_of_lt_of_le (HNO.out k hk) hb.out.size) k hk)).fr (own := []) (own' := []) (Fr.below (((Below.refl _ _).alloc (Nat.le_refl _) _).alloc (by rw [szAlloc]; omega) _)) (fun _ h => absurd h (by simp)) (fun _ h => Or.inl h)
                     clear o6 g6 k6 hq' hq BV)
        go_roundw
        case rel => exact ⟨i + 1, m + 1, A6, c6, rfl, by go_num, h5, by omega, B6, Q6⟩
        case measure => simp only [intOf]; omega
    · have hiS : Hid (i = 5) := (by omega : i = 5)
      have h5' : ¬ (i : Int) < 5 := by omega
      go_wp2_with fail
      go_ret
      obtain ⟨Qs, hq⟩ := hQ.out
      rw [hiS.out] at hq
      exact ⟨A, m, c, rfl, own_cap hq.row, hq.hdN HNO.out, hb.out⟩
end Go.Proofs.Ytabcbpcfleociaa
