/- Heads: plain, and in memory; a book's Vector. -/
import Derived.Test.YtabcbpcfleociaaMChk
import Derived.Test.YtabcbpcfleociaaMVak
import Derived.Test.YtabcbpcfleociaaMRbC
namespace Go.Proofs.Ytabcbpcfleociaa
open Go.RowKit
attribute [local go_sem ↓] Go.wp_at_zero Go.wp_at_succ
set_option linter.unusedSimpArgs false
set_option linter.unusedVariables false
/-- A head. -/
structure Hd where
  au : Int
  sq : Int
  dg : List UInt8
def headL (S : Bk) (a : Int) : Hd := ⟨a, (ofA S a).length, lastDg (ofA S a)⟩
/-- The heads of the first i authors of whom links are known. -/
def vecP (S : Bk) : Nat → List Hd
  | 0 => []
  | i + 1 => if ofA S i = [] then vecP S i else vecP S i ++ [headL S i]
def vecL (S : Bk) : List Hd := vecP S 5
theorem vecP_len (S : Bk) : ∀ i, (vecP S i).length ≤ i
  | 0 => Nat.le_refl _
  | i + 1 => by
    have := vecP_len S i
    unfold vecP
    split
    · omega
    · simp; omega
/-- A head's three cells. -/
structure Hq where
  au : Int
  sq : Int
  D : Option Addr
  m : Nat
  c : Nat
def hqC (q : Hq) : List Value := [.int .i64 q.au, .int .i64 q.sq, .slice q.D q.m q.c]
structure HqX (no : List Nat) (w : World) (q : Hq) (h : Hd) : Prop where
  au : q.au = h.au
  sq : q.sq = h.sq
  dg : RdN no w 1 q.D q.m (h.dg.map B8)
theorem HqX.len {no : List Nat} {w : World} {q : Hq} {h : Hd} (H : HqX no w q h) : q.m = h.dg.length := by have := H.dg.1.len; simpa using this.symm
/-- Heads in memory, in none of the blocks 'no'. -/
def HdN (no : List Nat) (w : World) (A : Option Addr) (n : Nat) (Hs : List Hd) : Prop := ∃ Qs : List Hq, Qs.length = n ∧ Hs.length = n ∧ RdN no w 3 A n (Qs.flatMap hqC) ∧ ∀ (i : Nat) (q : Hq) (h : Hd), Qs[i]? = some q → Hs[i]? = some h → HqX no w q h
theorem HqX.fr {no no' own own' : List Nat} {w w' : World} {q : Hq} {x : Hd} (H : HqX no w q x) (hf : Fr own w w' own') (hs : ∀ k, k ∈ own → k ∈ no) (h2 : ∀ k, k ∈ no' → k ∈ no ∨ w.heap.size ≤ k) : HqX no' w' q x :=
  ⟨H.au, H.sq, H.dg.fr hf hs h2⟩
theorem HdN.fr {no no' own own' : List Nat} {w w' : World} {n : Nat} {A : Option Addr} {S : List Hd} (H : HdN no w A n S) (hf : Fr own w w' own') (h1 : ∀ k, k ∈ own → k ∈ no) (h2 : ∀ k, k ∈ no' → k ∈ no ∨ w.heap.size ≤ k) : HdN no' w' A n S := by
  obtain ⟨Qs, e1, e2, e3, e4⟩ := H
  exact ⟨Qs, e1, e2, e3.fr hf h1 h2, fun i q x hq hx => (e4 i q x hq hx).fr hf h1 h2⟩
theorem HdN.below {no : List Nat} {w w' : World} {n : Nat} {A : Option Addr} {S : List Hd} (H : HdN no w A n S) (hb : Below w.heap.size w w') : HdN no w' A n S :=
  H.fr (own := []) (Fr.below hb) (fun _ h => absurd h (by simp)) (fun _ h => Or.inl h)
theorem HdN.nil (no : List Nat) (w : World) (A : Option Addr) : HdN no w A 0 [] := ⟨[], rfl, rfl, ⟨Rd.nil _ _ _ _, fun b o h => absurd h (by omega)⟩, fun i q x hi => by simp at hi⟩
theorem HdN.len {no : List Nat} {w : World} {n : Nat} {A : Option Addr} {S : List Hd} (H : HdN no w A n S) : S.length = n := by obtain ⟨_, _, h, _⟩ := H; exact h
theorem HdN.at_ {no : List Nat} {w : World} {n : Nat} {A : Option Addr} {S : List Hd} (H : HdN no w A n S) {i : Nat} {x : Hd} (hx : S[i]? = some x) :
    ∃ b o q, A = some ⟨b, o, none⟩ ∧ b < w.heap.size ∧ b ∉ no ∧ w.rangeAt b (o + i * 3) (hqC q) ∧ HqX no w q x := by
  obtain ⟨Qs, h1, h2, h3, h4⟩ := H
  have hil : i < Qs.length := by
    rcases Nat.lt_or_ge i S.length with h | h
    · omega
    · rw [List.getElem?_eq_none h] at hx; cases hx
  obtain ⟨b, o, e, hb, hr⟩ := h3.1.elem (fun _ _ => rfl) h1 (List.getElem?_eq_getElem hil)
  exact ⟨b, o, _, e, hb, h3.2 b o (by omega) e, hr, h4 i _ x (List.getElem?_eq_getElem hil) hx⟩
theorem infoH : (Try.prog.info? 45).map (fun i => (i.zero, i.size, i.bytes)) = some (some (.agg #[.int .i64 0, .int .i64 0, .slice none 0 0]), 3, 40) := by kernel_rfl
theorem hqC_one (q : Hq) : ∀ u ∈ hqC q, u.oneCell' = true := by
  intro u hu
  simp [hqC] at hu
  rcases hu with rfl | rfl | rfl <;> rfl
theorem rowH (w : World) (q : Hq) (t : TypeId) : Rd (w.alloc (.cells #[.int .i64 q.au, .int .i64 q.sq, .slice q.D q.m q.c] t)) (w.heap.size + 1) 3 (some ⟨w.heap.size, 0, none⟩) 1 (hqC q) :=
  ⟨rfl, fun _ => ⟨w.heap.size, 0, rfl, Nat.lt_succ_self _, fun j u hj => rangeNew w (hqC q) t j u hj⟩⟩
/-- A slice of one's own of heads. -/
structure OwnH (no : List Nat) (base : Nat) (w : World) (A : Option Addr) (m c : Nat) (Hs : List Hd) (Qs : List Hq) : Prop where
  ql : Qs.length = m
  hl : Hs.length = m
  row : w.ownsRow base 45 3 (.slice A m c) m (Qs.flatMap hqC)
  el : ∀ (j : Nat) (q : Hq) (x : Hd), Qs[j]? = some q → Hs[j]? = some x → HqX ((Value.slice A m c).ownBlock.toList ++ no) w q x
theorem OwnH.nil (no : List Nat) (base : Nat) (w : World) : OwnH no base w none 0 0 [] [] := ⟨rfl, rfl, World.ownsRow_nil _ _ _ _, fun j q x h => by simp at h⟩
theorem OwnH.to {no : List Nat} {base : Nat} {w w' : World} {A : Option Addr} {m c : Nat} {Hs : List Hd} {Qs : List Hq} (h : OwnH no base w A m c Hs Qs) (hb : Below w.heap.size w w') : OwnH no base w' A m c Hs Qs :=
  ⟨h.ql, h.hl, own_to h.row hb, fun j q x h1 h2 => (h.el j q x h1 h2).fr (own := []) (own' := []) (Fr.below hb) (fun _ h => absurd h (by simp)) (fun _ h => Or.inl h)⟩
theorem OwnH.blk {no : List Nat} {base : Nat} {w : World} {A : Option Addr} {m c : Nat} {Hs : List Hd} {Qs : List Hq} (h : OwnH no base w A m c Hs Qs) (hno : ∀ k, k ∈ no → k < w.heap.size) : ∀ k, k ∈ (Value.slice A m c).ownBlock.toList ++ no → k < w.heap.size := fun k hk => by
  rcases List.mem_append.1 hk with h1 | h1
  · rcases h.row.2 with ⟨hv, _⟩ | ⟨g, cap, cur, hv, hb, hg, _⟩
    · rw [hv] at h1; simp [Value.ownBlock] at h1
    · rw [hv] at h1
      simp [Value.ownBlock] at h1
      subst h1
      exact lt_of_blk hg
  · exact hno k h1
/-- What an append onto it of one head leaves. -/
theorem OwnH.snoc {no : List Nat} {base : Nat} {w w' : World} {A A' : Option Addr} {m c c' : Nat} {Hs : List Hd} {Qs : List Hq} (h : OwnH no base w A m c Hs Qs) {q : Hq} {x : Hd} (hq : HqX ((Value.slice A m c).ownBlock.toList ++ no) w q x) (hg : w.grownBy w' (Value.slice A m c).ownBlock)
    (ho : (Value.slice A' (m + 1) c').ownBlock = (Value.slice A m c).ownBlock ∨ (Value.slice A' (m + 1) c').ownBlock = some w.heap.size) (o : w'.ownsRow base 45 3 (.slice A' (m + 1) c') (m + 1) (Qs.flatMap hqC ++ hqC q)) : OwnH no base w' A' (m + 1) c' (Hs ++ [x]) (Qs ++ [q]) := by
  have hf : Fr (Value.slice A m c).ownBlock.toList w w' [] := Fr.grown hg (fun r e => Or.inl (by rw [e]; simp)) (fun k hk => absurd hk (by simp))
  have s1 : ∀ k, k ∈ (Value.slice A m c).ownBlock.toList → k ∈ (Value.slice A m c).ownBlock.toList ++ no := fun k hk => List.mem_append.2 (Or.inl hk)
  have s2 : ∀ k, k ∈ (Value.slice A' (m + 1) c').ownBlock.toList ++ no → k ∈ (Value.slice A m c).ownBlock.toList ++ no ∨ w.heap.size ≤ k := fun k hk => by
    rcases List.mem_append.1 hk with h1 | h1
    · rcases ho with e | e
      · rw [e] at h1; exact Or.inl (List.mem_append.2 (Or.inl h1))
      · rw [e] at h1; simp at h1; exact Or.inr (by omega)
    · exact Or.inl (List.mem_append.2 (Or.inr h1))
  refine ⟨by simp [h.ql], by simp [h.hl], by rw [List.flatMap_append, show [q].flatMap hqC = hqC q by simp]; exact o, fun j q' x' f1 f2 => ?_⟩
  rcases Nat.lt_or_ge j m with hj | hj
  · rw [List.getElem?_append_left (by rw [h.ql]; exact hj)] at f1
    rw [List.getElem?_append_left (by rw [h.hl]; exact hj)] at f2
    exact (h.el j q' x' f1 f2).fr hf s1 s2
  · rw [List.getElem?_append_right (by rw [h.ql]; exact hj)] at f1
    rw [List.getElem?_append_right (by rw [h.hl]; exact hj)] at f2
    rcases hz : j - m with _ | z
    · rw [h.ql, hz] at f1
      rw [h.hl, hz] at f2
      simp at f1 f2
      subst f1 f2
      exact hq.fr hf s1 s2
    · rw [h.ql, hz] at f1
      simp at f1
theorem OwnH.hdN {no : List Nat} {base : Nat} {w : World} {A : Option Addr} {m c : Nat} {Hs : List Hd} {Qs : List Hq} (h : OwnH no base w A m c Hs Qs) (hno : ∀ k, k ∈ no → k < base) : HdN no w A m Hs := by
  refine ⟨Qs, h.ql, h.hl, ⟨Rd.of_own h.row, fun b o h0 e hm => ?_⟩, fun i q x h1 h2 => (h.el i q x h1 h2).fr (own := []) (own' := []) (Fr.below (Below.refl _ _)) (fun _ h => absurd h (by simp)) (fun k hk => Or.inl (List.mem_append.2 (Or.inr hk)))⟩
  obtain ⟨g', e', h3, _⟩ := own_addr h.row h0
  rw [e] at e'; injection e' with e'; injection e' with e5
  have := hno b hm
  omega
set_option maxRecDepth 4000 in
set_option maxHeartbeats 2000000 in
theorem vector_ (g : Nat) (S : Bk) (own R : List Nat) (no : List Nat) (w : World) (hB : BookAt w g S own R) (hno : ∀ k, k ∈ no → k < w.heap.size) :
    Calls Try.prog 36 #[.pointer (some ⟨g, 0, none⟩)] w fun e w' => ∃ A n c, e = .returned (.slice A n c) ∧ n ≤ c ∧ HdN no w' A n (vecL S) ∧ Below w.heap.size w w' := by
  have HB := Lib.hid hB
  have HNO := Lib.hid hno
  clear hB hno
  go_enter Try.func36, Try.ntmps36
  go_wp2_with fail
  go_loopw [3, 6] (fun x3 x6 wr => ∃ (i m : Nat) (A : Option Addr) (c : Nat), x3 = .slice A m c ∧ x6 = .int .i64 i ∧ i ≤ 5 ∧ m ≤ i ∧ Hid (Below w.heap.size w wr) ∧ Hid (∃ Qs, OwnH no w.heap.size wr A m c (vecP S i) Qs)) (fun _ x6 _ => 5 - (intOf x6).toNat)
  case atStart => exact ⟨0, 0, none, 0, rfl, rfl, by omega, by omega, Below.refl _ _, [], OwnH.nil _ _ _⟩
  case round =>
    obtain ⟨i, m, A, c, rfl, rfl, hi, hmi, hb, hQ⟩ := hrel
    by_cases h5 : i < 5
    · have h5' : (i : Int) < 5 := by omega
      have e8 : IntKind.i64.wrap ((i : Int) + 1) = ((i + 1 : Nat) : Int) := by rw [IntWalk.i64_in _ (by omega)]; omega
      go_wp2_with fail
      refine (head_in g S own R i wr (HB.out.below hb.out) (by omega) h5').mono ?_
      rintro e w1 ⟨D, dm, dc, rfl, hdl, od, b1⟩
      have OD := Lib.hid od
      have B1 := Lib.hid b1
      clear od b1
      by_cases hz : ofA S i = []
      · have hvs : vecP S (i + 1) = vecP S i := by show (if _ then _ else _) = _; rw [if_pos hz]
        have hL0 : (ofA S i).length = 0 := by rw [hz]; rfl
        rw [hL0]
        have B2 := Lib.hid ((hb.out.trans (B1.out.mono hb.out.size)).alloc (Nat.le_trans hb.out.size B1.out.size) (.cells #[.int .i64 i, .int .i64 0, .slice D dm dc] 45))
        have hQ2 : Hid (∃ Qs, OwnH no w.heap.size (w1.alloc (.cells #[.int .i64 i, .int .i64 0, .slice D dm dc] 45)) A m c (vecP S (i + 1)) Qs) := by
          obtain ⟨Qs, hq⟩ := hQ.out
          rw [hvs]
          exact ⟨Qs, hq.to (B1.out.alloc B1.out.size _)⟩
        go_wp2_with fail
        go_roundw
        case rel => exact ⟨i + 1, m, A, c, rfl, by go_num, h5, by omega, B2, hQ2⟩
        case measure => simp only [intOf]; omega
      · have hvs : vecP S (i + 1) = vecP S i ++ [headL S i] := by show (if _ then _ else _) = _; rw [if_neg hz]
        obtain ⟨L, hL⟩ : ∃ L, Hid ((ofA S i).length = L) := ⟨_, Lib.hid rfl⟩
        have hL0 : (0 : Int) < (L : Int) := by have h1 := hL.out; have h2 := List.length_pos_iff.2 hz; omega
        rw [hL.out]
        clear hz
        obtain ⟨U, hU⟩ : ∃ U, Hid (U = w1.alloc (.cells #[.int .i64 i, .int .i64 L, .slice D dm dc] 45)) := ⟨_, Lib.hid rfl⟩
        have BU : Hid (Below wr.heap.size wr U) := by rw [hU.out]; exact B1.out.alloc B1.out.size _
        go_wp2_with (at_builtin
                     obtain ⟨Qs, hq⟩ := hQ.out
                     have BV : Hid (Below wr.heap.size wr (U.alloc (.cells #[.int .i64 i, .int .i64 L, .slice D dm dc] 45))) := BU.out.alloc BU.out.size _
                     have hq' := hq.to BV.out
                     rw [hU.out] at hq' BV
                     have RH := rowH (w1.alloc (.cells #[.int .i64 i, .int .i64 L, .slice D dm dc] 45)) ⟨i, L, D, dm, dc⟩ 45
                     rw [szAlloc] at RH
                     refine wpList_app rfl (.tmp 15) (.tmp 17) 71 rfl w.heap.size 45 3 40 _ Try.underlying71 infoH rfl (by decide) (.slice A m c) m _ rfl hq'.row _ (some ⟨w1.heap.size + 1, 0, none⟩) 1 1 (hqC ⟨i, L, D, dm, dc⟩) rfl RH (hqC_one _) (by simp only [maxLen]; omega) (by omega) (Nat.le_trans hb.out.size BV.out.size) ?_
                     intro A6 c6 w6 o6 g6 k6
                     have B6 : Hid (Below w.heap.size w w6) := (hb.out.trans (BV.out.mono hb.out.size)).trans (below_grown g6 (own_block_ge2 hq'.row) (Nat.le_trans hb.out.size BV.out.size))
                     have Q6 : Hid (∃ Qs, OwnH no w.heap.size w6 A6 (m + 1) c6 (vecP S (i + 1)) Qs) := by
                       rw [hvs]
                       refine ⟨_, hq'.snoc (q := ⟨i, L, D, dm, dc⟩) ⟨rfl, by show (L : Int) = ((ofA S i).length : Nat); rw [hL.out], ?_⟩ g6 k6 o6⟩
                       exact (OD.out.rdNo (fun k hk => hq.blk (fun k hk => Nat.lt_of_lt_of_le (HNO.out k hk) hb.out.size) k hk)).fr (own := []) (own' := []) (Fr.below (((Below.refl _ _).alloc (Nat.le_refl _) _).alloc (by rw [szAlloc]; omega) _)) (fun _ h => absurd h (by simp)) (fun _ h => Or.inl h)
                     clear o6 g6 k6 hq' hq BV)
        go_roundw
        case rel => exact ⟨i + 1, m + 1, A6, c6, rfl, by go_num, h5, by omega, B6, Q6⟩
        case measure => simp only [intOf]; omega
    · have hiS : Hid (i = 5) := (by omega : i = 5)
      have h5' : ¬ (i : Int) < 5 := by omega
      go_wp2_with fail
      go_ret
      obtain ⟨Qs, hq⟩ := hQ.out
      rw [hiS.out] at hq
      exact ⟨A, m, c, rfl, own_cap hq.row, hq.hdN HNO.out, hb.out⟩
end Go.Proofs.Ytabcbpcfleociaa

/- May heads be a vector? A book's Compare, plain. -/
namespace Go.Proofs.Ytabcbpcfleociaa
open Go.RowKit
attribute [local go_sem ↓] Go.wp_at_zero Go.wp_at_succ
set_option linter.unusedSimpArgs false
set_option linter.unusedVariables false
def badH (last : Int) (h : Hd) : Prop := h.au ≤ last ∨ 5 ≤ h.au ∨ h.sq < 1 ∨ 1048576 < h.sq ∨ h.dg.length ≠ 32
instance (last : Int) (h : Hd) : Decidable (badH last h) := by unfold badH; infer_instance
def validP (last : Int) : List Hd → Bool
  | [] => true
  | h :: t => if badH last h then false else validP h.au t
def validV (Hs : List Hd) : Bool := validP (-1) Hs
theorem validP_at {last : Int} {Hs : List Hd} {i : Nat} {h : Hd} (hi : Hs[i]? = some h) : validP last (Hs.drop i) = if badH last h then false else validP h.au (Hs.drop (i + 1)) := by
  have hl : i < Hs.length := by
    rcases Nat.lt_or_ge i Hs.length with h | h
    · exact h
    · rw [List.getElem?_eq_none h] at hi; cases hi
  rw [List.drop_eq_getElem_cons hl]
  have e : Hs[i] = h := by rw [List.getElem?_eq_getElem hl] at hi; injection hi
  rw [e]
  rfl
set_option maxRecDepth 4000 in
set_option maxHeartbeats 2000000 in
theorem vec_ (A : Option Addr) (n c : Nat) (Hs : List Hd) (no : List Nat) (w : World) (hv : HdN no w A n Hs) (hn : n ≤ 1000000) :
    Calls Try.prog 66 #[.slice A n c] w fun e w' => e = .returned (.bool (validV Hs)) ∧ Below w.heap.size w w' := by
  have HV := Lib.hid hv
  have HN := Lib.hid hn
  have hlen : Hid (Hs.length = n) := hv.len
  clear hv
  go_enter Try.func66, Try.ntmps66
  go_wp2_with fail
  go_loopw [3, 8] (fun x3 x8 wr => ∃ (i : Nat) (last : Int), x3 = .int .i64 last ∧ x8 = .int .i64 i ∧ i ≤ n ∧ Hid (validV Hs = validP last (Hs.drop i)) ∧ Hid (Below w.heap.size w wr)) (fun _ x8 _ => n - (intOf x8).toNat)
  case atStart => exact ⟨0, -1, rfl, rfl, by omega, rfl, Below.refl _ _⟩
  case round =>
    obtain ⟨i, last, rfl, rfl, hi, hvp, hb⟩ := hrel
    by_cases hin : i < n
    · have hin' : (i : Int) < (n : Int) := by omega
      have hi0 : (0 : Int) ≤ (i : Int) := by omega
      have e8 : IntKind.i64.wrap ((i : Int) + 1) = ((i + 1 : Nat) : Int) := by rw [IntWalk.i64_in _ (by omega)]; omega
      obtain ⟨x, hx⟩ : ∃ x, Hs[i]? = some x := ⟨_, List.getElem?_eq_getElem (by rw [hlen.out]; exact hin)⟩
      obtain ⟨b, o, q, rfl, hbb, _, hrb, hqx⟩ := (HV.out).at_ hx
      have HVA := Lib.hid (validP_at (last := last) hx)
      obtain ⟨⟨au, sq, D, m, dc⟩, rfl⟩ : ∃ q', q' = q := ⟨q, rfl⟩
      have hau : au = x.au := hqx.au
      have hsq : sq = x.sq := hqx.sq
      have hm : m = x.dg.length := hqx.len
      have HB := Lib.hid (show badH last x ↔ (au ≤ last ∨ 5 ≤ au ∨ sq < 1 ∨ 1048576 < sq ∨ m ≠ 32) by rw [hau, hsq, hm]; exact Iff.rfl)
      have HAU := Lib.hid hau
      clear hau hsq hm hqx hx
      have c0 : wr.cell? ⟨b, o + i * 3, none⟩ = some (.int .i64 au) := (World.cell?_of_block (a := ⟨b, o + i * 3 + 0, none⟩) (hb.out.block b hbb)).trans (hrb 0 _ rfl)
      have c1 : wr.cell? ⟨b, o + i * 3 + 1, none⟩ = some (.int .i64 sq) := (World.cell?_of_block (a := ⟨b, o + i * 3 + 1, none⟩) (hb.out.block b hbb)).trans (hrb 1 _ rfl)
      have c2 : wr.cell? ⟨b, o + i * 3 + 2, none⟩ = some (.slice D m dc) := (World.cell?_of_block (a := ⟨b, o + i * 3 + 2, none⟩) (hb.out.block b hbb)).trans (hrb 2 _ rfl)
      have hb2 := Lib.hid (hb.out.alloc hb.out.size (.cells #[.int .i64 au, .int .i64 sq, .slice D m dc] 45))
      clear hrb hbb
      by_cases h1 : au ≤ last
      · have hbad := HB.out.2 (Or.inl h1)
        go_wp2_with fail
        go_ret
        exact ⟨by rw [hvp.out, HVA.out, if_pos hbad]; rfl, hb2.out⟩
      · by_cases h2 : 5 ≤ au
        · have hbad := HB.out.2 (Or.inr (Or.inl h2))
          go_wp2_with fail
          go_ret
          exact ⟨by rw [hvp.out, HVA.out, if_pos hbad]; rfl, hb2.out⟩
        · by_cases h3 : sq < 1
          · have hbad := HB.out.2 (Or.inr (Or.inr (Or.inl h3)))
            go_wp2_with fail
            go_ret
            exact ⟨by rw [hvp.out, HVA.out, if_pos hbad]; rfl, hb2.out⟩
          · by_cases h4 : 1048576 < sq
            · have hbad := HB.out.2 (Or.inr (Or.inr (Or.inr (Or.inl h4))))
              go_wp2_with fail
              go_ret
              exact ⟨by rw [hvp.out, HVA.out, if_pos hbad]; rfl, hb2.out⟩
            · by_cases h5 : m = 32
              · have hok : Hid (¬ badH last x) := fun hbx => by
                  rcases HB.out.1 hbx with h | h | h | h | h
                  · exact h1 h
                  · exact h2 h
                  · exact h3 h
                  · exact h4 h
                  · exact h h5
                subst h5
                go_wp2_with fail
                go_roundw
                case rel => exact ⟨i + 1, au, rfl, by go_num, hin, by rw [hvp.out, HVA.out, if_neg hok.out, HAU.out]; rfl, hb2⟩
                case measure => simp only [intOf]; omega
              · have hbad := HB.out.2 (Or.inr (Or.inr (Or.inr (Or.inr h5))))
                have h5' : ¬ (m : Int) = 32 := by omega
                go_wp2_with fail
                go_ret
                exact ⟨by rw [hvp.out, HVA.out, if_pos hbad]; rfl, hb2.out⟩
    · have hiS : Hid (i = n) := (by omega : i = n)
      have hin' : ¬ (i : Int) < (n : Int) := by omega
      go_wp2_with fail
      go_ret
      exact ⟨by rw [hvp.out, List.drop_of_length_le (by rw [hlen.out, hiS.out]; exact Nat.le_refl _)]; rfl, hb.out⟩
end Go.Proofs.Ytabcbpcfleociaa

/- A book's Compare. -/
namespace Go.Proofs.Ytabcbpcfleociaa
open Go.RowKit Go.Maps
attribute [local go_sem ↓] Go.wp_at_zero Go.wp_at_succ
set_option linter.unusedSimpArgs false
set_option linter.unusedVariables false
/-- What a head tells: the link that is known there. -/
def kAt (S : Bk) (h : Hd) : Option Kn := if h.sq < 1 then none else (ofA S h.au)[(h.sq - 1).toNat]?
def told (Hs : List Hd) (a : Int) : Int := Hs.foldl (fun t h => if h.au = a then h.sq else t) 0
theorem told_snoc (Hs : List Hd) (h : Hd) (a : Int) : told (Hs ++ [h]) a = if h.au = a then h.sq else told Hs a := by simp [told]
def aheadP (S : Bk) (Hs : List Hd) : Bool := Hs.any fun h => (kAt S h).isNone
def forkO (S : Bk) (h : Hd) : Option (Int × Int) := match kAt S h with | none => none | some k => if k.dg = h.dg then none else some (h.au, h.sq)
def forksP (S : Bk) (Hs : List Hd) : List (Int × Int) := Hs.filterMap (forkO S)
def behindP (S : Bk) (Hs : List Hd) : Nat → Bool
  | 0 => false
  | i + 1 => behindP S Hs i || decide (told Hs i < (ofA S i).length)
def fkC (x : Int × Int) : List Value := [.int .i64 x.1, .int .i64 x.2]
def cmpB (S : Bk) (Hs : List Hd) : Bool := if validV Hs then behindP S Hs 5 else false
def cmpA (S : Bk) (Hs : List Hd) : Bool := if validV Hs then aheadP S Hs else false
def cmpF (S : Bk) (Hs : List Hd) : List (Int × Int) := if validV Hs then forksP S Hs else []
def cmpE (Hs : List Hd) : Int := if validV Hs then 0 else 1
structure okH (h : Hd) : Prop where
  a0 : 0 ≤ h.au
  a5 : h.au < 5
  s1 : 1 ≤ h.sq
  s2 : h.sq ≤ 1048576
  dg : h.dg.length = 32
theorem validP_ok : ∀ {Hs : List Hd} {last : Int}, -1 ≤ last → validP last Hs = true → ∀ h ∈ Hs, okH h
  | [], _, _, _, _, hm => by cases hm
  | x :: t, last, hl, hv, h, hm => by
    unfold validP at hv
    split at hv
    · cases hv
    · rename_i hb
      unfold badH at hb
      have hx : okH x := ⟨by omega, by omega, by omega, by omega, by omega⟩
      rcases List.mem_cons.1 hm with rfl | hm
      · exact hx
      · exact validP_ok (by have := hx.a0; omega) hv h hm
theorem take_snoc {α : Type} {L : List α} {i : Nat} {x : α} (h : L[i]? = some x) : L.take (i + 1) = L.take i ++ [x] := by rw [List.take_add_one, h]; rfl
theorem infoF : (Try.prog.info? 132).map (fun i => (i.zero, i.size, i.bytes)) = some (some (.agg #[.int .i64 0, .int .i64 0]), 2, 16) := by kernel_rfl
theorem fkC_one (x : Int × Int) : ∀ u ∈ fkC x, u.oneCell' = true := by
  intro u hu
  simp [fkC] at hu
  rcases hu with rfl | rfl <;> rfl
theorem rowF (w : World) (x : Int × Int) (t : TypeId) : Rd (w.alloc (.cells #[.int .i64 x.1, .int .i64 x.2] t)) (w.heap.size + 1) 2 (some ⟨w.heap.size, 0, none⟩) 1 (fkC x) :=
  ⟨rfl, fun _ => ⟨w.heap.size, 0, rfl, Nat.lt_succ_self _, fun j u hj => rangeNew w (fkC x) t j u hj⟩⟩
theorem results_cell_tmp2 {P : Program} {fn : Func} {tmps : Array Value} {w : World} {a b c : Nat} {t : TypeId} {v : Value} {p : Addr} (h : fn.results = #[.cell a t, .tmp b, .tmp c]) (ha : tmps.getD a undef = .pointer (some p)) (hl : (loadVar t p).run P w = .ok v w) : (results fn tmps).run P w = .ok (.tuple #[v, tmps.getD b undef, tmps.getD c undef]) w := by
  unfold results
  rw [h]
  have ha' : tmps[a]?.getD undef = .pointer (some p) := by simpa using ha
  simp [ha', hl, asAddr]
theorem keyedInt : Keyed Try.prog 3 := int_keyed Try.underlying3
set_option maxRecDepth 8000 in
set_option maxHeartbeats 4000000 in
theorem compare_ (g : Nat) (S : Bk) (own R : List Nat) (A : Option Addr) (n c : Nat) (Hs : List Hd) (no : List Nat) (w : World) (hB : BookAt w g S own R) (hv : HdN no w A n Hs) (hn : n ≤ 1000000) :
    Calls Try.prog 42 #[.pointer (some ⟨g, 0, none⟩), .slice A n c] w fun e w' => ∃ F m d, e = .returned (.tuple #[.agg #[.bool (cmpB S Hs), .bool (cmpA S Hs)], .slice F m d, .int .i64 (cmpE Hs)]) ∧ Rd w' w'.heap.size 2 F m ((cmpF S Hs).flatMap fkC) ∧ (cmpF S Hs).length = m ∧ m ≤ d ∧ Below w.heap.size w w' := by
  obtain ⟨W, hW⟩ : ∃ W, Hid (W = w.alloc (.cells #[.bool false, .bool false] 81)) := ⟨_, Lib.hid rfl⟩
  obtain ⟨G, hG⟩ : ∃ g, Hid (g = w.heap.size) := ⟨_, Lib.hid rfl⟩
  have BW : Hid (Below w.heap.size w W) := by rw [hW.out]; exact (Below.refl _ _).alloc (Nat.le_refl _) _
  have RW : Hid (W.heap[G]? = some (.cells #[.bool false, .bool false] 81 (0, 0))) := by unfold Hid; rw [hW.out, hG.out]; exact heap_alloc_new _ _
  have HB := Lib.hid (hB.below BW.out)
  have HV := Lib.hid (hv.below BW.out)
  have HN := Lib.hid hn
  have hlen : Hid (Hs.length = n) := hv.len
  clear hB hv
  go_enter Try.func42, Try.ntmps42
  go_wp2_with fail
  go_step3
  go_wp2_with fail
  rw [← hW.out, ← hG.out]
  refine (vec_ A n c Hs no W HV.out HN.out).mono ?_
  rintro e w1 ⟨rfl, b1⟩
  have B1 := Lib.hid b1
  have R1 : Hid (w1.heap[G]? = some (.cells #[.bool false, .bool false] 81 (0, 0))) := (b1.block G (lt_of_blk RW.out)).trans RW.out
  clear b1
  by_cases hva : validV Hs = true
  · have hok := Lib.hid (validP_ok (Int.le_refl _) hva)
    have cB : Hid (cmpB S Hs = behindP S Hs 5) := by unfold Hid cmpB; rw [if_pos hva]
    have cA : Hid (cmpA S Hs = aheadP S Hs) := by unfold Hid cmpA; rw [if_pos hva]
    have cF : Hid (cmpF S Hs = forksP S Hs) := by unfold Hid cmpF; rw [if_pos hva]
    have cE : Hid (cmpE Hs = 0) := by unfold Hid cmpE; rw [if_pos hva]
    rw [hva]
    have hmm := @run_makeMap Try.prog
    obtain ⟨U, hU⟩ : ∃ U, Hid (U = w1.alloc (.cells #[.bool false, .bool false] 81)) := ⟨_, Lib.hid rfl⟩
    obtain ⟨G7, hG7⟩ : ∃ g, Hid (g = w1.heap.size) := ⟨_, Lib.hid rfl⟩
    go_wp2_with fail
    go_step3
    go_wp2_with fail
    rw [← hU.out, ← hG7.out]
    obtain ⟨V, hV⟩ : ∃ V, Hid (V = U.alloc (.map #[] 0)) := ⟨_, Lib.hid rfl⟩
    rw [← hV.out]
    have hUs : Hid (U.heap.size = G7 + 1) := by unfold Hid; rw [hU.out, szAlloc, hG7.out]
    have hVs : Hid (V.heap.size = G7 + 2) := by unfold Hid; rw [hV.out, szAlloc, hUs.out]
    have hWG : Hid (W.heap.size ≤ G7) := by rw [hG7.out]; exact B1.out.size
    have BU : Below w1.heap.size w1 U := by rw [hU.out]; exact (Below.refl _ _).alloc (Nat.le_refl _) _
    have BV1 : Below U.heap.size U V := by rw [hV.out]; exact (Below.refl _ _).alloc (Nat.le_refl _) _
    have BV : Hid (Below W.heap.size W V) := B1.out.trans ((BU.trans (BV1.mono BU.size)).mono B1.out.size)
    have RU7 : U.heap[G7]? = some (.cells #[.bool false, .bool false] 81 (0, 0)) := by rw [hU.out, hG7.out]; exact heap_alloc_new _ _
    have RV7 : Hid (V.heap[G7]? = some (.cells #[.bool false, .bool (aheadP S (Hs.take 0))] 81 (0, 0))) := (BV1.block G7 (lt_of_blk RU7)).trans RU7
    have MV : Hid (∃ f, MapV Try.prog 3 V (G7 + 1) 0 (.int .i64 0) f ∧ ∀ a : Int, f (.int .i64 a) = .int .i64 (told (Hs.take 0) a)) := by
      rw [hV.out, ← hUs.out]
      exact ⟨_, MapV.made Try.prog 3 U (.int .i64 0), fun a => rfl⟩
    have RGv : Hid (V.heap[G]? = some (.cells #[.bool false, .bool false] 81 (0, 0))) := (BV.out.block G (lt_of_blk RW.out)).trans RW.out
    clear RU7 BV1 BU hV hU hmm
    go_loopw [8, 26] (fun x8 x26 wr => ∃ (i m : Nat) (F : Option Addr) (d : Nat), x8 = .slice F m d ∧ x26 = .int .i64 i ∧ i ≤ n ∧ m ≤ i ∧ Hid (Below W.heap.size W wr) ∧ Hid (G7 + 2 ≤ wr.heap.size) ∧ Hid (wr.heap[G7]? = some (.cells #[.bool false, .bool (aheadP S (Hs.take i))] 81 (0, 0))) ∧ Hid (wr.heap[G]? = some (.cells #[.bool false, .bool false] 81 (0, 0))) ∧ Hid (∃ f, MapV Try.prog 3 wr (G7 + 1) i (.int .i64 0) f ∧ ∀ a : Int, f (.int .i64 a) = .int .i64 (told (Hs.take i) a)) ∧ Hid (wr.ownsRow (G7 + 2) 132 2 (.slice F m d) m ((forksP S (Hs.take i)).flatMap fkC)) ∧ Hid ((forksP S (Hs.take i)).length = m)) (fun _ x26 _ => n - (intOf x26).toNat)
    case atStart => exact ⟨0, 0, none, 0, rfl, rfl, by omega, by omega, BV, Nat.le_of_eq hVs.out.symm, RV7, RGv, MV, World.ownsRow_nil _ _ _ _, rfl⟩
    case round =>
      obtain ⟨i, m, F, d, rfl, rfl, hi, hmi, hb, hsz, R7, R2, hM, hO, hFl⟩ := hrel
      by_cases hin : i < n
      · have hin' : (i : Int) < (n : Int) := by omega
        have hi0 : (0 : Int) ≤ (i : Int) := by omega
        have e8 : IntKind.i64.wrap ((i : Int) + 1) = ((i + 1 : Nat) : Int) := by rw [IntWalk.i64_in _ (by omega)]; omega
        obtain ⟨x, hx⟩ : ∃ x, Hs[i]? = some x := ⟨_, List.getElem?_eq_getElem (by rw [hlen.out]; exact hin)⟩
        have hts := Lib.hid (take_snoc hx)
        have hxo := Lib.hid (hok.out x (List.mem_of_getElem? hx))
        obtain ⟨b, o, q, rfl, hbb, _, hrb, hqx⟩ := (HV.out).at_ hx
        obtain ⟨⟨au, sq, D, dm, dc⟩, rfl⟩ : ∃ q', q' = q := ⟨q, rfl⟩
        obtain ⟨xau, xsq, xdg⟩ := x
        obtain rfl : au = xau := hqx.au
        obtain rfl : sq = xsq := hqx.sq
        have hau : inI au := ⟨by have := hxo.out.a0; show _ ≤ au; exact Int.le_trans (by decide) this, by have := hxo.out.a5; simp only at this; omega⟩
        have HD := Lib.hid hqx.dg.1
        clear hqx hx
        have c0 : wr.cell? ⟨b, o + i * 3, none⟩ = some (.int .i64 au) := (World.cell?_of_block (a := ⟨b, o + i * 3 + 0, none⟩) (hb.out.block b hbb)).trans (hrb 0 _ rfl)
        have c1 : wr.cell? ⟨b, o + i * 3 + 1, none⟩ = some (.int .i64 sq) := (World.cell?_of_block (a := ⟨b, o + i * 3 + 1, none⟩) (hb.out.block b hbb)).trans (hrb 1 _ rfl)
        have c2 : wr.cell? ⟨b, o + i * 3 + 2, none⟩ = some (.slice D dm dc) := (World.cell?_of_block (a := ⟨b, o + i * 3 + 2, none⟩) (hb.out.block b hbb)).trans (hrb 2 _ rfl)
        clear hrb hbb
        have hkey := keyI au hau
        obtain ⟨K1, hK1⟩ : ∃ K1, Hid (K1 = wr.alloc (.cells #[.int .i64 au, .int .i64 sq, .slice D dm dc] 45)) := ⟨_, Lib.hid rfl⟩
        obtain ⟨B11, hB11⟩ : ∃ q, Hid (q = wr.heap.size) := ⟨_, Lib.hid rfl⟩
        have BK : Below wr.heap.size wr K1 := by rw [hK1.out]; exact (Below.refl _ _).alloc (Nat.le_refl _) _
        have RK1 : K1.heap[B11]? = some (.cells #[.int .i64 au, .int .i64 sq, .slice D dm dc] 45 (0, 0)) := by rw [hK1.out, hB11.out]; exact heap_alloc_new _ _
        obtain ⟨f, hm1, hm2⟩ := hM.out
        have hm1K := hm1.same (BK.block (G7 + 1) hm1.lt)
        have HM1 := Lib.hid hm1K
        have HM2 := Lib.hid hm2
        clear hm1 hm2 hm1K
        go_wp2_with (refine wpList_updV rfl (.tmp 30) (.tmp 32) (.tmp 34) 130 rfl 3 3 keyedI Try.underlying130 (.int .i64 0) (G7 + 1) i f rfl (by rw [← hK1.out]; exact HM1.out) (by simp only [maxLen]; omega) (.int .i64 au) (.int .i64 sq) _ rfl rfl hkey ?_
                     intro K2 mK2 gK2
                     rw [← hK1.out] at gK2
                     have gk := Lib.hid gK2
                     have RK2 : Hid (K2.heap[B11]? = some (.cells #[.int .i64 au, .int .i64 sq, .slice D dm dc] 45 (0, 0))) := (gK2.block B11 (lt_of_blk RK1) (by have := hsz.out; have := hB11.out; simp; omega)).trans RK1
                     have t0 : K2.cell? ⟨B11, 0, none⟩ = some (.int .i64 au) := cell_blk RK2.out 0 rfl
                     have t1 : K2.cell? ⟨B11, 1, none⟩ = some (.int .i64 sq) := cell_blk RK2.out 1 rfl
                     have t2 : K2.cell? ⟨B11, 2, none⟩ = some (.slice D dm dc) := cell_blk RK2.out 2 rfl
                     rw [hB11.out] at t0 t1 t2)
        have hMK : Hid (∃ f, MapV Try.prog 3 K2 (G7 + 1) (i + 1) (.int .i64 0) f ∧ ∀ a : Int, f (.int .i64 a) = .int .i64 (told (Hs.take (i + 1)) a)) := by
          refine ⟨_, mK2, fun a => ?_⟩
          rw [hts.out, told_snoc]
          by_cases ha : au = a
          · subst ha
            rw [updV_same, if_pos rfl]
          · rw [if_neg ha, updV_other _ _ (fun e => ha (by injection e with _ e; exact e.symm))]
            exact HM2.out a
        have FK : Hid (Fr [G7 + 1] wr K2 [G7 + 1]) := (Fr.below (own := [G7 + 1]) BK).trans (Fr.grown gk.out (fun r e => Or.inl (by injection e with e; simp [e])) (fun k hk => Or.inl hk))
        have hK2s : Hid (G7 + 2 ≤ K2.heap.size) := Nat.le_trans hsz.out FK.out.size
        have K7 : Hid (K2.heap[G7]? = some (.cells #[.bool false, .bool (aheadP S (Hs.take i))] 81 (0, 0))) := (FK.out.block G7 (lt_of_blk R7.out) (by simp)).trans R7.out
        have hGG : Hid (G < G7) := Nat.lt_of_lt_of_le (lt_of_blk RW.out) hWG.out
        have K0 : Hid (K2.heap[G]? = some (.cells #[.bool false, .bool false] 81 (0, 0))) := (FK.out.block G (lt_of_blk R2.out) (by have := hGG.out; simp; omega)).trans R2.out
        have hOK : Hid (K2.ownsRow (G7 + 2) 132 2 (.slice F m d) m ((forksP S (Hs.take i)).flatMap fkC)) := (hO.out.kept (row := some (G7 + 1)) ⟨FK.out.os, FK.out.tape, FK.out.output, FK.out.size, fun k hk hn => FK.out.block k hk (by simp; intro e; exact hn (by rw [e]))⟩ (by
          refine Or.inr (fun e => ?_)
          rcases hO.out.2 with ⟨hv, _⟩ | ⟨g', cap, cur, hv, hb', _⟩
          · rw [hv] at e; simp [Value.ownBlock] at e
          · rw [hv] at e; simp [Value.ownBlock] at e; omega))
        have BKw : Hid (Below W.heap.size W K2) := hb.out.trans (FK.out.toBelow (fun k hk => by simp at hk; have := hWG.out; omega) hb.out.size)
        clear mK2 BK RK1 hK1
        have BKA := Lib.hid (HB.out.below BKw.out)
        have hs1 := hxo.out.s1
        simp only at hs1
        have hna : ¬ sq < 1 := by omega
        rcases hk : (ofA S au)[(sq - 1).toNat]? with _ | k
        · have hka : kAt S ⟨au, sq, xdg⟩ = none := by unfold kAt; rw [if_neg hna]; exact hk
          have hlt : ((ofA S au).length : Int) < sq := by have := List.getElem?_eq_none_iff.1 hk; omega
          have hah : Hid (aheadP S (Hs.take (i + 1)) = true) := by unfold Hid aheadP; rw [hts.out, List.any_append]; simp [hka]
          have hfo : Hid (forksP S (Hs.take (i + 1)) = forksP S (Hs.take i)) := by unfold Hid forksP; rw [hts.out, List.filterMap_append]; simp [forkO, hka]
          clear hk hka
          refine (at_no g S own R au sq K2 BKA.out hau (Or.inr hlt)).mono ?_
          rintro e w3 ⟨rfl, rfl⟩
          clear hlt
          have s1 := cell_blk K7.out 1 rfl
          have s2 := frozen_blk K7.out 1
          go_wp2_with fail
          obtain ⟨Z, hZ⟩ : ∃ Z, Hid (Z = w3.setCell ⟨G7, 1, none⟩ (.bool true)) := ⟨_, Lib.hid rfl⟩
          have FZ : Hid (Fr [G7] w3 Z [G7]) := by rw [hZ.out]; exact ⟨rfl, rfl, rfl, by simp [World.setCell], fun k _ hn => Below.heap_setCell _ _ _ _ (by simpa using hn), fun k hk => Or.inl hk⟩
          have Z7 : Hid (Z.heap[G7]? = some (.cells #[.bool false, .bool (aheadP S (Hs.take (i + 1)))] 81 (0, 0))) := by rw [hah.out, hZ.out]; exact heap_set K7.out _
          have Z0 : Hid (Z.heap[G]? = some (.cells #[.bool false, .bool false] 81 (0, 0))) := (FZ.out.block G (lt_of_blk K0.out) (by have := hGG.out; simp; omega)).trans K0.out
          have hMZ : Hid (∃ f, MapV Try.prog 3 Z (G7 + 1) (i + 1) (.int .i64 0) f ∧ ∀ a : Int, f (.int .i64 a) = .int .i64 (told (Hs.take (i + 1)) a)) := by
            obtain ⟨f', h1, h2⟩ := hMK.out
            exact ⟨f', h1.same (FZ.out.block (G7 + 1) h1.lt (by simp)), h2⟩
          have hOZ : Hid (Z.ownsRow (G7 + 2) 132 2 (.slice F m d) m ((forksP S (Hs.take (i + 1))).flatMap fkC)) := by
            rw [hfo.out]
            refine hOK.out.kept (row := some G7) ⟨FZ.out.os, FZ.out.tape, FZ.out.output, FZ.out.size, fun k hk hn => FZ.out.block k hk (by simp; intro e; exact hn (by rw [e]))⟩ (Or.inr (fun e => ?_))
            rcases hOK.out.2 with ⟨hv, _⟩ | ⟨g', cap, cur, hv, hb', _⟩
            · rw [hv] at e; simp [Value.ownBlock] at e
            · rw [hv] at e; simp [Value.ownBlock] at e; omega
          have BZ : Hid (Below W.heap.size W Z) := BKw.out.trans (FZ.out.toBelow (fun k hk => by simp at hk; rw [hk]; exact hWG.out) BKw.out.size)
          rw [← hZ.out]
          go_roundw
          case rel => exact ⟨i + 1, m, F, d, rfl, by go_num, hin, by omega, BZ, Nat.le_trans hK2s.out FZ.out.size, Z7, Z0, hMZ, hOZ, by rw [hfo.out]; exact hFl⟩
          case measure => simp only [intOf]; omega
        · have hka : kAt S ⟨au, sq, xdg⟩ = some k := by unfold kAt; rw [if_neg hna]; exact hk
          have hah : Hid (aheadP S (Hs.take (i + 1)) = aheadP S (Hs.take i)) := by unfold Hid aheadP; rw [hts.out, List.any_append]; simp [hka]
          obtain ⟨j, hj⟩ : ∃ j : Nat, sq = ((j + 1 : Nat) : Int) := ⟨(sq - 1).toNat, by omega⟩
          have hkj : (ofA S au)[j]? = some k := by rw [show j = (sq - 1).toNat by omega]; exact hk
          have hep : ¬ k.ep = 0 := by have := (BKA.out.ok.of (List.mem_of_getElem? hk)).lo; omega
          have hkd := Lib.hid (BKA.out.ok.of (List.mem_of_getElem? hk)).dg
          have hA := at_ g S own R au j k K2 BKA.out hau hkj
          rw [← hj] at hA
          clear hk hkj hj
          refine hA.mono ?_
          rintro e w3 ⟨A', c', rfl, o3, b3⟩
          clear hA
          have O3 := Lib.hid o3
          have F3 := Lib.hid b3
          clear o3 b3
          have r0 : Hid (w3.heap[B11]? = some (.cells #[.int .i64 au, .int .i64 sq, .slice D dm dc] 45 (0, 0))) := (F3.out.block B11 (lt_of_blk RK2.out)).trans RK2.out
          have t3 : w3.cell? ⟨B11, 0, none⟩ = some (.int .i64 au) := cell_blk r0.out 0 rfl
          have t4 : w3.cell? ⟨B11, 1, none⟩ = some (.int .i64 sq) := cell_blk r0.out 1 rfl
          have t5 : w3.cell? ⟨B11, 2, none⟩ = some (.slice D dm dc) := cell_blk r0.out 2 rfl
          rw [hB11.out] at t3 t4 t5
          have HD3 := Lib.hid ((HD.out.below (BKw.out.trans (F3.out.mono BKw.out.size))).more (Nat.le_trans BKw.out.size F3.out.size))
          have M3 : Hid (∃ f, MapV Try.prog 3 w3 (G7 + 1) (i + 1) (.int .i64 0) f ∧ ∀ a : Int, f (.int .i64 a) = .int .i64 (told (Hs.take (i + 1)) a)) := by
            obtain ⟨f', h1, h2⟩ := hMK.out
            exact ⟨f', h1.same (F3.out.block (G7 + 1) h1.lt), h2⟩
          have W7 : Hid (w3.heap[G7]? = some (.cells #[.bool false, .bool (aheadP S (Hs.take (i + 1)))] 81 (0, 0))) := by rw [hah.out]; exact (F3.out.block G7 (lt_of_blk K7.out)).trans K7.out
          have W0 : Hid (w3.heap[G]? = some (.cells #[.bool false, .bool false] 81 (0, 0))) := (F3.out.block G (lt_of_blk K0.out)).trans K0.out
          have OW := Lib.hid (own_to hOK.out F3.out)
          have BW3 := Lib.hid (BKw.out.trans (F3.out.mono BKw.out.size))
          have hs3 : Hid (G7 + 2 ≤ w3.heap.size) := Nat.le_trans hK2s.out F3.out.size
          go_wp2_with fail
          refine (equal_ A' 32 c' k.dg D dm dc xdg w3 O3.out.rd HD3.out).mono ?_
          rintro e w4 ⟨rfl, rfl⟩
          by_cases hdd : k.dg = xdg
          · have hdec : decide (k.dg = xdg) = true := decide_eq_true hdd
            have hfo : Hid (forksP S (Hs.take (i + 1)) = forksP S (Hs.take i)) := by unfold Hid forksP; rw [hts.out, List.filterMap_append]; simp [forkO, hka, hdd]
            rw [hdec]
            clear hdd hka hdec
            go_wp2_with fail
            go_roundw
            case rel => exact ⟨i + 1, m, F, d, rfl, by go_num, hin, by omega, BW3, hs3, W7, W0, M3, by rw [hfo.out]; exact OW, by rw [hfo.out]; exact hFl⟩
            case measure => simp only [intOf]; omega
          · have hdec : decide (k.dg = xdg) = false := decide_eq_false hdd
            have hfo : Hid (forksP S (Hs.take (i + 1)) = forksP S (Hs.take i) ++ [(au, sq)]) := by unfold Hid forksP; rw [hts.out, List.filterMap_append]; simp [forkO, hka, hdd]
            rw [hdec]
            clear hdd hka hdec
            go_wp2_with (at_builtin
                         have ow := own_to OW.out ((Below.refl w4.heap.size w4).alloc (Nat.le_refl _) (.cells #[.int .i64 au, .int .i64 sq] 132))
                         refine wpList_app rfl (.tmp 52) (.tmp 58) 82 rfl (G7 + 2) 132 2 16 _ Try.underlying82 infoF rfl (by decide) (.slice F m d) m _ rfl ow _ (some ⟨w4.heap.size, 0, none⟩) 1 1 (fkC (au, sq)) rfl (rowF w4 (au, sq) _) (fkC_one _) (by simp only [maxLen]; omega) (by omega) (by rw [szAlloc]; have := hs3.out; omega) ?_
                         intro F6 d6 w6 o6 g6 _
                         have f6 := Lib.hid ((Fr.below (own := (Value.slice F m d).ownBlock.toList) ((Below.refl w4.heap.size w4).alloc (Nat.le_refl _) (.cells #[.int .i64 au, .int .i64 sq] 132))).trans (Fr.grown (own' := []) g6 (fun r e => Or.inl (by rw [e]; simp)) (fun k hk => absurd hk (by simp))))
                         have hge := Lib.hid (own_block_ge2 OW.out)
                         have O6 := Lib.hid o6
                         clear o6 g6 ow)
            have L7 : Hid (w6.heap[G7]? = some (.cells #[.bool false, .bool (aheadP S (Hs.take (i + 1)))] 81 (0, 0))) := (f6.out.block G7 (lt_of_blk W7.out) (by intro hm; simp at hm; have := hge.out _ hm; omega)).trans W7.out
            have L0 : Hid (w6.heap[G]? = some (.cells #[.bool false, .bool false] 81 (0, 0))) := (f6.out.block G (lt_of_blk W0.out) (by intro hm; simp at hm; have := hge.out _ hm; have := hGG.out; omega)).trans W0.out
            have M6 : Hid (∃ f, MapV Try.prog 3 w6 (G7 + 1) (i + 1) (.int .i64 0) f ∧ ∀ a : Int, f (.int .i64 a) = .int .i64 (told (Hs.take (i + 1)) a)) := by
              obtain ⟨f', h1, h2⟩ := M3.out
              exact ⟨f', h1.same (f6.out.block (G7 + 1) h1.lt (by intro hm; simp at hm; have := hge.out _ hm; omega)), h2⟩
            have B6 : Hid (Below W.heap.size W w6) := BW3.out.trans (f6.out.toBelow (fun k hk => by simp at hk; have := hge.out _ hk; have := hWG.out; omega) BW3.out.size)
            go_roundw
            case rel => exact ⟨i + 1, m + 1, F6, d6, rfl, by go_num, hin, by omega, B6, Nat.le_trans hs3.out f6.out.size, L7, L0, M6, by rw [hfo.out, List.flatMap_append, show [(au, sq)].flatMap fkC = fkC (au, sq) by simp]; exact O6.out, by rw [hfo.out, List.length_append, hFl.out]; rfl⟩
            case measure => simp only [intOf]; omega
      · have hiS : Hid (i = n) := (by omega : i = n)
        have hin' : ¬ (i : Int) < (n : Int) := by omega
        have htk : Hs.take i = Hs := List.take_of_length_le (by rw [hlen.out, hiS.out]; exact Nat.le_refl _)
        rw [htk] at R7 hM hO hFl
        clear htk
        go_wp2_with fail
        obtain ⟨wo, hwo⟩ : ∃ wo, wo = wr := ⟨wr, rfl⟩
        subst hwo
        go_loopw [61] (fun x61 wq => ∃ (k : Nat), x61 = .int .i64 k ∧ k ≤ 5 ∧ Hid (Fr [G7] wo wq [G7]) ∧ Hid (wq.heap[G7]? = some (.cells #[.bool (behindP S Hs k), .bool (aheadP S Hs)] 81 (0, 0)))) (fun x61 _ => 5 - (intOf x61).toNat)
        case atStart => exact ⟨0, rfl, by omega, Fr.refl _ _, R7⟩
        case round =>
          obtain ⟨k, rfl, hk5, FQ, Q7⟩ := hrel
          by_cases hk : k < 5
          · have hk' : (k : Int) < 5 := by omega
            have hk0 : (0 : Int) ≤ (k : Int) := by omega
            have e8 : IntKind.i64.wrap ((k : Int) + 1) = ((k + 1 : Nat) : Int) := by rw [IntWalk.i64_in _ (by omega)]; omega
            go_wp2_with fail
            obtain ⟨X, hX⟩ : ∃ W, Hid (W = wr.drew) := ⟨_, Lib.hid rfl⟩
            have dX : Below wr.heap.size wr X := by rw [hX.out]; exact below_drew (Below.refl _ _)
            have BQ : Below W.heap.size W wr := hb.out.trans (FQ.out.toBelow (fun k hk => by simp at hk; rw [hk]; exact hWG.out) hb.out.size)
            have BX : Below W.heap.size W X := BQ.trans (dX.mono BQ.size)
            obtain ⟨bb, nn, ff, hv⟩ := HB.out.below BX
            obtain ⟨RA, rc, hrow, _, _⟩ := hv.rows (k : Int)
            obtain ⟨L, hL⟩ : ∃ L, Hid ((ofA S (k : Int)).length = L) := ⟨_, Lib.hid rfl⟩
            obtain ⟨tl, htl⟩ : ∃ t, Hid (told Hs (k : Int) = t) := ⟨_, Lib.hid rfl⟩
            have HC : Hid (∀ w', Below X.heap.size X w' → w'.cell? ⟨g, 0, none⟩ = some (.map (some bb))) := fun w' h' => cell_blk (hv.below h').blk 0 rfl
            have HLk : Hid (∀ w', Below X.heap.size X w' → (Instr.lookup 103 (.map (some bb)) (.int .i64 (k : Int)) false).run Try.prog w' = .ok (.slice RA L rc) w') := fun w' h' => by
              have := (hv.below h').look (a := (k : Int)) ⟨by omega, by omega⟩ hrow
              rw [hL.out] at this
              exact this
            have HLt : Hid (∀ w', Below X.heap.size X w' → (Instr.lookup 130 (.map (some (G7 + 1))) (.int .i64 (k : Int)) false).run Try.prog w' = .ok (.int .i64 tl) w') := fun w' h' => by
              obtain ⟨f', h1, h2⟩ := hM.out
              have h3 := h1.lt
              have e1 : w'.heap[G7 + 1]? = wo.heap[G7 + 1]? := (h'.block (G7 + 1) (Nat.lt_of_lt_of_le h3 (Nat.le_trans FQ.out.size dX.size))).trans ((dX.block (G7 + 1) (Nat.lt_of_lt_of_le h3 FQ.out.size)).trans (FQ.out.block (G7 + 1) h3 (by simp)))
              have := (h1.same e1).look keyedI (t := 130) (e := 3) Try.underlying130 (zeroI w') (keyI (k : Int) ⟨by omega, by omega⟩)
              rw [h2, htl.out] at this
              exact this
            have BXw : Hid (Fr [G7] wo X [G7]) := FQ.out.trans (Fr.below dX)
            have X7 : Hid (X.heap[G7]? = some (.cells #[.bool (behindP S Hs k), .bool (aheadP S Hs)] 81 (0, 0))) := (dX.block G7 (lt_of_blk Q7.out)).trans Q7.out
            have hbs : Hid (behindP S Hs (k + 1) = (behindP S Hs k || decide (tl < (L : Int)))) := by
              show (behindP S Hs k || decide (told Hs (k : Int) < ((ofA S (k : Int)).length : Nat))) = _
              rw [hL.out, htl.out]
            clear hv hrow BX BQ dX
            refine wp_region_noPanic ?_
            refine wp_region_held_drew (S := fun w' => Below X.heap.size X w') (by kernel_rfl) (by rw [← hX.out]; exact Below.refl _ _) (fun hS => ?_)
            rw [← hX.out]
            clear hS
            have hS : Below X.heap.size X X := Below.refl _ _
            refine wpAnyH_take (i := 0) (v := ?v0) rfl (by kernel_rfl) (by kernel_rfl) (by kernel_rfl) (fun _ _ _ h => h) (Or.inl ⟨by rfl, ?hy0⟩) hS ?rest0
            case hy0 => (intro w' hSw; go_simp; first | done | with_reducible rfl)
            try simp only [Act.put, List.getElem_toArray, List.getElem_cons_zero, List.getElem_cons_succ, List.setIfInBounds_toArray, List.set_cons_zero, List.set_cons_succ]
            refine wpAnyH_take (i := 1) (v := ?v1) rfl (by kernel_rfl) (by kernel_rfl) (by kernel_rfl) (fun _ _ _ h => h) (Or.inl ⟨by rfl, ?hy1⟩) hS ?rest1
            case hy1 => (intro w' hSw; go_simp; first | done | with_reducible rfl)
            try simp only [Act.put, List.getElem_toArray, List.getElem_cons_zero, List.getElem_cons_succ, List.setIfInBounds_toArray, List.set_cons_zero, List.set_cons_succ]
            refine wpAnyH_take (i := 2) (v := ?v2) rfl (by kernel_rfl) (by kernel_rfl) (by kernel_rfl) (fun _ _ _ h => h) (Or.inl ⟨by rfl, ?hy2⟩) hS ?rest2
            case hy2 => (intro w' hSw; go_simp; first | done | with_reducible rfl)
            try simp only [Act.put, List.getElem_toArray, List.getElem_cons_zero, List.getElem_cons_succ, List.setIfInBounds_toArray, List.set_cons_zero, List.set_cons_succ]
            refine wpAnyH_take (i := 3) (v := .map (some bb)) rfl (by kernel_rfl) (by kernel_rfl) (by kernel_rfl) (fun _ _ _ h => h) (Or.inl ⟨by rfl, ?hy3⟩) hS ?rest3
            case hy3 => (intro w' hSw; have c0 := HC.out w' hSw; go_simp; first | done | with_reducible rfl)
            try simp only [Act.put, List.getElem_toArray, List.getElem_cons_zero, List.getElem_cons_succ, List.setIfInBounds_toArray, List.set_cons_zero, List.set_cons_succ]
            refine wpAnyH_take (i := 4) (v := ?v4) rfl (by kernel_rfl) (by kernel_rfl) (by kernel_rfl) (fun _ _ _ h => h) (Or.inl ⟨by rfl, ?hy4⟩) hS ?rest4
            case hy4 => (intro w' hSw; go_simp; first | done | with_reducible rfl)
            try simp only [Act.put, List.getElem_toArray, List.getElem_cons_zero, List.getElem_cons_succ, List.setIfInBounds_toArray, List.set_cons_zero, List.set_cons_succ]
            refine wpAnyH_take (i := 5) (v := .slice RA L rc) rfl (by kernel_rfl) (by kernel_rfl) (by kernel_rfl) (fun _ _ _ h => h) (Or.inl ⟨by rfl, ?hy5⟩) hS ?rest5
            case hy5 => (intro w' hSw; have l0 := HLk.out w' hSw; go_simp; first | done | with_reducible rfl)
            try simp only [Act.put, List.getElem_toArray, List.getElem_cons_zero, List.getElem_cons_succ, List.setIfInBounds_toArray, List.set_cons_zero, List.set_cons_succ]
            refine wpAnyH_take (i := 6) (v := ?v6) rfl (by kernel_rfl) (by kernel_rfl) (by kernel_rfl) (fun _ _ _ h => h) (Or.inl ⟨by rfl, ?hy6⟩) hS ?rest6
            case hy6 => (intro w' hSw; go_simp; first | done | with_reducible rfl)
            try simp only [Act.put, List.getElem_toArray, List.getElem_cons_zero, List.getElem_cons_succ, List.setIfInBounds_toArray, List.set_cons_zero, List.set_cons_succ]
            refine wpAnyH_take (i := 7) (v := ?v7) rfl (by kernel_rfl) (by kernel_rfl) (by kernel_rfl) (fun _ _ _ h => h) (Or.inl ⟨by rfl, ?hy7⟩) hS ?rest7
            case hy7 => (intro w' hSw; go_simp; first | done | with_reducible rfl)
            try simp only [Act.put, List.getElem_toArray, List.getElem_cons_zero, List.getElem_cons_succ, List.setIfInBounds_toArray, List.set_cons_zero, List.set_cons_succ]
            refine wpAnyH_take (i := 8) (v := ?v8) rfl (by kernel_rfl) (by kernel_rfl) (by kernel_rfl) (fun _ _ _ h => h) (Or.inl ⟨by rfl, ?hy8⟩) hS ?rest8
            case hy8 => (intro w' hSw; go_simp; first | done | with_reducible rfl)
            try simp only [Act.put, List.getElem_toArray, List.getElem_cons_zero, List.getElem_cons_succ, List.setIfInBounds_toArray, List.set_cons_zero, List.set_cons_succ]
            refine wpAnyH_take (i := 9) (v := .int .i64 tl) rfl (by kernel_rfl) (by kernel_rfl) (by kernel_rfl) (fun _ _ _ h => h) (Or.inl ⟨by rfl, ?hy9⟩) hS ?rest9
            case hy9 => (intro w' hSw; have l0 := HLt.out w' hSw; go_simp; first | done | with_reducible rfl)
            try simp only [Act.put, List.getElem_toArray, List.getElem_cons_zero, List.getElem_cons_succ, List.setIfInBounds_toArray, List.set_cons_zero, List.set_cons_succ]
            refine wpAnyH_take (i := 10) (v := .bool (decide (tl < (L : Int)))) rfl (by kernel_rfl) (by kernel_rfl) (by kernel_rfl) (fun _ _ _ h => h) (Or.inl ⟨by rfl, ?hy10⟩) hS ?rest10
            case hy10 => (intro w' hSw; go_simp; first | done | with_reducible rfl)
            try simp only [Act.put, List.getElem_toArray, List.getElem_cons_zero, List.getElem_cons_succ, List.setIfInBounds_toArray, List.set_cons_zero, List.set_cons_succ]
            refine wpAnyH_done (by kernel_rfl) (NoPanic.normal ?_) _
            by_cases hgt : tl < (L : Int)
            · have hbt : Hid (behindP S Hs (k + 1) = true) := by unfold Hid; rw [hbs.out, decide_eq_true hgt, Bool.or_true]
              have x0 := cell_blk X7.out 1 rfl
              go_wp2_with (refine wpList_store_row rfl 81 (.tmp 7) (.tmp 77) rfl G7 #[.bool true, .bool (aheadP S Hs)] rfl (by first | rfl | kernel_rfl) _ _ X7.out (by kernel_rfl) rfl (by kernel_rfl) ?_)
              obtain ⟨Z, hZ⟩ : ∃ Z, Hid (Z = X.setRow G7 #[.bool true, .bool (aheadP S Hs)]) := ⟨_, Lib.hid rfl⟩
              rw [← hZ.out]
              have Z7 : Hid (Z.heap[G7]? = some (.cells #[.bool (behindP S Hs (k + 1)), .bool (aheadP S Hs)] 81 (0, 0))) := by rw [hbt.out, hZ.out]; exact setRow_heap _ _ _ _ _ _ X7.out
              have FZ : Hid (Fr [G7] wo Z [G7]) := BXw.out.trans (by rw [hZ.out]; exact setRow_fr _ _ _)
              go_roundw
              case rel => exact ⟨k + 1, by go_num, by omega, FZ, Z7⟩
              case measure => simp only [intOf]; omega
            · have hbt : Hid (behindP S Hs (k + 1) = behindP S Hs k) := by unfold Hid; rw [hbs.out, decide_eq_false hgt, Bool.or_false]
              go_wp2_with fail
              go_roundw
              case rel => exact ⟨k + 1, by go_num, by omega, BXw, by rw [hbt.out]; exact X7⟩
              case measure => simp only [intOf]; omega
          · have hkS : Hid (k = 5) := (by omega : k = 5)
            have hk' : ¬ (k : Int) < 5 := by omega
            rw [hkS.out] at Q7
            have x0 := cell_blk Q7.out 0 rfl
            have x1 := cell_blk Q7.out 1 rfl
            have Q0 : Hid (wr.heap[G]? = some (.cells #[.bool false, .bool false] 81 (0, 0))) := (FQ.out.block G (lt_of_blk R2.out) (by have := lt_of_blk RW.out; have := hWG.out; simp; omega)).trans R2.out
            have q0 := Q0.out
            go_wp2_with (refine wpList_store_row rfl 81 (.tmp 4) (.tmp 79) rfl G #[.bool (behindP S Hs 5), .bool (aheadP S Hs)] rfl (by first | rfl | kernel_rfl) _ _ q0 (by kernel_rfl) rfl (by kernel_rfl) ?_)
            generalize hZ : World.setRow _ _ _ = Z
            have Zg : Z.heap[G]? = some (.cells #[.bool (behindP S Hs 5), .bool (aheadP S Hs)] 81 (0, 0)) := by rw [← hZ]; exact setRow_heap _ _ _ _ _ _ q0
            have FZ : Fr [G] wr Z [G] := by rw [← hZ]; exact setRow_fr _ _ _
            have hBq : Below W.heap.size W wr := hb.out.trans (FQ.out.toBelow (fun k hk => by simp at hk; rw [hk]; exact hWG.out) hb.out.size)
            have BZ : Below w.heap.size w Z := (BW.out.trans (hBq.mono BW.out.size)).trans (FZ.toBelow (fun k hk => by simp at hk; rw [hk, hG.out]; exact Nat.le_refl _) (Nat.le_trans BW.out.size hBq.size))
            have hOZ := (hO.out.kept (row := some G7) ⟨FQ.out.os, FQ.out.tape, FQ.out.output, FQ.out.size, fun k hk hn => FQ.out.block k hk (by simp; intro e; exact hn (by rw [e]))⟩ (Or.inr (fun e => by
              rcases hO.out.2 with ⟨hv, _⟩ | ⟨g', cap, cur, hv, hb', _⟩
              · rw [hv] at e; simp [Value.ownBlock] at e
              · rw [hv] at e; simp [Value.ownBlock] at e; omega))).kept (row := some G) ⟨FZ.os, FZ.tape, FZ.output, FZ.size, fun k hk hn => FZ.block k hk (by simp; intro e; exact hn (by rw [e]))⟩ (Or.inr (fun e => by
              have hWG' := hWG.out
              have hGW' := lt_of_blk RW.out
              rcases hO.out.2 with ⟨hv, _⟩ | ⟨g', cap, cur, hv, hb', _⟩
              · rw [hv] at e; simp [Value.ownBlock] at e
              · rw [hv] at e; simp [Value.ownBlock] at e; omega))
            refine bodyPost_ret (v := .tuple #[.agg #[.bool (behindP S Hs 5), .bool (aheadP S Hs)], .slice F m d, .int .i64 0]) (results_cell_tmp2 Try.results42 rfl (run_loadVar_mid (P := Try.prog) Z G 0 81 _ _ (range_of Zg) Try.underlying81 rfl (by kernel_rfl))) rfl ?_
            rw [cB.out, cA.out, cF.out, cE.out]
            exact ⟨F, m, d, rfl, Rd.of_own hOZ, hFl.out, own_cap hOZ, BZ⟩
  · have hvf : validV Hs = false := by simpa using hva
    rw [hvf]
    have cB : cmpB S Hs = false := by unfold cmpB; rw [hvf]; rfl
    have cA : cmpA S Hs = false := by unfold cmpA; rw [hvf]; rfl
    have cF : cmpF S Hs = [] := by unfold cmpF; rw [hvf]; rfl
    have cE : cmpE Hs = 1 := by unfold cmpE; rw [hvf]; rfl
    have hr0 := R1.out
    go_wp2_with (refine wpList_store_row rfl 81 (.tmp 4) (.tmp 22) rfl G #[.bool false, .bool false] rfl (by first | rfl | kernel_rfl) _ _ hr0 (by kernel_rfl) rfl (by kernel_rfl) ?_)
    rw [Exit.noGoto_ret]
    generalize hZ : World.setRow _ _ _ = Z
    have Zg : Z.heap[G]? = some (.cells #[.bool false, .bool false] 81 (0, 0)) := by rw [← hZ]; exact setRow_heap _ _ _ _ _ _ hr0
    have BZ : Below w.heap.size w Z := by rw [← hZ]; exact below_setRow (BW.out.trans (B1.out.mono BW.out.size)) (by rw [hG.out]; exact Nat.le_refl _) _
    refine bodyPost_ret (v := .tuple #[.agg #[.bool false, .bool false], .slice none 0 0, .int .i64 1]) (results_cell_tmp2 Try.results42 rfl (run_loadVar_mid (P := Try.prog) Z G 0 81 _ _ (range_of Zg) Try.underlying81 rfl (by kernel_rfl))) rfl ?_
    rw [cB, cA, cF, cE]
    exact ⟨none, 0, 0, rfl, Rd.nil _ _ _ _, rfl, Nat.le_refl _, BZ⟩
end Go.Proofs.Ytabcbpcfleociaa
