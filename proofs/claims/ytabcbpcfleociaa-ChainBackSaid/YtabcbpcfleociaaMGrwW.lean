/- The plain law of growing; Head clear of blocks; before. -/
import Derived.Test.YtabcbpcfleociaaMFrkW
import Derived.Test.YtabcbpcfleociaaMPv
import Derived.Test.YtabcbpcfleociaaMPlc
import Derived.Test.YtabcbpcfleociaaMClnW
import Derived.Test.YtabcbpcfleociaaMPlyW
namespace Go.Proofs.Ytabcbpcfleociaa
open Go.RowKit Go.Maps
attribute [local go_sem ↓] Go.wp_at_zero Go.wp_at_succ
set_option linter.unusedSimpArgs false
set_option linter.unusedVariables false
theorem checkE_zero2 {S : Bk} {hs : List (List UInt8)} {l : Ln} (h : checkE S hs l = 0) : lastDg (ofA S l.au) = l.pv ∧ lastEp (ofA S l.au) ≤ l.ep := by
  obtain ⟨hr, hs1⟩ := checkE_zero h
  rw [checkE_next hr hs1] at h
  by_cases h1 : lastDg (ofA S l.au) = l.pv
  · rw [if_pos h1] at h
    by_cases h2 : l.ep < lastEp (ofA S l.au)
    · rw [if_pos h2] at h; cases h
    · exact ⟨h1, by omega⟩
  · rw [if_neg h1] at h; cases h
/-- Epochs never fall. -/
def Mono (S : Bk) : Prop := ∀ (a : Int) (i : Nat) (k k' : Kn), (ofA S a)[i]? = some k → (ofA S a)[i + 1]? = some k' → k.ep ≤ k'.ep
theorem Mono.take {S : Bk} (h : Mono S) (hs : List (List UInt8)) (l : Ln) : Mono (takeS S hs l) := by
  unfold takeS
  split
  · rename_i hE
    intro a i k k' h1 h2
    rw [ofA_app, ofA_one] at h1 h2
    by_cases ha : l.au = a
    · rw [if_pos ha] at h1 h2
      have hl2 : i + 1 < (ofA S a ++ [knL hs l]).length := (List.getElem?_eq_some_iff.1 h2).1
      rw [List.length_append, List.length_singleton] at hl2
      rw [List.getElem?_append_left (by omega)] at h1
      rcases Nat.lt_or_ge (i + 1) (ofA S a).length with h3 | h3
      · rw [List.getElem?_append_left h3] at h2
        exact h a i k k' h1 h2
      · rw [List.getElem?_append_right h3] at h2
        have hz : i + 1 - (ofA S a).length = 0 := by omega
        rw [hz] at h2
        simp at h2
        have he := (checkE_zero2 hE).2
        rw [ha] at he
        have hk : lastEp (ofA S a) = k.ep := by
          unfold lastEp
          rw [List.getLast?_eq_getElem?, show (ofA S a).length - 1 = i by omega, h1]
          rfl
        rw [← h2]
        show k.ep ≤ l.ep
        omega
    · rw [if_neg ha, List.append_nil] at h1 h2
      exact h a i k k' h1 h2
  · exact h
theorem Reach.mono {n : Nat} {S : Bk} {hs : List (List UInt8)} (h : Reach n S hs) : Mono S := by
  induction h with
  | nil => intro a i k k' h1 _; simp [ofA] at h1
  | step l h ih => exact ih.take _ _
theorem checkE_again (S : Bk) (hs : List (List UInt8)) (l : Ln) : checkE S (checkH S hs l) l = checkE S hs l := by
  have e : digL (checkH S hs l) l = digL hs l := by
    unfold checkH
    split
    · rw [digL, digL, note_idx]
    · rfl
  unfold checkE
  rw [e]
theorem checkH_again (S : Bk) (hs : List (List UInt8)) (l : Ln) : checkH S (checkH S hs l) l = checkH S hs l := by
  by_cases h : rightL l ∧ l.sq ≤ (ofA S l.au).length
  · have e1 : checkH S hs l = note hs (bytesL l) := if_pos h
    have e2 : checkH S (note hs (bytesL l)) l = note (note hs (bytesL l)) (bytesL l) := if_pos h
    rw [e1, e2]
    exact if_pos (note_mem _ _)
  · have e1 : checkH S hs l = hs := if_neg h
    rw [e1, e1]
/-- What a step does to an author's links. -/
theorem grow_or (S : Bk) (hs : List (List UInt8)) (l : Ln) (a : Int) : ofA (takeS S (checkH S hs l) l) a = ofA S a ∨ (a = l.au ∧ checkE S hs l = 0 ∧ l.sq = ((ofA S a).length : Int) + 1 ∧ lastDg (ofA S a) = l.pv ∧ ∃ k, ofA (takeS S (checkH S hs l) l) a = ofA S a ++ [k]) := by
  by_cases h : checkE S (checkH S hs l) l = 0
  · have h0 := h
    rw [checkE_again] at h0
    have e : takeS S (checkH S hs l) l = S ++ [(l.au, knL (checkH S hs l) l)] := if_pos h
    rw [e, ofA_app, ofA_one]
    by_cases ha : l.au = a
    · subst ha
      rw [if_pos rfl]
      exact Or.inr ⟨rfl, h0, (checkE_zero h0).2, (checkE_zero2 h0).1, _, rfl⟩
    · rw [if_neg ha, List.append_nil]
      exact Or.inl rfl
  · have e : takeS S (checkH S hs l) l = S := if_neg h
    rw [e]
    exact Or.inl rfl
theorem grow_at (S : Bk) (hs : List (List UInt8)) (l : Ln) (a : Int) {j : Nat} (hj : j < (ofA S a).length) : atK (takeS S (checkH S hs l) l) a ((j + 1 : Nat) : Int) = atK S a ((j + 1 : Nat) : Int) := by
  have hn : ¬ ((j + 1 : Nat) : Int) < 1 := by omega
  have ej : (((j + 1 : Nat) : Int) - 1).toNat = j := by omega
  unfold atK
  rw [if_neg hn, if_neg hn, ej]
  rcases grow_or S hs l a with h | ⟨_, _, _, _, k, h⟩
  · rw [h]
  · rw [h, List.getElem?_append_left hj]
theorem mono_at {S : Bk} (hm : Mono S) (hS : S.ok) (a : Int) {j : Nat} (hj : j + 1 < (ofA S a).length) : atE S a ((j + 1 : Nat) : Int) ≤ atE S a ((j + 1 + 1 : Nat) : Int) := by
  have h1 : (ofA S a)[j]? = some (ofA S a)[j] := List.getElem?_eq_getElem (by omega)
  have h2 : (ofA S a)[j + 1]? = some (ofA S a)[j + 1] := List.getElem?_eq_getElem hj
  have e1 : atE S a ((j + 1 : Nat) : Int) = (ofA S a)[j].ep := by
    unfold atE atK
    rw [if_neg (by omega), show (((j + 1 : Nat) : Int) - 1).toNat = j by omega, h1]; rfl
  have e2 : atE S a ((j + 1 + 1 : Nat) : Int) = (ofA S a)[j + 1].ep := by
    unfold atE atK
    rw [if_neg (by omega), show (((j + 1 + 1 : Nat) : Int) - 1).toNat = j + 1 by omega, h2]; rfl
  rw [e1, e2]
  exact hm a j _ _ h1 h2
theorem head_anyN (g : Nat) (S : Bk) (own R : List Nat) (a : Int) (no : List Nat) (w : World) (hB : BookAt w g S own R) (hno : ∀ k, k ∈ no → k < w.heap.size) :
    Calls Try.prog 18 #[.pointer (some ⟨g, 0, none⟩), .int .i64 a] w fun e w' => ∃ A m c, e = .returned (.agg #[.int .i64 (hau a), .int .i64 (ofA S a).length, .slice A m c]) ∧ RdN no w' 1 A m ((lastDg (ofA S a)).map B8) ∧ Below w.heap.size w w' := by
  by_cases h : 0 ≤ a ∧ a < 5
  · refine (head_in g S own R a w hB h.1 h.2).mono ?_
    rintro e w' ⟨A, m, c, rfl, _, ho, hb⟩
    exact ⟨A, m, c, by rw [hau, if_pos h], ho.rdNo hno, hb⟩
  · refine (head_off _ a w (Or.inr (by omega))).mono ?_
    rintro e w' ⟨rfl, hb⟩
    have hz := hB.ok.out h
    exact ⟨none, 0, 0, by rw [hau, if_neg h, hz]; rfl, by rw [hz]; exact RdN.nil _ _ _, hb⟩
set_option maxHeartbeats 1000000 in
theorem before_ (g : Nat) (S : Bk) (own R : List Nat) (a q q1 : Int) (w : World) (hB : BookAt w g S own R) (ha : inI a) (hq : IntKind.i64.wrap (q - 1) = q1) :
    Calls Try.prog 24 #[.pointer (some ⟨g, 0, none⟩), .int .i64 a, .int .i64 q] w fun e w' => e = .returned (.int .i64 (atE S a q1)) ∧ Below w.heap.size w w' := by
  go_enter Try.func24, Try.ntmps24
  go_wp2_with fail
  refine (at_any g S own R a q1 w hB ha).mono ?_
  rintro e w' ⟨A, m, c, rfl, _, hb⟩
  go_wp2_with fail
  go_ret
  exact ⟨rfl, hb⟩
end Go.Proofs.Ytabcbpcfleociaa

/- The law's step where the ideal suite has looked at the link already. (Printed by gen_plg.py.) -/
namespace Go.Proofs.Ytabcbpcfleociaa
open Go.RowKit
attribute [local go_sem ↓] Go.wp_at_zero Go.wp_at_succ
set_option linter.unusedSimpArgs false
set_option linter.unusedVariables false
/-- The document's side of the law's pair. -/
structure PlayV (w : World) (B : Nat) (p : Pl) (S : Bk) (hs : List (List UInt8)) (X : List Nat) : Prop where
  rk : RkN (p.ob ++ p.oi ++ X) w p.A p.n S
  vt : VtN (p.ob ++ p.oi ++ X) w p.V p.vn hs
  vc : p.vn ≤ p.vc
  lo : ∀ k, k ∈ p.ob ++ p.oi → B ≤ k
theorem PlayV.below {w w' : World} {B : Nat} {p : Pl} {S : Bk} {hs : List (List UInt8)} {X : List Nat} (h : PlayV w B p S hs X) (hb : Below w.heap.size w w') : PlayV w' B p S hs X :=
  ⟨h.rk.below hb, h.vt.below hb, h.vc, h.lo⟩
theorem PairAt.ltall {w : World} {gb gi : Nat} {S : Bk} {hs : List (List UInt8)} {ob oi X : List Nat} (h : PairAt w gb gi S hs ob oi X) : ∀ k, k ∈ ob ++ oi ++ X → k < w.heap.size := by
  intro k hk
  rcases List.mem_append.1 hk with h1 | h1
  · rcases List.mem_append.1 h1 with h2 | h2
    · exact h.bk.lt k h2
    · exact note_lt h.id k h2
  · exact h.xl k h1
set_option maxRecDepth 20000 in
set_option maxHeartbeats 8000000 in
theorem does2_ (B : Nat) (p : Pl) (S : Bk) (hs : List (List UInt8)) (X : List Nat) (l : Ln) (nx : Bool) (pA : Option Addr) (pn pc : Nat) (bA : Option Addr) (bn bc : Nat) (w : World) (hsI : List (List UInt8)) (HPR0 : PairAt w p.gb p.gi S hsI p.ob p.oi X) (H : PlayV w B p S hs X) (hI1 : checkE S hsI (linkL S l nx) = checkE S hs (linkL S l nx)) (hI2 : checkH S hsI (linkL S l nx) = checkH S hs (linkL S l nx)) (hIL : hsI.length ≤ 999998) (hok : S.ok) (hBw : B ≤ w.heap.size)
    (hp : RdN (p.ob ++ p.oi ++ X) w 1 pA pn (l.pv.map B8)) (hb : RdN (p.ob ++ p.oi ++ X) w 1 bA bn (l.bd.map B8)) (hn : p.n ≤ 99999) (hvn : p.vn ≤ 999998) (hpn : pn ≤ 140737488351232) (hbn : bn ≤ 140737488351232) :
    Calls Try.prog 19 #[plV p, doV l nx pA pn pc bA bn bc] w fun e w' => ∃ p', e = .returned (.tuple #[plV p', .bool true]) ∧ Play w' B p' (takeS S (checkH S hs (linkL S l nx)) (linkL S l nx)) (takeH S (checkH S hs (linkL S l nx)) (linkL S l nx)) X ∧ p'.gb = p.gb ∧ p'.gi = p.gi ∧ Fr (p.ob ++ p.oi) w w' (p'.ob ++ p'.oi) := by
  obtain ⟨W, hW⟩ : ∃ W, Hid (W = (((w.alloc (.cells #[.pointer (some ⟨p.gb, 0, none⟩), .pointer (some ⟨p.gi, 0, none⟩), .slice p.A p.n p.c, .slice p.V p.vn p.vc, .int .i64 0] 35)).alloc (.cells #[.int .i64 l.au, .int .i64 l.sq, .int .i64 l.ep, .slice pA pn pc, .slice bA bn bc, .bool nx] 42)).alloc (.cells #[.pointer none, .pointer none, .slice none 0 0, .slice none 0 0, .int .i64 0] 35))) := ⟨_, Lib.hid rfl⟩
  have hs1 : (w.alloc (.cells #[.pointer (some ⟨p.gb, 0, none⟩), .pointer (some ⟨p.gi, 0, none⟩), .slice p.A p.n p.c, .slice p.V p.vn p.vc, .int .i64 0] 35)).heap.size = w.heap.size + 1 := szAlloc _ _
  have hs2 : ((w.alloc (.cells #[.pointer (some ⟨p.gb, 0, none⟩), .pointer (some ⟨p.gi, 0, none⟩), .slice p.A p.n p.c, .slice p.V p.vn p.vc, .int .i64 0] 35)).alloc (.cells #[.int .i64 l.au, .int .i64 l.sq, .int .i64 l.ep, .slice pA pn pc, .slice bA bn bc, .bool nx] 42)).heap.size = w.heap.size + 2 := by rw [szAlloc, hs1]
  obtain ⟨G, hG⟩ : ∃ g, Hid (g = w.heap.size) := ⟨_, Lib.hid rfl⟩
  have hWs : Hid (W.heap.size = G + 3) := by unfold Hid; rw [hW.out, szAlloc, hs2, hG.out]
  have BW : Hid (Below w.heap.size w W) := by rw [hW.out]; exact (((Below.refl _ _).alloc (Nat.le_refl _) _).alloc (by rw [hs1]; omega) _).alloc (by rw [hs2]; omega) _
  have R0 : Hid (W.heap[G]? = some (.cells #[.pointer (some ⟨p.gb, 0, none⟩), .pointer (some ⟨p.gi, 0, none⟩), .slice p.A p.n p.c, .slice p.V p.vn p.vc, .int .i64 0] 35 (0, 0))) := by unfold Hid; rw [hW.out, hG.out]; exact (heap_alloc_old _ _ (by rw [hs2]; omega)).trans ((heap_alloc_old _ _ (by rw [hs1]; omega)).trans (heap_alloc_new _ _))
  have R1 : Hid (W.heap[G + 1]? = some (.cells #[.int .i64 l.au, .int .i64 l.sq, .int .i64 l.ep, .slice pA pn pc, .slice bA bn bc, .bool nx] 42 (0, 0))) := by unfold Hid; rw [hW.out, hG.out]; exact (heap_alloc_old _ _ (by rw [hs2]; omega)).trans (by rw [← hs1]; exact heap_alloc_new _ _)
  have R2 : Hid (W.heap[G + 2]? = some (.cells #[.pointer none, .pointer none, .slice none 0 0, .slice none 0 0, .int .i64 0] 35 (0, 0))) := by unfold Hid; rw [hW.out, hG.out, ← hs2]; exact heap_alloc_new _ _
  have HPl : Hid (PlayV W B p S hs X) := H.below BW.out
  have HI1 := Lib.hid hI1
  have HI2 := Lib.hid hI2
  have HIL := Lib.hid hIL
  have HPR := Lib.hid HPR0
  have up : ∀ k, k ∈ (G :: (G + 2) :: (p.ob ++ p.oi ++ X)) → k ∈ p.ob ++ p.oi ++ X ∨ w.heap.size ≤ k := fun k hk => by
    simp only [List.mem_cons] at hk
    rcases hk with h | h | h
    · exact Or.inr (by rw [h, hG.out]; omega)
    · exact Or.inr (by rw [h, hG.out]; omega)
    · exact Or.inl h
  have HP := Lib.hid (hp.fr (own := []) (own' := []) (Fr.below BW.out) (fun _ h => absurd h (by simp)) up)
  have HB := Lib.hid (hb.fr (own := []) (own' := []) (Fr.below BW.out) (fun _ h => absurd h (by simp)) up)
  have HK := Lib.hid (H.rk.fr (own := []) (own' := []) (Fr.below BW.out) (fun _ h => absurd h (by simp)) up)
  have HV := Lib.hid (H.vt.fr (own := []) (own' := []) (Fr.below BW.out) (fun _ h => absurd h (by simp)) up)
  have HNO : Hid (∀ k, k ∈ (G :: (G + 2) :: (p.ob ++ p.oi ++ X)) → k < W.heap.size) := fun k hk => by
    have h5 := hWs.out
    rcases up k hk with h | h
    · exact Nat.lt_of_lt_of_le (HPR0.ltall k h) BW.out.size
    · simp only [List.mem_cons] at hk
      rcases hk with h | h | h
      · omega
      · omega
      · exact Nat.lt_of_lt_of_le (HPR0.ltall k h) BW.out.size
  have HN := Lib.hid hn
  have HVN := Lib.hid hvn
  have HPN := Lib.hid hpn
  have HBN := Lib.hid hbn
  have HOK := Lib.hid hok
  have HBw := Lib.hid hBw
  have hlo : Hid (∀ k, k ∈ (p.ob ++ p.oi ++ X) → k < w.heap.size) := HPR0.ltall
  have x0 := cell_blk R0.out 0 rfl
  have x1 := cell_blk R0.out 1 rfl
  have x2 := cell_blk R0.out 2 rfl
  have x3 := cell_blk R0.out 3 rfl
  have x4 := cell_blk R0.out 4 rfl
  have y0 := cell_blk R1.out 0 rfl
  have y1 := cell_blk R1.out 1 rfl
  have y2 := cell_blk R1.out 2 rfl
  have y3 := cell_blk R1.out 3 rfl
  have y4 := cell_blk R1.out 4 rfl
  have y5 := cell_blk R1.out 5 rfl
  rw [hW.out, hG.out] at x0 x1 x2 x3 x4 y0 y1 y2 y3 y4 y5
  clear H HPR0 hI1 hI2 hIL hp hb hn hvn hpn hbn hok hBw hs1 hs2 up
  go_enter Try.func19, Try.ntmps19
  unfold plV doV
  go_wp2_with fail
  rw [← hW.out, ← hG.out]
  clear x0 x1 x2 x3 x4 y0 y1 y2 y3 y4 y5
  refine (link_ p S l nx pA pn pc bA bn bc (G :: (G + 2) :: (p.ob ++ p.oi ++ X)) W HK.out HOK.out HP.out HB.out (by have := HN.out; omega) HPN.out HBN.out HNO.out).mono ?_
  rintro e u1 ⟨A1, n1, c1, A2, c2, rfl, hc1, hc2, hr1, hr2, b1⟩
  obtain ⟨l2, hl2⟩ : ∃ l2, Hid (linkL S l nx = l2) := ⟨_, Lib.hid rfl⟩
  rw [hl2.out] at hr1 hr2 HI1 HI2 ⊢
  have B1 := Lib.hid b1
  have P1 := Lib.hid hr1
  have Q1 := Lib.hid hr2
  have C2 := Lib.hid hc2
  clear b1 hr1 hr2 hc1 hc2
  obtain ⟨U1, hU1⟩ : ∃ W0, Hid (W0 = u1.alloc (.cells #[.int .i64 l2.au, .int .i64 l2.sq, .int .i64 l2.ep, .slice A1 n1 c1, .slice A2 bn c2] 40)) := ⟨_, Lib.hid rfl⟩
  obtain ⟨g6, hg6⟩ : ∃ q, Hid (q = u1.heap.size) := ⟨_, Lib.hid rfl⟩
  have bU1 : Below u1.heap.size u1 U1 := by rw [hU1.out]; exact (Below.refl _ _).alloc (Nat.le_refl _) _
  have BU1 := Lib.hid (B1.out.trans (bU1.mono B1.out.size))
  have R6 : Hid (U1.heap[g6]? = some (.cells #[.int .i64 l2.au, .int .i64 l2.sq, .int .i64 l2.ep, .slice A1 n1 c1, .slice A2 bn c2] 40 (0, 0))) := by unfold Hid; rw [hU1.out, hg6.out]; exact heap_alloc_new _ _
  have hg6G : Hid (G + 3 ≤ g6) := by unfold Hid; rw [hg6.out, ← hWs.out]; exact B1.out.size
  have U0 : Hid (U1.heap[G]? = some (.cells #[.pointer (some ⟨p.gb, 0, none⟩), .pointer (some ⟨p.gi, 0, none⟩), .slice p.A p.n p.c, .slice p.V p.vn p.vc, .int .i64 0] 35 (0, 0))) := (BU1.out.block G (by have := hWs.out; omega)).trans R0.out
  have PU1 := Lib.hid (HPl.out.below BU1.out)
  have PP1 := Lib.hid (P1.out.below bU1)
  have QQ1 := Lib.hid (Q1.out.below bU1)
  have x2 := cell_blk U0.out 2 rfl
  have x3 := cell_blk U0.out 3 rfl
  have x4 := cell_blk U0.out 4 rfl
  have y0 := cell_blk R6.out 0 rfl
  have y1 := cell_blk R6.out 1 rfl
  have y2 := cell_blk R6.out 2 rfl
  have y3 := cell_blk R6.out 3 rfl
  have y4 := cell_blk R6.out 4 rfl
  rw [hU1.out, hg6.out] at y0 y1 y2 y3 y4
  rw [hU1.out] at x2 x3 x4
  unfold lnV
  go_wp2_with fail
  rw [← hU1.out, ← hg6.out]
  clear x2 x3 x4 y0 y1 y2 y3 y4 bU1
  refine (refCheck_ p.A p.n p.c p.V p.vn p.vc l2 A1 n1 c1 A2 bn c2 S hs (G :: (G + 2) :: (p.ob ++ p.oi ++ X)) U1 (HK.out.below BU1.out) (HV.out.below BU1.out) PP1.out QQ1.out (by have := HN.out; omega) (by have := HVN.out; omega) PU1.out.vc (fun k hk => Nat.lt_of_lt_of_le (HNO.out k hk) BU1.out.size)).mono ?_
  rintro e u2 ⟨V', vn', vc', rfl, hvc, hvt, b2⟩
  have B2 := Lib.hid b2
  have VT2 := Lib.hid hvt
  have VC2 := Lib.hid hvc
  obtain ⟨E, hE⟩ : ∃ E, Hid (checkE S hs l2 = E) := ⟨_, Lib.hid rfl⟩
  rw [hE.out]
  clear b2 hvt hvc
  obtain ⟨U2, hU2⟩ : ∃ W0, Hid (W0 = u2.alloc (.cells #[.slice V' vn' vc', .int .i64 0] 33)) := ⟨_, Lib.hid rfl⟩
  obtain ⟨g7, hg7⟩ : ∃ q, Hid (q = u2.heap.size) := ⟨_, Lib.hid rfl⟩
  have bU2 : Below u2.heap.size u2 U2 := by rw [hU2.out]; exact (Below.refl _ _).alloc (Nat.le_refl _) _
  have b12 : Hid (Below U1.heap.size U1 U2) := B2.out.trans (bU2.mono B2.out.size)
  have BU2 := Lib.hid (BU1.out.trans (b12.out.mono BU1.out.size))
  have R7 : Hid (U2.heap[g7]? = some (.cells #[.slice V' vn' vc', .int .i64 0] 33 (0, 0))) := by unfold Hid; rw [hU2.out, hg7.out]; exact heap_alloc_new _ _
  have hg67 : Hid (g6 < g7) := by unfold Hid; rw [hg7.out]; exact Nat.lt_of_lt_of_le (lt_of_blk R6.out) B2.out.size
  have S0 : Hid (U2.heap[G]? = some (.cells #[.pointer (some ⟨p.gb, 0, none⟩), .pointer (some ⟨p.gi, 0, none⟩), .slice p.A p.n p.c, .slice p.V p.vn p.vc, .int .i64 0] 35 (0, 0))) := (b12.out.block G (lt_of_blk U0.out)).trans U0.out
  have S6 : Hid (U2.heap[g6]? = some (.cells #[.int .i64 l2.au, .int .i64 l2.sq, .int .i64 l2.ep, .slice A1 n1 c1, .slice A2 bn c2] 40 (0, 0))) := (b12.out.block g6 (lt_of_blk R6.out)).trans R6.out
  have S2 : Hid (U2.heap[G + 2]? = some (.cells #[.pointer none, .pointer none, .slice none 0 0, .slice none 0 0, .int .i64 0] 35 (0, 0))) := (BU2.out.block (G + 2) (by have := hWs.out; omega)).trans R2.out
  have PU2 := Lib.hid (PU1.out.below b12.out)
  have PP2 := Lib.hid (PP1.out.below b12.out)
  have QQ2 := Lib.hid (QQ1.out.below b12.out)
  have VT3 := Lib.hid (VT2.out.below bU2)
  have hVL : Hid (hs.length = p.vn) := PU2.out.vt.len
  have x0 := cell_blk S0.out 0 rfl
  have x1 := cell_blk S0.out 1 rfl
  have y0 := cell_blk S6.out 0 rfl
  have y1 := cell_blk S6.out 1 rfl
  have y2 := cell_blk S6.out 2 rfl
  have y3 := cell_blk S6.out 3 rfl
  have y4 := cell_blk S6.out 4 rfl
  rw [hU2.out] at x0 x1 y0 y1 y2 y3 y4
  go_wp2_with fail
  rw [← hU2.out, ← hg7.out]
  clear x0 x1 y0 y1 y2 y3 y4 bU2
  have BwU2 : Hid (Below w.heap.size w U2) := BW.out.trans (BU2.out.mono BW.out.size)
  have PRX : Hid (PairAt U2 p.gb p.gi S hsI p.ob p.oi (G :: (G + 2) :: g6 :: g7 :: X)) := HPR.out.keep (o2 := []) (o2' := []) (Fr.below BwU2.out) (fun _ h => absurd h (by simp)) (fun k hk => by
    simp only [List.mem_cons] at hk
    have h1 := hG.out
    have h2 := hg6G.out
    have h3 := hg67.out
    rcases hk with h | h | h | h | h
    · exact Or.inr (by omega)
    · exact Or.inr (by omega)
    · exact Or.inr (by omega)
    · exact Or.inr (by omega)
    · exact Or.inl h) (fun k hk => by
    simp only [List.mem_cons] at hk
    rcases hk with h | h | h | h | h
    · rw [h]; exact lt_of_blk S0.out
    · rw [h]; exact lt_of_blk S2.out
    · rw [h]; exact lt_of_blk S6.out
    · rw [h]; exact lt_of_blk R7.out
    · exact Nat.lt_of_lt_of_le (HPR.out.xl k h) BwU2.out.size)
  refine (PRX.out.check l2 A1 n1 c1 A2 bn c2 PP2.out.1 QQ2.out.1 (by have h1 := HIL.out; omega)).mono ?_
  rintro e u3 ⟨oi3, rfl, hpr, hf⟩
  rw [HI2.out] at hpr
  rw [HI1.out]
  have PR3 := Lib.hid hpr
  have F3 := Lib.hid hf
  rw [hE.out]
  clear hpr hf
  have hlt2 : Hid (∀ k, k ∈ p.oi → k < G) := fun k hk => by rw [hG.out]; exact hlo.out k (by simp [hk])
  have T0 : Hid (u3.heap[G]? = some (.cells #[.pointer (some ⟨p.gb, 0, none⟩), .pointer (some ⟨p.gi, 0, none⟩), .slice p.A p.n p.c, .slice p.V p.vn p.vc, .int .i64 0] 35 (0, 0))) := (F3.out.block G (lt_of_blk S0.out) (fun h => Nat.lt_irrefl _ (hlt2.out G h))).trans S0.out
  have T6 : Hid (u3.heap[g6]? = some (.cells #[.int .i64 l2.au, .int .i64 l2.sq, .int .i64 l2.ep, .slice A1 n1 c1, .slice A2 bn c2] 40 (0, 0))) := (F3.out.block g6 (lt_of_blk S6.out) (fun h => by have h1 := hlt2.out g6 h; have h2 := hg6G.out; omega)).trans S6.out
  have T7 : Hid (u3.heap[g7]? = some (.cells #[.slice V' vn' vc', .int .i64 0] 33 (0, 0))) := (F3.out.block g7 (lt_of_blk R7.out) (fun h => by have h1 := hlt2.out g7 h; have h2 := hg6G.out; have h3 := hg67.out; omega)).trans R7.out
  have T2 : Hid (u3.heap[G + 2]? = some (.cells #[.pointer none, .pointer none, .slice none 0 0, .slice none 0 0, .int .i64 0] 35 (0, 0))) := (F3.out.block (G + 2) (lt_of_blk S2.out) (fun h => by have h1 := hlt2.out (G + 2) h; omega)).trans S2.out
  have x2 := cell_blk T0.out 2 rfl
  have x3 := cell_blk T0.out 3 rfl
  have x4 := cell_blk T0.out 4 rfl
  have fz3 := frozen_blk T0.out 3
  have fz4 := frozen_blk T0.out 4
  have z0 := cell_blk T7.out 0 rfl
  have z1 := cell_blk T7.out 1 rfl
  have y0 := cell_blk T6.out 0 rfl
  have y1 := cell_blk T6.out 1 rfl
  have y2 := cell_blk T6.out 2 rfl
  have y3 := cell_blk T6.out 3 rfl
  have y4 := cell_blk T6.out 4 rfl
  have n6 : ¬ g6 = G := by have := hg6G.out; omega
  have n6' : ¬ G = g6 := fun e => n6 e.symm
  go_wp2_with fail
  obtain ⟨u4, hu4⟩ : ∃ W0, Hid (W0 = (u3.setCell ⟨G, 3, none⟩ (.slice V' vn' vc')).setCell ⟨G, 4, none⟩ (.int .i64 0)) := ⟨_, Lib.hid rfl⟩
  rw [← hu4.out]
  have F4 : Hid (Fr [G] u3 u4 [G]) := by rw [hu4.out]; exact (setCell_fr _ _ _ _).trans (setCell_fr _ _ _ _)
  have W0 : Hid (u4.heap[G]? = some (.cells #[.pointer (some ⟨p.gb, 0, none⟩), .pointer (some ⟨p.gi, 0, none⟩), .slice p.A p.n p.c, .slice V' vn' vc', .int .i64 0] 35 (0, 0))) := by unfold Hid; rw [hu4.out]; exact heap_set (heap_set T0.out _) _
  clear x2 x3 x4 fz3 fz4 z0 z1 y0 y1 y2 y3 y4 n6 n6'
  have upT : ∀ k, k ∈ (g7 :: G :: (G + 2) :: (p.ob ++ oi3 ++ X)) → k ∈ (G :: (G + 2) :: (p.ob ++ p.oi ++ X)) ∨ u2.heap.size ≤ k := fun k hk => by
    simp only [List.mem_cons, List.mem_append] at hk
    rcases hk with h | h | h | (h | h) | h
    · exact Or.inr (by rw [h, hg7.out]; exact Nat.le_refl _)
    · exact Or.inl (by simp [h])
    · exact Or.inl (by simp [h])
    · exact Or.inl (by simp [h])
    · rcases F3.out.sub k h with h1 | h1
      · exact Or.inl (by simp [h1])
      · exact Or.inr (Nat.le_trans (by rw [hU2.out, szAlloc]; omega) h1)
    · exact Or.inl (by simp [h])
  have F24 : Hid (Fr (p.oi ++ [G]) u2 u4 (oi3 ++ [G])) := by
    have e0 : Below u2.heap.size u2 U2 := by rw [hU2.out]; exact (Below.refl _ _).alloc (Nat.le_refl _) _
    have h3 := (Fr.below (own := p.oi) e0).trans F3.out
    refine ⟨F4.out.os.trans h3.os, F4.out.tape.trans h3.tape, F4.out.output.trans h3.output, Nat.le_trans h3.size F4.out.size, fun k hk hn => ?_, fun k hk => ?_⟩
    · exact (F4.out.block k (Nat.lt_of_lt_of_le hk h3.size) (fun h => hn (List.mem_append.2 (Or.inr h)))).trans (h3.block k hk (fun h => hn (List.mem_append.2 (Or.inl h))))
    · rcases List.mem_append.1 hk with h | h
      · exact (h3.sub k h).imp (fun h => List.mem_append.2 (Or.inl h)) id
      · exact Or.inl (List.mem_append.2 (Or.inr h))
  have own24 : ∀ k, k ∈ p.oi ++ [G] → k ∈ (G :: (G + 2) :: (p.ob ++ p.oi ++ X)) := fun k hk => by rcases List.mem_append.1 hk with h | h; simp [h]; simp at h; simp [h]
  have B2u : Hid (Below W.heap.size W u2) := BU1.out.trans (B2.out.mono BU1.out.size)
  have RK4 := Lib.hid ((HK.out.below B2u.out).fr F24.out own24 upT)
  have VT4 := Lib.hid (VT2.out.fr F24.out own24 upT)
  have P4 := Lib.hid ((PP1.out.below B2.out).fr F24.out own24 upT)
  have Q4 := Lib.hid ((QQ1.out.below B2.out).fr F24.out own24 upT)
  have hnoT : Hid (∀ k, k ∈ (g7 :: G :: (G + 2) :: (p.ob ++ oi3 ++ X)) → k < u4.heap.size) := fun k hk => by
    have h4 := F4.out.size
    simp only [List.mem_cons, List.mem_append] at hk
    rcases hk with h | h | h | (h | h) | h
    · rw [h]; exact Nat.lt_of_lt_of_le (lt_of_blk T7.out) h4
    · rw [h]; exact Nat.lt_of_lt_of_le (lt_of_blk T0.out) h4
    · rw [h]; exact Nat.lt_of_lt_of_le (lt_of_blk T2.out) h4
    · exact Nat.lt_of_lt_of_le (PR3.out.bk.lt k h) h4
    · exact Nat.lt_of_lt_of_le (note_lt PR3.out.id k h) h4
    · exact Nat.lt_of_lt_of_le (PR3.out.xl k (by simp [h])) h4
  have hv4 : Hid (vn' ≤ 999999) := by have h1 := VT4.out.len; have h2 := checkH_len S hs l2; have h3 := hVL.out; have h4 := HVN.out; unfold Hid; omega
  refine (refTake_ p.A p.n p.c V' vn' vc' l2 A1 n1 c1 A2 bn c2 S (checkH S hs l2) (g7 :: G :: (G + 2) :: (p.ob ++ oi3 ++ X)) u4 RK4.out VT4.out P4.out Q4.out HN.out hv4.out VC2.out C2.out hnoT.out).mono ?_
  rintro e u5 ⟨A5, n5, c5, V5, vn5, vc5, rfl, hrk, hvc5, hvt5, b5⟩
  have B5 := Lib.hid b5
  have RK5 := Lib.hid hrk
  have VT5 := Lib.hid hvt5
  have VC5 := Lib.hid hvc5
  obtain ⟨E2, hE2⟩ : ∃ E, Hid (checkE S (checkH S hs l2) l2 = E) := ⟨_, Lib.hid rfl⟩
  rw [hE2.out]
  clear b5 hrk hvt5 hvc5 upT own24
  have Y7 : Hid (u5.heap[g7]? = some (.cells #[.slice V' vn' vc', .int .i64 0] 33 (0, 0))) := (B5.out.block g7 (Nat.lt_of_lt_of_le (lt_of_blk T7.out) F4.out.size)).trans ((F4.out.block g7 (lt_of_blk T7.out) (by have h1 := hg6G.out; have h2 := hg67.out; simp; omega)).trans T7.out)
  have h7 : ∀ o, (u5.alloc o).heap[g7]? = some (.cells #[.slice V' vn' vc', .int .i64 0] 33 (0, 0)) := fun o => (heap_alloc_old u5 o (lt_of_blk Y7.out)).trans Y7.out
  go_wp2_with (refine wpList_store_row rfl 33 (.tmp 7) (.tmp 41) rfl g7 #[.slice V5 vn5 vc5, .int .i64 0] rfl (by first | rfl | kernel_rfl) _ _ (h7 _) (by kernel_rfl) rfl (by kernel_rfl) ?_)
  obtain ⟨u6, hu6⟩ : ∃ W0, Hid (W0 = (u5.alloc (.cells #[.slice A5 n5 c5] 30)).setRow g7 #[.slice V5 vn5 vc5, .int .i64 0]) := ⟨_, Lib.hid rfl⟩
  obtain ⟨g10, hg10⟩ : ∃ q, Hid (q = u5.heap.size) := ⟨_, Lib.hid rfl⟩
  rw [← hu6.out, ← hg10.out]
  have F56 : Hid (Fr [g7] u5 u6 [g7]) := by rw [hu6.out]; exact (Fr.below ((Below.refl _ _).alloc (Nat.le_refl _) _)).trans (setRow_fr _ _ _)
  have hne7 : ¬ g10 = g7 := by rw [hg10.out]; have := lt_of_blk Y7.out; omega
  have I7 : Hid (u6.heap[g7]? = some (.cells #[.slice V5 vn5 vc5, .int .i64 0] 33 (0, 0))) := by unfold Hid; rw [hu6.out]; exact setRow_heap _ _ _ _ _ _ (h7 _)
  have I10 : Hid (u6.heap[g10]? = some (.cells #[.slice A5 n5 c5] 30 (0, 0))) := by unfold Hid; rw [hu6.out, setRow_other _ _ _ _ hne7, hg10.out]; exact heap_alloc_new _ _
  have hG7 : Hid (G < g7 ∧ G < g10 ∧ G < u5.heap.size) := by have h1 := hg6G.out; have h2 := hg67.out; have h3 := lt_of_blk Y7.out; have h4 := hg10.out; unfold Hid; omega
  have I0 : Hid (u6.heap[G]? = some (.cells #[.pointer (some ⟨p.gb, 0, none⟩), .pointer (some ⟨p.gi, 0, none⟩), .slice p.A p.n p.c, .slice V' vn' vc', .int .i64 0] 35 (0, 0))) := (F56.out.block G hG7.out.2.2 (by have := hG7.out; simp; omega)).trans ((B5.out.block G (lt_of_blk W0.out)).trans W0.out)
  clear h7 hne7
  obtain ⟨X6, hX6⟩ : ∃ W, Hid (W = u6.drew) := ⟨_, Lib.hid rfl⟩
  have dX6 : Below u6.heap.size u6 X6 := by rw [hX6.out]; exact below_drew (Below.refl _ _)
  have J0 : Hid (X6.heap[G]? = some (.cells #[.pointer (some ⟨p.gb, 0, none⟩), .pointer (some ⟨p.gi, 0, none⟩), .slice p.A p.n p.c, .slice V' vn' vc', .int .i64 0] 35 (0, 0))) := (dX6.block G (lt_of_blk I0.out)).trans I0.out
  have SX6 : X6.rangeAt g10 0 [.slice A5 n5 c5] ∧ X6.rangeAt g7 0 [.slice V5 vn5 vc5, .int .i64 0] := ⟨range_keep (range_of I10.out) dX6 (lt_of_blk I10.out), range_keep (range_of I7.out) dX6 (lt_of_blk I7.out)⟩
  have l10 : Hid (g10 < X6.heap.size ∧ g7 < X6.heap.size) := ⟨Nat.lt_of_lt_of_le (lt_of_blk I10.out) dX6.size, Nat.lt_of_lt_of_le (lt_of_blk I7.out) dX6.size⟩
  refine wp_region_noPanic ?_
  refine wp_region_held_drew (S := fun w' => w'.rangeAt g10 0 [.slice A5 n5 c5] ∧ w'.rangeAt g7 0 [.slice V5 vn5 vc5, .int .i64 0]) (by kernel_rfl) (by rw [← hX6.out]; exact SX6) (fun hS => ?_)
  rw [← hX6.out]
  clear hS
  have hS : X6.rangeAt g10 0 [.slice A5 n5 c5] ∧ X6.rangeAt g7 0 [.slice V5 vn5 vc5, .int .i64 0] := SX6
  refine wpAnyH_take (i := 0) (v := .agg #[.slice A5 n5 c5]) rfl (by kernel_rfl) (by kernel_rfl) (by kernel_rfl) (fun _ _ _ h => h) (Or.inl ⟨by rfl, ?hya0⟩) hS ?resta0
  case hya0 => (intro w' hSw; have c0 := hSw.1 0 _ rfl; go_simp; first | done | with_reducible rfl)
  try simp only [Act.put, List.getElem_toArray, List.getElem_cons_zero, List.getElem_cons_succ, List.setIfInBounds_toArray, List.set_cons_zero, List.set_cons_succ]
  refine wpAnyH_take (i := 1) (v := .agg #[.slice V5 vn5 vc5, .int .i64 0]) rfl (by kernel_rfl) (by kernel_rfl) (by kernel_rfl) (fun _ _ _ h => h) (Or.inl ⟨by rfl, ?hya1⟩) hS ?resta1
  case hya1 => (intro w' hSw; have c0 := hSw.2 0 _ rfl; have c1 := hSw.2 1 _ rfl; go_simp; first | done | with_reducible rfl)
  try simp only [Act.put, List.getElem_toArray, List.getElem_cons_zero, List.getElem_cons_succ, List.setIfInBounds_toArray, List.set_cons_zero, List.set_cons_succ]
  refine wpAnyH_take (i := 2) (v := ?va2) rfl (by kernel_rfl) (by kernel_rfl) (by kernel_rfl) (fun _ _ _ h => h) (Or.inl ⟨by rfl, ?hya2⟩) hS ?resta2
  case hya2 => (intro w' hSw; go_simp; first | done | with_reducible rfl)
  try simp only [Act.put, List.getElem_toArray, List.getElem_cons_zero, List.getElem_cons_succ, List.setIfInBounds_toArray, List.set_cons_zero, List.set_cons_succ]
  refine wpAnyH_ready (rs := [3]) (by kernel_rfl) (by simp) ?_
  refine AllReadyH.cons rfl (fun K hK => ?_) AllReadyH.nil
  have s0 := cell_blk J0.out 2 rfl
  have s1 := frozen_blk J0.out 2
  go_simp
  clear s0 s1
  obtain ⟨Y6, hY6⟩ : ∃ W0, Hid (W0 = X6.setCell ⟨G, 2, none⟩ (.slice A5 n5 c5)) := ⟨_, Lib.hid rfl⟩
  rw [← hY6.out]
  have FY6 : Hid (Fr [G] X6 Y6 [G]) := by rw [hY6.out]; exact setCell_fr _ _ _ _
  have K0 : Hid (Y6.heap[G]? = some (.cells #[.pointer (some ⟨p.gb, 0, none⟩), .pointer (some ⟨p.gi, 0, none⟩), .slice A5 n5 c5, .slice V' vn' vc', .int .i64 0] 35 (0, 0))) := by unfold Hid; rw [hY6.out]; exact heap_set J0.out _
  have SY6 : Y6.rangeAt g10 0 [.slice A5 n5 c5] ∧ Y6.rangeAt g7 0 [.slice V5 vn5 vc5, .int .i64 0] := ⟨range_fr SX6.1 FY6.out l10.out.1 (by have := hG7.out; simp; omega), range_fr SX6.2 FY6.out l10.out.2 (by have := hG7.out; simp; omega)⟩
  refine hK.out _ _ SY6 ?_
  intro hS
  clear hK K hS
  try simp only [Act.put, List.getElem_toArray, List.getElem_cons_zero, List.getElem_cons_succ, List.setIfInBounds_toArray, List.set_cons_zero, List.set_cons_succ]
  have hS : Y6.rangeAt g10 0 [.slice A5 n5 c5] ∧ Y6.rangeAt g7 0 [.slice V5 vn5 vc5, .int .i64 0] := SY6
  refine wpAnyH_take (i := 4) (v := ?vb4) rfl (by kernel_rfl) (by kernel_rfl) (by kernel_rfl) (fun _ _ _ h => h) (Or.inl ⟨by rfl, ?hyb4⟩) hS ?restb4
  case hyb4 => (intro w' hSw; go_simp; first | done | with_reducible rfl)
  try simp only [Act.put, List.getElem_toArray, List.getElem_cons_zero, List.getElem_cons_succ, List.setIfInBounds_toArray, List.set_cons_zero, List.set_cons_succ]
  refine wpAnyH_ready (rs := [5]) (by kernel_rfl) (by simp) ?_
  refine AllReadyH.cons rfl (fun K hK => ?_) AllReadyH.nil
  have s0 := cell_blk K0.out 3 rfl
  have s1 := frozen_blk K0.out 3
  have s2 := cell_blk K0.out 4 rfl
  have s3 := frozen_blk K0.out 4
  go_simp
  clear s0 s1 s2 s3
  obtain ⟨Z6, hZ6⟩ : ∃ W0, Hid (W0 = (Y6.setCell ⟨G, 3, none⟩ (.slice V5 vn5 vc5)).setCell ⟨G, 4, none⟩ (.int .i64 0)) := ⟨_, Lib.hid rfl⟩
  rw [← hZ6.out]
  have FZ6 : Hid (Fr [G] Y6 Z6 [G]) := by rw [hZ6.out]; exact (setCell_fr _ _ _ _).trans (setCell_fr _ _ _ _)
  have M0 : Hid (Z6.heap[G]? = some (.cells #[.pointer (some ⟨p.gb, 0, none⟩), .pointer (some ⟨p.gi, 0, none⟩), .slice A5 n5 c5, .slice V5 vn5 vc5, .int .i64 0] 35 (0, 0))) := by unfold Hid; rw [hZ6.out]; exact heap_set (heap_set K0.out _) _
  have SZ6 : Z6.rangeAt g10 0 [.slice A5 n5 c5] ∧ Z6.rangeAt g7 0 [.slice V5 vn5 vc5, .int .i64 0] := ⟨range_fr SY6.1 FZ6.out (Nat.lt_of_lt_of_le l10.out.1 FY6.out.size) (by have := hG7.out; simp; omega), range_fr SY6.2 FZ6.out (Nat.lt_of_lt_of_le l10.out.2 FY6.out.size) (by have := hG7.out; simp; omega)⟩
  refine hK.out _ _ SZ6 ?_
  intro hS
  clear hK K hS
  try simp only [Act.put, List.getElem_toArray, List.getElem_cons_zero, List.getElem_cons_succ, List.setIfInBounds_toArray, List.set_cons_zero, List.set_cons_succ]
  refine wpAnyH_done (by kernel_rfl) (NoPanic.normal ?_) _
  go_wp2_with fail
  have PR4 := Lib.hid (PR3.out.keep F4.out (fun k hk => by simp at hk; simp [hk]) (fun k hk => Or.inl hk) (fun k hk => Nat.lt_of_lt_of_le (PR3.out.xl k hk) F4.out.size))
  have PR5 := Lib.hid (PR4.out.below B5.out)
  have PR6 := Lib.hid (PR5.out.keep F56.out (fun k hk => by simp at hk; simp [hk]) (fun k hk => Or.inl hk) (fun k hk => Nat.lt_of_lt_of_le (PR5.out.xl k hk) F56.out.size))
  have PR7 := Lib.hid (PR6.out.below dX6)
  have FZ7 : Hid (Fr [G] X6 Z6 [G]) := FY6.out.trans FZ6.out
  have PR8 := Lib.hid (PR7.out.keep FZ7.out (fun k hk => by simp at hk; simp [hk]) (fun k hk => Or.inl hk) (fun k hk => Nat.lt_of_lt_of_le (PR7.out.xl k hk) FZ7.out.size))
  have n6G : g6 ≠ G := by have := hg6G.out; omega
  have n67 : g6 ≠ g7 := by have := hg67.out; omega
  have Q6 : Hid (Z6.heap[g6]? = some (.cells #[.int .i64 l2.au, .int .i64 l2.sq, .int .i64 l2.ep, .slice A1 n1 c1, .slice A2 bn c2] 40 (0, 0))) := by
    have q4 := (F4.out.block g6 (lt_of_blk T6.out) (by simp [n6G])).trans T6.out
    have q5 := (B5.out.block g6 (lt_of_blk q4)).trans q4
    have q6 := (F56.out.block g6 (lt_of_blk q5) (by simp [n67])).trans q5
    have q7 := (dX6.block g6 (lt_of_blk q6)).trans q6
    exact (FZ7.out.block g6 (lt_of_blk q7) (by simp [n6G])).trans q7
  have F58 : Hid (Fr [g7, G] u5 Z6 [g7, G]) := by
    refine ⟨FZ7.out.os.trans (dX6.os.trans F56.out.os), FZ7.out.tape.trans (dX6.tape.trans F56.out.tape), FZ7.out.output.trans (dX6.output.trans F56.out.output), Nat.le_trans F56.out.size (Nat.le_trans dX6.size FZ7.out.size), fun k hk hn => ?_, fun k hk => Or.inl hk⟩
    simp only [List.mem_cons, List.mem_nil_iff, or_false, not_or] at hn
    exact (FZ7.out.block k (Nat.lt_of_lt_of_le hk (Nat.le_trans F56.out.size dX6.size)) (by simp [hn.2])).trans ((dX6.block k (Nat.lt_of_lt_of_le hk F56.out.size)).trans (F56.out.block k hk (by simp [hn.1])))
  have P8 := Lib.hid ((P4.out.below B5.out).fr (no' := oi3) F58.out (fun k hk => by simp at hk; rcases hk with h | h <;> simp [h]) (fun k hk => Or.inl (by simp [hk])))
  have Q8 := Lib.hid ((Q4.out.below B5.out).fr (no' := oi3) F58.out (fun k hk => by simp at hk; rcases hk with h | h <;> simp [h]) (fun k hk => Or.inl (by simp [hk])))
  have hEE : (E == E) = true := beq_self_eq_true E
  obtain ⟨X7, hX7⟩ : ∃ W, Hid (W = Z6.drew) := ⟨_, Lib.hid rfl⟩
  have dX7 : Below Z6.heap.size Z6 X7 := by rw [hX7.out]; exact below_drew (Below.refl _ _)
  have SX7 : X7.rangeAt G 0 [.pointer (some ⟨p.gb, 0, none⟩), .pointer (some ⟨p.gi, 0, none⟩), .slice A5 n5 c5, .slice V5 vn5 vc5, .int .i64 0] ∧ X7.rangeAt g6 0 [.int .i64 l2.au, .int .i64 l2.sq, .int .i64 l2.ep, .slice A1 n1 c1, .slice A2 bn c2] := ⟨range_keep (range_of M0.out) dX7 (lt_of_blk M0.out), range_keep (range_of Q6.out) dX7 (lt_of_blk Q6.out)⟩
  have lX7 : Hid (G < X7.heap.size ∧ g6 < X7.heap.size) := ⟨Nat.lt_of_lt_of_le (lt_of_blk M0.out) dX7.size, Nat.lt_of_lt_of_le (lt_of_blk Q6.out) dX7.size⟩
  refine wp_region_noPanic ?_
  refine wp_region_held_drew (S := fun w' => w'.rangeAt G 0 [.pointer (some ⟨p.gb, 0, none⟩), .pointer (some ⟨p.gi, 0, none⟩), .slice A5 n5 c5, .slice V5 vn5 vc5, .int .i64 0] ∧ w'.rangeAt g6 0 [.int .i64 l2.au, .int .i64 l2.sq, .int .i64 l2.ep, .slice A1 n1 c1, .slice A2 bn c2]) (by kernel_rfl) (by rw [← hX7.out]; exact SX7) (fun hS => ?_)
  rw [← hX7.out]
  clear hS
  have hS : X7.rangeAt G 0 [.pointer (some ⟨p.gb, 0, none⟩), .pointer (some ⟨p.gi, 0, none⟩), .slice A5 n5 c5, .slice V5 vn5 vc5, .int .i64 0] ∧ X7.rangeAt g6 0 [.int .i64 l2.au, .int .i64 l2.sq, .int .i64 l2.ep, .slice A1 n1 c1, .slice A2 bn c2] := SX7
  refine wpAnyH_take (i := 0) (v := .agg #[.pointer (some ⟨p.gb, 0, none⟩), .pointer (some ⟨p.gi, 0, none⟩), .slice A5 n5 c5, .slice V5 vn5 vc5, .int .i64 0]) rfl (by kernel_rfl) (by kernel_rfl) (by kernel_rfl) (fun _ _ _ h => h) (Or.inl ⟨by rfl, ?hyr0⟩) hS ?restr0
  case hyr0 => (intro w' hSw; have c0 := hSw.1 0 _ rfl; have c1 := hSw.1 1 _ rfl; have c2 := hSw.1 2 _ rfl; have c3 := hSw.1 3 _ rfl; have c4 := hSw.1 4 _ rfl; go_simp; first | done | with_reducible rfl)
  try simp only [Act.put, List.getElem_toArray, List.getElem_cons_zero, List.getElem_cons_succ, List.setIfInBounds_toArray, List.set_cons_zero, List.set_cons_succ]
  refine wpAnyH_take (i := 1) (v := .int .i64 E) rfl (by kernel_rfl) (by kernel_rfl) (by kernel_rfl) (fun _ _ _ h => h) (Or.inl ⟨by rfl, ?hyr1⟩) hS ?restr1
  case hyr1 => (intro w' hSw; go_simp; first | done | with_reducible rfl)
  try simp only [Act.put, List.getElem_toArray, List.getElem_cons_zero, List.getElem_cons_succ, List.setIfInBounds_toArray, List.set_cons_zero, List.set_cons_succ]
  refine wpAnyH_take (i := 2) (v := .int .i64 E) rfl (by kernel_rfl) (by kernel_rfl) (by kernel_rfl) (fun _ _ _ h => h) (Or.inl ⟨by rfl, ?hyr2⟩) hS ?restr2
  case hyr2 => (intro w' hSw; go_simp; first | done | with_reducible rfl)
  try simp only [Act.put, List.getElem_toArray, List.getElem_cons_zero, List.getElem_cons_succ, List.setIfInBounds_toArray, List.set_cons_zero, List.set_cons_succ]
  refine wpAnyH_take (i := 3) (v := .bool true) rfl (by kernel_rfl) (by kernel_rfl) (by kernel_rfl) (fun _ _ _ h => h) (Or.inl ⟨by rfl, ?hyr3⟩) hS ?restr3
  case hyr3 => (intro w' hSw; have h := hEE; go_simp; first | done | with_reducible rfl)
  try simp only [Act.put, List.getElem_toArray, List.getElem_cons_zero, List.getElem_cons_succ, List.setIfInBounds_toArray, List.set_cons_zero, List.set_cons_succ]
  refine wpAnyH_take (i := 4) (v := .bool true) rfl (by kernel_rfl) (by kernel_rfl) (by kernel_rfl) (fun _ _ _ h => h) (Or.inl ⟨by rfl, ?hyr4⟩) hS ?restr4
  case hyr4 => (intro w' hSw; go_simp; first | done | with_reducible rfl)
  try simp only [Act.put, List.getElem_toArray, List.getElem_cons_zero, List.getElem_cons_succ, List.setIfInBounds_toArray, List.set_cons_zero, List.set_cons_succ]
  refine wpAnyH_take (i := 5) (v := ?vr5) rfl (by kernel_rfl) (by kernel_rfl) (by kernel_rfl) (fun _ _ _ h => h) (Or.inl ⟨by rfl, ?hyr5⟩) hS ?restr5
  case hyr5 => (intro w' hSw; go_simp; first | done | with_reducible rfl)
  try simp only [Act.put, List.getElem_toArray, List.getElem_cons_zero, List.getElem_cons_succ, List.setIfInBounds_toArray, List.set_cons_zero, List.set_cons_succ]
  refine wpAnyH_take (i := 6) (v := .pointer (some ⟨p.gb, 0, none⟩)) rfl (by kernel_rfl) (by kernel_rfl) (by kernel_rfl) (fun _ _ _ h => h) (Or.inl ⟨by rfl, ?hyr6⟩) hS ?restr6
  case hyr6 => (intro w' hSw; have c0 := hSw.1 0 _ rfl; go_simp; first | done | with_reducible rfl)
  try simp only [Act.put, List.getElem_toArray, List.getElem_cons_zero, List.getElem_cons_succ, List.setIfInBounds_toArray, List.set_cons_zero, List.set_cons_succ]
  refine wpAnyH_take (i := 7) (v := ?vr7) rfl (by kernel_rfl) (by kernel_rfl) (by kernel_rfl) (fun _ _ _ h => h) (Or.inl ⟨by rfl, ?hyr7⟩) hS ?restr7
  case hyr7 => (intro w' hSw; go_simp; first | done | with_reducible rfl)
  try simp only [Act.put, List.getElem_toArray, List.getElem_cons_zero, List.getElem_cons_succ, List.setIfInBounds_toArray, List.set_cons_zero, List.set_cons_succ]
  refine wpAnyH_take (i := 8) (v := .pointer (some ⟨p.gi, 0, none⟩)) rfl (by kernel_rfl) (by kernel_rfl) (by kernel_rfl) (fun _ _ _ h => h) (Or.inl ⟨by rfl, ?hyr8⟩) hS ?restr8
  case hyr8 => (intro w' hSw; have c0 := hSw.1 1 _ rfl; go_simp; first | done | with_reducible rfl)
  try simp only [Act.put, List.getElem_toArray, List.getElem_cons_zero, List.getElem_cons_succ, List.setIfInBounds_toArray, List.set_cons_zero, List.set_cons_succ]
  refine wpAnyH_take (i := 9) (v := ?vr9) rfl (by kernel_rfl) (by kernel_rfl) (by kernel_rfl) (fun _ _ _ h => h) (Or.inl ⟨by rfl, ?hyr9⟩) hS ?restr9
  case hyr9 => (intro w' hSw; go_simp; first | done | with_reducible rfl)
  try simp only [Act.put, List.getElem_toArray, List.getElem_cons_zero, List.getElem_cons_succ, List.setIfInBounds_toArray, List.set_cons_zero, List.set_cons_succ]
  refine wpAnyH_take (i := 10) (v := .agg #[.int .i64 l2.au, .int .i64 l2.sq, .int .i64 l2.ep, .slice A1 n1 c1, .slice A2 bn c2]) rfl (by kernel_rfl) (by kernel_rfl) (by kernel_rfl) (fun _ _ _ h => h) (Or.inl ⟨by rfl, ?hyr10⟩) hS ?restr10
  case hyr10 => (intro w' hSw; have c0 := hSw.2 0 _ rfl; have c1 := hSw.2 1 _ rfl; have c2 := hSw.2 2 _ rfl; have c3 := hSw.2 3 _ rfl; have c4 := hSw.2 4 _ rfl; go_simp; first | done | with_reducible rfl)
  try simp only [Act.put, List.getElem_toArray, List.getElem_cons_zero, List.getElem_cons_succ, List.setIfInBounds_toArray, List.set_cons_zero, List.set_cons_succ]
  refine wpAnyH_take (i := 12) (v := .int .i64 E2) rfl (by kernel_rfl) (by kernel_rfl) (by kernel_rfl) (fun _ _ _ h => h) (Or.inl ⟨by rfl, ?hyr12⟩) hS ?restr12
  case hyr12 => (intro w' hSw; go_simp; first | done | with_reducible rfl)
  try simp only [Act.put, List.getElem_toArray, List.getElem_cons_zero, List.getElem_cons_succ, List.setIfInBounds_toArray, List.set_cons_zero, List.set_cons_succ]
  refine wpAnyH_ready (rs := [11]) (by kernel_rfl) (by simp) ?_
  refine AllReadyH.cons rfl (fun K hK => ?_) AllReadyH.nil
  go_simp
  refine ((PR8.out.below dX7).take l2 A1 n1 c1 A2 bn c2 (P8.out.below dX7) (Q8.out.below dX7) (by have h1 := VT4.out.len; have h2 := hv4.out; omega) (by have h1 := RK4.out.len; have h2 := HN.out; omega)).mono ?_
  rintro e u8 ⟨oi8, rfl, hpr8, hf8⟩
  rw [hE2.out]
  have PR9 := Lib.hid hpr8
  have F8 := Lib.hid hf8
  clear hpr8 hf8
  have nG8 : ∀ k, k ∈ (G :: (G + 2) :: g6 :: g7 :: X) → k ∉ p.ob ++ oi3 := fun k hk hm => by rcases List.mem_append.1 hm with h | h; exact (PR8.out.xd k hk).1 h; exact (PR8.out.xd k hk).2 h
  have SX8 : u8.rangeAt G 0 [.pointer (some ⟨p.gb, 0, none⟩), .pointer (some ⟨p.gi, 0, none⟩), .slice A5 n5 c5, .slice V5 vn5 vc5, .int .i64 0] ∧ u8.rangeAt g6 0 [.int .i64 l2.au, .int .i64 l2.sq, .int .i64 l2.ep, .slice A1 n1 c1, .slice A2 bn c2] := ⟨range_fr SX7.1 F8.out lX7.out.1 (nG8 G (by simp)), range_fr SX7.2 F8.out lX7.out.2 (nG8 g6 (by simp))⟩
  have hE22 : (E2 == E2) = true := beq_self_eq_true E2
  go_wp2_with fail
  refine hK.out _ _ SX8 ?_
  intro hS
  clear hK K hS
  try simp only [Act.put, List.getElem_toArray, List.getElem_cons_zero, List.getElem_cons_succ, List.setIfInBounds_toArray, List.set_cons_zero, List.set_cons_succ]
  have hS : u8.rangeAt G 0 [.pointer (some ⟨p.gb, 0, none⟩), .pointer (some ⟨p.gi, 0, none⟩), .slice A5 n5 c5, .slice V5 vn5 vc5, .int .i64 0] ∧ u8.rangeAt g6 0 [.int .i64 l2.au, .int .i64 l2.sq, .int .i64 l2.ep, .slice A1 n1 c1, .slice A2 bn c2] := SX8
  refine wpAnyH_take (i := 13) (v := .bool true) rfl (by kernel_rfl) (by kernel_rfl) (by kernel_rfl) (fun _ _ _ h => h) (Or.inl ⟨by rfl, ?hys13⟩) hS ?rests13
  case hys13 => (intro w' hSw; have h := hE22; go_simp; first | done | with_reducible rfl)
  try simp only [Act.put, List.getElem_toArray, List.getElem_cons_zero, List.getElem_cons_succ, List.setIfInBounds_toArray, List.set_cons_zero, List.set_cons_succ]
  refine wpAnyH_take (i := 14) (v := .bool true) rfl (by kernel_rfl) (by kernel_rfl) (by kernel_rfl) (fun _ _ _ h => h) (Or.inl ⟨by rfl, ?hys14⟩) hS ?rests14
  case hys14 => (intro w' hSw; go_simp; first | done | with_reducible rfl)
  try simp only [Act.put, List.getElem_toArray, List.getElem_cons_zero, List.getElem_cons_succ, List.setIfInBounds_toArray, List.set_cons_zero, List.set_cons_succ]
  have k2 : Hid (Z6.heap[G + 2]? = some (.cells #[.pointer none, .pointer none, .slice none 0 0, .slice none 0 0, .int .i64 0] 35 (0, 0))) := by
    have h67 := hg67.out; have h6G := hg6G.out
    have q4 := (F4.out.block (G + 2) (lt_of_blk T2.out) (by simp)).trans T2.out
    have q5 := (B5.out.block (G + 2) (lt_of_blk q4)).trans q4
    exact (F58.out.block (G + 2) (lt_of_blk q5) (by simp; omega)).trans q5
  have k8 : Hid (u8.heap[G + 2]? = some (.cells #[.pointer none, .pointer none, .slice none 0 0, .slice none 0 0, .int .i64 0] 35 (0, 0))) := by
    have q7 := (dX7.block (G + 2) (lt_of_blk k2.out)).trans k2.out
    exact (F8.out.block (G + 2) (lt_of_blk q7) (nG8 (G + 2) (by simp))).trans q7
  refine wpAnyH_ready (rs := [15]) (by kernel_rfl) (by simp) ?_
  refine AllReadyH.cons rfl (fun K hK => ?_) AllReadyH.nil
  refine step_store_row 35 (.tmp 4) (.tmp 47) rfl rfl (G + 2) #[.pointer (some ⟨p.gb, 0, none⟩), .pointer (some ⟨p.gi, 0, none⟩), .slice A5 n5 c5, .slice V5 vn5 vc5, .int .i64 0] rfl (by first | rfl | kernel_rfl) _ _ k8.out (by kernel_rfl) rfl (by kernel_rfl) ?_
  obtain ⟨u9, hu9⟩ : ∃ W0, Hid (W0 = u8.setRow (G + 2) #[.pointer (some ⟨p.gb, 0, none⟩), .pointer (some ⟨p.gi, 0, none⟩), .slice A5 n5 c5, .slice V5 vn5 vc5, .int .i64 0]) := ⟨_, Lib.hid rfl⟩
  rw [← hu9.out]
  have F9 : Hid (Fr [G + 2] u8 u9 [G + 2]) := by rw [hu9.out]; exact setRow_fr _ _ _
  have k9 : Hid (u9.heap[G + 2]? = some (.cells #[.pointer (some ⟨p.gb, 0, none⟩), .pointer (some ⟨p.gi, 0, none⟩), .slice A5 n5 c5, .slice V5 vn5 vc5, .int .i64 0] 35 (0, 0))) := by unfold Hid; rw [hu9.out]; exact setRow_heap _ _ _ _ _ _ k8.out
  have SX9 : u9.rangeAt G 0 [.pointer (some ⟨p.gb, 0, none⟩), .pointer (some ⟨p.gi, 0, none⟩), .slice A5 n5 c5, .slice V5 vn5 vc5, .int .i64 0] ∧ u9.rangeAt g6 0 [.int .i64 l2.au, .int .i64 l2.sq, .int .i64 l2.ep, .slice A1 n1 c1, .slice A2 bn c2] := ⟨range_fr SX8.1 F9.out (Nat.lt_of_lt_of_le lX7.out.1 F8.out.size) (by simp), range_fr SX8.2 F9.out (Nat.lt_of_lt_of_le lX7.out.2 F8.out.size) (by have := hg6G.out; simp; omega)⟩
  refine hK.out _ _ SX9 ?_
  intro hS
  clear hK K hS
  try simp only [Act.put, List.getElem_toArray, List.getElem_cons_zero, List.getElem_cons_succ, List.setIfInBounds_toArray, List.set_cons_zero, List.set_cons_succ]
  have hS : u9.rangeAt G 0 [.pointer (some ⟨p.gb, 0, none⟩), .pointer (some ⟨p.gi, 0, none⟩), .slice A5 n5 c5, .slice V5 vn5 vc5, .int .i64 0] ∧ u9.rangeAt g6 0 [.int .i64 l2.au, .int .i64 l2.sq, .int .i64 l2.ep, .slice A1 n1 c1, .slice A2 bn c2] := SX9
  refine wpAnyH_take (i := 16) (v := ?vt16) rfl (by kernel_rfl) (by kernel_rfl) (by kernel_rfl) (fun _ _ _ h => h) (Or.inl ⟨by rfl, ?hyt16⟩) hS ?restt16
  case hyt16 => (intro w' hSw; go_simp; first | done | with_reducible rfl)
  try simp only [Act.put, List.getElem_toArray, List.getElem_cons_zero, List.getElem_cons_succ, List.setIfInBounds_toArray, List.set_cons_zero, List.set_cons_succ]
  refine wpAnyH_done (by kernel_rfl) (NoPanic.normal ?_) _
  go_wp2_with fail
  refine bodyPost_ret (v := .tuple #[.agg #[.pointer (some ⟨p.gb, 0, none⟩), .pointer (some ⟨p.gi, 0, none⟩), .slice A5 n5 c5, .slice V5 vn5 vc5, .int .i64 0], .bool true]) ?_ rfl ?_
  · exact results_cell_tmp Try.results19 rfl (run_loadVar_mid (P := Try.prog) u9 (G + 2) 0 35 _ _ (range_of k9.out) Try.underlying35 rfl (by kernel_rfl))
  have s58 : ∀ k, k ∈ [g7, G] → k ∈ (g7 :: G :: (G + 2) :: (p.ob ++ oi3 ++ X)) := fun k hk => by simp at hk; rcases hk with h | h <;> simp [h]
  have t58 : ∀ k, k ∈ ((G + 2) :: (p.ob ++ oi3 ++ X)) → k ∈ (g7 :: G :: (G + 2) :: (p.ob ++ oi3 ++ X)) ∨ u5.heap.size ≤ k := fun k hk => by simp only [List.mem_cons] at hk; rcases hk with h | h; exact Or.inl (by simp [h]); exact Or.inl (by simp only [List.mem_cons]; exact Or.inr (Or.inr (Or.inr h)))
  have s8 : ∀ k, k ∈ p.ob ++ oi3 → k ∈ ((G + 2) :: (p.ob ++ oi3 ++ X)) := fun k hk => List.mem_cons_of_mem _ (List.mem_append.2 (Or.inl hk))
  have t8 : ∀ k, k ∈ ((G + 2) :: (p.ob ++ oi8 ++ X)) → k ∈ ((G + 2) :: (p.ob ++ oi3 ++ X)) ∨ X7.heap.size ≤ k := fun k hk => by
    rcases List.mem_cons.1 hk with h | h
    · exact Or.inl (by simp [h])
    · rcases List.mem_append.1 h with h1 | h1
      · exact (F8.out.sub k h1).imp (s8 k) id
      · exact Or.inl (List.mem_cons_of_mem _ (List.mem_append.2 (Or.inr h1)))
  have s9 : ∀ k, k ∈ [G + 2] → k ∈ ((G + 2) :: (p.ob ++ oi8 ++ X)) := fun k hk => by simp at hk; simp [hk]
  have t9 : ∀ k, k ∈ p.ob ++ oi8 ++ X → k ∈ ((G + 2) :: (p.ob ++ oi8 ++ X)) ∨ u8.heap.size ≤ k := fun k hk => Or.inl (List.mem_cons_of_mem _ hk)
  have BwG : Hid (w.heap.size ≤ U2.heap.size) := BwU2.out.size
  have sz3 : Hid (U2.heap.size ≤ X7.heap.size) := Nat.le_trans F3.out.size (Nat.le_trans F4.out.size (Nat.le_trans B5.out.size (Nat.le_trans F58.out.size dX7.size)))
  refine ⟨⟨p.gb, p.gi, A5, n5, c5, V5, vn5, vc5, p.ob, oi8⟩, rfl, ⟨?_, ?_, ?_, VC5.out, fun k hk => ?_⟩, rfl, rfl, ?_⟩
  · rw [hl2.out]; exact PR9.out.keep F9.out (fun k hk => by simp at hk; simp [hk]) (fun k hk => Or.inl (by simp [hk])) (fun k hk => Nat.lt_of_lt_of_le (PR9.out.xl k (by simp [hk])) F9.out.size)
  · rw [hl2.out]; exact (((RK5.out.fr F58.out s58 t58).below dX7).fr F8.out s8 t8).fr F9.out s9 t9
  · rw [hl2.out]; exact (((VT5.out.fr F58.out s58 t58).below dX7).fr F8.out s8 t8).fr F9.out s9 t9
  · rcases List.mem_append.1 hk with h | h
    · exact HPl.out.lo k (List.mem_append.2 (Or.inl h))
    · rcases F8.out.sub k (List.mem_append.2 (Or.inr h)) with h1 | h1
      · rcases List.mem_append.1 h1 with h2 | h2
        · exact HPl.out.lo k (List.mem_append.2 (Or.inl h2))
        · rcases F3.out.sub k h2 with h3 | h3
          · exact HPl.out.lo k (List.mem_append.2 (Or.inr h3))
          · exact Nat.le_trans HBw.out (Nat.le_trans BwG.out h3)
      · exact Nat.le_trans HBw.out (Nat.le_trans BwG.out (Nat.le_trans sz3.out h1))
  · refine ⟨F9.out.os.trans (F8.out.os.trans (dX7.os.trans (F58.out.os.trans (B5.out.os.trans (F4.out.os.trans (F3.out.os.trans BwU2.out.os)))))), F9.out.tape.trans (F8.out.tape.trans (dX7.tape.trans (F58.out.tape.trans (B5.out.tape.trans (F4.out.tape.trans (F3.out.tape.trans BwU2.out.tape)))))), F9.out.output.trans (F8.out.output.trans (dX7.output.trans (F58.out.output.trans (B5.out.output.trans (F4.out.output.trans (F3.out.output.trans BwU2.out.output)))))), Nat.le_trans BwG.out (Nat.le_trans sz3.out (Nat.le_trans F8.out.size F9.out.size)), fun k hk hn => ?_, fun k hk => ?_⟩
    · have e0 := hG.out; have e1 := hg6G.out; have e2 := hg67.out
      have b2 : k < U2.heap.size := Nat.lt_of_lt_of_le hk BwG.out
      have b3 := Nat.lt_of_lt_of_le b2 F3.out.size
      have b4 := Nat.lt_of_lt_of_le b3 F4.out.size
      have b5 := Nat.lt_of_lt_of_le b4 B5.out.size
      have b8 := Nat.lt_of_lt_of_le b5 F58.out.size
      have b7 := Nat.lt_of_lt_of_le b8 dX7.size
      have c9 := F9.out.block k (Nat.lt_of_lt_of_le b7 F8.out.size) (by simp; omega)
      have c8 := F8.out.block k b7 (fun hm => by rcases List.mem_append.1 hm with h | h; exact hn (List.mem_append.2 (Or.inl h)); rcases F3.out.sub k h with h1 | h1; exact hn (List.mem_append.2 (Or.inr h1)); omega)
      exact c9.trans (c8.trans ((dX7.block k b8).trans ((F58.out.block k b5 (by simp; omega)).trans ((B5.out.block k b4).trans ((F4.out.block k b3 (by simp; omega)).trans ((F3.out.block k b2 (fun h => hn (List.mem_append.2 (Or.inr h)))).trans (BwU2.out.block k hk)))))))
    · rcases List.mem_append.1 hk with h | h
      · exact Or.inl (List.mem_append.2 (Or.inl h))
      · rcases F8.out.sub k (List.mem_append.2 (Or.inr h)) with h1 | h1
        · rcases List.mem_append.1 h1 with h2 | h2
          · exact Or.inl (List.mem_append.2 (Or.inl h2))
          · exact (F3.out.sub k h2).imp (fun h3 => List.mem_append.2 (Or.inr h3)) (fun h3 => Nat.le_trans BwG.out h3)
        · exact Or.inr (Nat.le_trans BwG.out (Nat.le_trans sz3.out h1))
end Go.Proofs.Ytabcbpcfleociaa

/- The law ChainGrows, walked. (Printed by gen_grw.py.) -/
namespace Go.Proofs.Ytabcbpcfleociaa
open Go.RowKit
attribute [local go_sem ↓] Go.wp_at_zero Go.wp_at_succ
set_option linter.unusedSimpArgs false
set_option linter.unusedVariables false
set_option maxRecDepth 20000 in
set_option maxHeartbeats 16000000 in
theorem chainGrows_walk (A : Option Addr) (n c : Nat) (ls : List Dn) (w : World) (hr : RdD w w.heap.size A n ls) (hc : n ≤ c) (hq : n ≤ 140737488351232 ∧ Reaches w A n) :
    Calls Try.prog 4 #[.slice A n c] w fun e w' => e = .returned (.bool true) ∧ Below w.heap.size w w' := by
  have HR0 := Lib.hid hr
  have HQ := Lib.hid hq
  clear hr hq
  go_enter Try.func4, Try.ntmps4
  go_wp2_with fail
  refine (small_ A n c ls w HR0.out HQ.out.1).mono ?_
  rintro e w1 ⟨⟨b, rfl, hb40⟩, b1⟩
  have B1 := Lib.hid b1
  clear b1
  rcases b with _ | _
  · clear hb40
    go_wp2_with fail
    refine (awake_ w1).mono ?_
    rintro e w2 ⟨rfl, b2⟩
    have B2 := Lib.hid b2
    clear b2
    go_wp2_with fail
    go_ret
    exact ⟨rfl, B1.out.trans (B2.out.mono B1.out.size)⟩
  · have HN : Hid (n ≤ 40) := hb40 rfl
    have HR : Hid (RdD w1 w1.heap.size A n ls) := (HR0.out.to B1.out).more B1.out.size
    have HRE : Hid (Reaches w1 A n) := (HQ.out.2).to HR0.out B1.out
    clear hb40
    go_wp2_with fail
    refine (begun_ [] w1 (fun k hk => absurd hk (by simp))).mono ?_
    rintro e u ⟨p, rfl, hp, bu⟩
    have P0 := Lib.hid hp
    have BU := Lib.hid bu
    clear hp bu
    unfold plV
    go_wp2_with fail
    obtain ⟨U, hU⟩ : ∃ U, Hid (U = u.alloc (.cells #[.pointer (some ⟨p.gb, 0, none⟩), .pointer (some ⟨p.gi, 0, none⟩), .slice p.A p.n p.c, .slice p.V p.vn p.vc, .int .i64 0] 35)) := ⟨_, Lib.hid rfl⟩
    obtain ⟨G3, hG3⟩ : ∃ g, Hid (g = u.heap.size) := ⟨_, Lib.hid rfl⟩
    rw [← hU.out, ← hG3.out]
    have BU1 : Below u.heap.size u U := by rw [hU.out]; exact (Below.refl _ _).alloc (Nat.le_refl _) _
    have RU : Hid (U.heap[G3]? = some (.cells (plC p).toArray 35 (0, 0))) := by unfold Hid; rw [hU.out, hG3.out]; exact heap_alloc_new _ _
    have P1 : Hid (Play U w1.heap.size p [] [] [G3]) := P0.out.keep (Fr.below (own := []) BU1) (fun _ h => absurd h (by simp)) (fun k hk => by simp at hk; exact Or.inr (by rw [hk, hG3.out]; exact Nat.le_refl _)) (fun k hk => by simp at hk; rw [hk]; exact lt_of_blk RU.out)
    have BU1w : Hid (Below w1.heap.size w1 U) := BU.out.trans (BU1.mono BU.out.size)
    have hG3w : Hid (w1.heap.size ≤ G3) := by rw [hG3.out]; exact BU.out.size
    clear BU1 hU P0 BU
    go_loopw [25] (fun x25 wr => ∃ (i : Nat) (q : Pl) (S : Bk) (hs : List (List UInt8)), x25 = .int .i64 i ∧ i ≤ n ∧ Hid (Play wr w1.heap.size q S hs [G3]) ∧ Hid (Reach i S hs) ∧ Hid (wr.heap[G3]? = some (.cells (plC q).toArray 35 (0, 0))) ∧ Hid (Below w1.heap.size w1 wr)) (fun x25 _ => n - (intOf x25).toNat)
    case atStart => exact ⟨0, p, [], [], rfl, by omega, P1, Reach.nil, RU, BU1w⟩
    case round =>
      obtain ⟨i, q, S, hs, rfl, hi, HP, HRe, R3, hb⟩ := hrel
      by_cases hin : i < n
      · have hin' : (i : Int) < (n : Int) := by omega
        have hi0 : (0 : Int) ≤ (i : Int) := by omega
        have e8 : IntKind.i64.wrap ((i : Int) + 1) = ((i + 1 : Nat) : Int) := by have := HN.out; rw [IntWalk.i64_in _ (by omega)]; omega
        obtain ⟨x, hx⟩ : ∃ x, ls[i]? = some x := ⟨_, List.getElem?_eq_getElem (by rw [HR.out.1]; exact hin)⟩
        obtain ⟨b, o, Ap, np, cp, Ab, nb, cb, rfl, hB, hrg, hia, _, _, rp, _, rb, _⟩ := HR.out.2 i x hx
        have hww : ∀ j v, (lnC x.l Ap np cp Ab nb cb ++ [Value.bool x.nx])[j]? = some v → wr.cell? ⟨b, o + i * 6 + j, none⟩ = some v := fun j v hj => (World.cell?_of_block (a := ⟨b, o + i * 6 + j, none⟩) (hb.out.block b hB)).trans (hrg j v hj)
        have hle := Lib.hid (HRE.out i b o Ap np cp Ab nb cb hin rfl (hrg 3 _ rfl) (hrg 4 _ rfl))
        have HIA := Lib.hid hia
        have c0 : wr.cell? ⟨b, o + i * 6, none⟩ = some (.int .i64 x.l.au) := hww 0 _ rfl
        have c1 : wr.cell? ⟨b, o + i * 6 + 1, none⟩ = some (.int .i64 x.l.sq) := hww 1 _ rfl
        have c2 : wr.cell? ⟨b, o + i * 6 + 2, none⟩ = some (.int .i64 x.l.ep) := hww 2 _ rfl
        have c3 : wr.cell? ⟨b, o + i * 6 + 3, none⟩ = some (.slice Ap np cp) := hww 3 _ rfl
        have c4 : wr.cell? ⟨b, o + i * 6 + 4, none⟩ = some (.slice Ab nb cb) := hww 4 _ rfl
        have c5 : wr.cell? ⟨b, o + i * 6 + 5, none⟩ = some (.bool x.nx) := hww 5 _ rfl
        have RP := Lib.hid rp
        have RB := Lib.hid rb
        clear hx hB hrg rp rb hww hia
        obtain ⟨V, hV⟩ : ∃ V, Hid (V = wr.alloc (.cells #[.int .i64 x.l.au, .int .i64 x.l.sq, .int .i64 x.l.ep, .slice Ap np cp, .slice Ab nb cb, .bool x.nx] 42)) := ⟨_, Lib.hid rfl⟩
        obtain ⟨G5, hG5⟩ : ∃ g, Hid (g = wr.heap.size) := ⟨_, Lib.hid rfl⟩
        have BV : Hid (Below wr.heap.size wr V) := by rw [hV.out]; exact (Below.refl _ _).alloc (Nat.le_refl _) _
        have V3 : Hid (V.heap[G3]? = some (.cells (plC q).toArray 35 (0, 0))) := (BV.out.block G3 (lt_of_blk R3.out)).trans R3.out
        have V5 : Hid (V.heap[G5]? = some (.cells #[.int .i64 x.l.au, .int .i64 x.l.sq, .int .i64 x.l.ep, .slice Ap np cp, .slice Ab nb cb, .bool x.nx] 42 (0, 0))) := by unfold Hid; rw [hV.out, hG5.out]; exact heap_alloc_new _ _
        have d0 : V.cell? ⟨G3, 0, none⟩ = some (.pointer (some ⟨q.gb, 0, none⟩)) := cell_blk V3.out 0 rfl
        have d1 : V.cell? ⟨G3, 1, none⟩ = some (.pointer (some ⟨q.gi, 0, none⟩)) := cell_blk V3.out 1 rfl
        have d2 : V.cell? ⟨G3, 2, none⟩ = some (.slice q.A q.n q.c) := cell_blk V3.out 2 rfl
        have d3 : V.cell? ⟨G3, 3, none⟩ = some (.slice q.V q.vn q.vc) := cell_blk V3.out 3 rfl
        have d4 : V.cell? ⟨G3, 4, none⟩ = some (.int .i64 0) := cell_blk V3.out 4 rfl
        rw [hV.out] at d0 d1 d2 d3 d4
        go_wp2_with fail
        clear c0 c1 c2 c3 c4 c5 d0 d1 d2 d3 d4
        rw [← hV.out, ← hG5.out]
        have HPV : Hid (Play V w1.heap.size q S hs [G5, G3]) := HP.out.keep (Fr.below (own := []) BV.out) (fun _ h => absurd h (by simp)) (fun k hk => by simp at hk; rcases hk with h | h; exact Or.inr (by rw [h, hG5.out]; exact Nat.le_refl _); exact Or.inl (by simp [h])) (fun k hk => by simp at hk; rcases hk with h | h; rw [h]; exact lt_of_blk V5.out; rw [h]; exact lt_of_blk V3.out)
        have hlow : Hid (∀ k, k ∈ q.ob ++ q.oi ++ [G5, G3] → w1.heap.size ≤ k) := fun k hk => by
          rcases List.mem_append.1 hk with h | h
          · exact HPV.out.lo k h
          · simp at h; rcases h with h | h
            · rw [h, hG5.out]; exact hb.out.size
            · rw [h]; exact hG3w.out
        have BwV : Hid (Below w1.heap.size w1 V) := hb.out.trans (BV.out.mono hb.out.size)
        have hqn : Hid (q.n ≤ 1000) := by have h1 := HPV.out.rk.len; have h2 := HRe.out.len; have h3 := HN.out; unfold Hid; omega
        have hhn : Hid (hs.length ≤ 1000) := by have h2 := HRe.out.len; have h3 := HN.out; unfold Hid; omega
        refine (link_ q S x.l x.nx Ap np cp Ab nb cb _ V HPV.out.rk HRe.out.ok ((RP.out.below BwV.out).lowN BwV.out.size hlow.out) ((RB.out.below BwV.out).lowN BwV.out.size hlow.out) (by have := hqn.out; omega) hle.out.1 hle.out.2 HPV.out.lt).mono ?_
        rintro e v ⟨A1, n1, c1, A2, c2, rfl, hn1, hn2, hr1, hr2, bv⟩
        obtain ⟨l2, hl2⟩ : ∃ l, Hid (linkL S x.l x.nx = l) := ⟨_, Lib.hid rfl⟩
        rw [hl2.out] at hr1 hr2
        rw [hl2.out]
        unfold lnV
        obtain ⟨Y, hY⟩ : ∃ Y, Hid (Y = v.alloc (.cells #[.int .i64 l2.au, .int .i64 l2.sq, .int .i64 l2.ep, .slice A1 n1 c1, .slice A2 nb c2] 40)) := ⟨_, Lib.hid rfl⟩
        obtain ⟨G6, hG6⟩ : ∃ g, Hid (g = v.heap.size) := ⟨_, Lib.hid rfl⟩
        have bvY : Below v.heap.size v Y := by rw [hY.out]; exact (Below.refl _ _).alloc (Nat.le_refl _) _
        have BVY : Hid (Below V.heap.size V Y) := bv.trans (bvY.mono bv.size)
        have hvs : Hid (V.heap.size ≤ v.heap.size) := bv.size
        have Y3 : Hid (Y.heap[G3]? = some (.cells (plC q).toArray 35 (0, 0))) := (BVY.out.block G3 (lt_of_blk V3.out)).trans V3.out
        have Y5 : Hid (Y.heap[G5]? = some (.cells #[.int .i64 x.l.au, .int .i64 x.l.sq, .int .i64 x.l.ep, .slice Ap np cp, .slice Ab nb cb, .bool x.nx] 42 (0, 0))) := (BVY.out.block G5 (lt_of_blk V5.out)).trans V5.out
        have Y6 : Hid (Y.heap[G6]? = some (.cells #[.int .i64 l2.au, .int .i64 l2.sq, .int .i64 l2.ep, .slice A1 n1 c1, .slice A2 nb c2] 40 (0, 0))) := by unfold Hid; rw [hY.out, hG6.out]; exact heap_alloc_new _ _
        have HPY : Hid (Play Y w1.heap.size q S hs [G6, G5, G3]) := (HPV.out.below bv).keep (Fr.below (own := []) bvY) (fun _ h => absurd h (by simp)) (fun k hk => by rcases List.mem_cons.1 hk with h | h; exact Or.inr (by rw [h, hG6.out]; exact Nat.le_refl _); exact Or.inl h) (fun k hk => by rcases List.mem_cons.1 hk with h | h; rw [h]; exact lt_of_blk Y6.out; exact Nat.lt_of_lt_of_le (HPV.out.pr.xl k h) BVY.out.size)
        have up : ∀ k, k ∈ q.ob ++ q.oi ++ [G6, G5, G3] → k ∈ q.ob ++ q.oi ++ [G5, G3] ∨ v.heap.size ≤ k := fun k hk => by
          rcases List.mem_append.1 hk with h | h
          · exact Or.inl (List.mem_append.2 (Or.inl h))
          · rcases List.mem_cons.1 h with h | h
            · exact Or.inr (by rw [h, hG6.out]; exact Nat.le_refl _)
            · exact Or.inl (List.mem_append.2 (Or.inr h))
        have HR1 := Lib.hid (hr1.fr (own := []) (own' := []) (Fr.below bvY) (fun _ h => absurd h (by simp)) up)
        have HR2 := Lib.hid (hr2.fr (own := []) (own' := []) (Fr.below bvY) (fun _ h => absurd h (by simp)) up)
        have BwY : Hid (Below w1.heap.size w1 Y) := BwV.out.trans (BVY.out.mono BwV.out.size)
        have d0 : Y.cell? ⟨G3, 0, none⟩ = some (.pointer (some ⟨q.gb, 0, none⟩)) := cell_blk Y3.out 0 rfl
        rw [hY.out] at d0
        clear bv bvY hr1 hr2 up
        go_wp2_with fail
        rw [← hY.out, ← hG6.out]
        clear d0
        refine (bclone_ q.gb S q.ob _ (q.ob ++ q.oi ++ [G6, G5, G3]) Y HPY.out.pr.bk HPY.out.lt).mono ?_
        rintro e y2 ⟨gw, ow, rfl, kw, nw, b2⟩
        have KW := Lib.hid kw
        have NW := Lib.hid nw
        have E3 : Hid (y2.heap[G3]? = some (.cells (plC q).toArray 35 (0, 0))) := (b2.block G3 (lt_of_blk Y3.out)).trans Y3.out
        have E5 : Hid (y2.heap[G5]? = some (.cells #[.int .i64 x.l.au, .int .i64 x.l.sq, .int .i64 x.l.ep, .slice Ap np cp, .slice Ab nb cb, .bool x.nx] 42 (0, 0))) := (b2.block G5 (lt_of_blk Y5.out)).trans Y5.out
        have E6 : Hid (y2.heap[G6]? = some (.cells #[.int .i64 l2.au, .int .i64 l2.sq, .int .i64 l2.ep, .slice A1 n1 c1, .slice A2 nb c2] 40 (0, 0))) := (b2.block G6 (lt_of_blk Y6.out)).trans Y6.out
        have HPE : Hid (Play y2 w1.heap.size q S hs (ow ++ [G6, G5, G3])) := HPY.out.keep (Fr.below (own := []) b2) (fun _ h => absurd h (by simp)) (fun k hk => by
          rcases List.mem_append.1 hk with h | h
          · exact Or.inr (nw k h)
          · exact Or.inl h) (fun k hk => by
          rcases List.mem_append.1 hk with h | h
          · exact kw.lt k h
          · exact Nat.lt_of_lt_of_le (HPY.out.pr.xl k h) b2.size)
        have ER1 := Lib.hid (HR1.out.fr (own := []) (own' := []) (no' := q.ob ++ q.oi ++ (ow ++ [G6, G5, G3])) (Fr.below b2) (fun _ h => absurd h (by simp)) (fun k hk => by
          rcases List.mem_append.1 hk with h | h
          · exact Or.inl (List.mem_append.2 (Or.inl h))
          · rcases List.mem_append.1 h with h | h
            · exact Or.inr (nw k h)
            · exact Or.inl (List.mem_append.2 (Or.inr h))))
        have ER2 : Hid (Rd y2 y2.heap.size 1 A2 nb (l2.bd.map B8)) := HR2.out.1.to b2
        have BwE : Hid (Below w1.heap.size w1 y2) := BwY.out.trans (b2.mono BwY.out.size)
        have d0 : y2.cell? ⟨G3, 0, none⟩ = some (.pointer (some ⟨q.gb, 0, none⟩)) := cell_blk E3.out 0 rfl
        have d1 : y2.cell? ⟨G3, 1, none⟩ = some (.pointer (some ⟨q.gi, 0, none⟩)) := cell_blk E3.out 1 rfl
        have f0 : y2.cell? ⟨G6, 0, none⟩ = some (.int .i64 l2.au) := cell_blk E6.out 0 rfl
        have f1 : y2.cell? ⟨G6, 1, none⟩ = some (.int .i64 l2.sq) := cell_blk E6.out 1 rfl
        have f2 : y2.cell? ⟨G6, 2, none⟩ = some (.int .i64 l2.ep) := cell_blk E6.out 2 rfl
        have f3 : y2.cell? ⟨G6, 3, none⟩ = some (.slice A1 n1 c1) := cell_blk E6.out 3 rfl
        have f4 : y2.cell? ⟨G6, 4, none⟩ = some (.slice A2 nb c2) := cell_blk E6.out 4 rfl
        clear kw nw b2
        go_wp2_with fail
        clear d0 d1 f0 f1 f2 f3 f4
        refine (HPE.out.pr.check l2 A1 n1 c1 A2 nb c2 ER1.out.1 ER2.out (by have := hhn.out; omega)).mono ?_
        rintro e y3 ⟨o3, rfl, p3, f3⟩
        have P3 := Lib.hid p3
        have F3 := Lib.hid f3
        obtain ⟨eE, heE⟩ : ∃ e, Hid (checkE S hs l2 = e) := ⟨_, Lib.hid rfl⟩
        rw [heE.out]
        have nx3 : ∀ k, k ∈ ow ++ [G6, G5, G3] → k ∉ q.oi := fun k hk => (HPE.out.pr.xd k hk).2
        have T3 : Hid (y3.heap[G3]? = some (.cells (plC q).toArray 35 (0, 0))) := (f3.block G3 (lt_of_blk E3.out) (nx3 _ (by simp))).trans E3.out
        have T5 : Hid (y3.heap[G5]? = some (.cells #[.int .i64 x.l.au, .int .i64 x.l.sq, .int .i64 x.l.ep, .slice Ap np cp, .slice Ab nb cb, .bool x.nx] 42 (0, 0))) := (f3.block G5 (lt_of_blk E5.out) (nx3 _ (by simp))).trans E5.out
        have T6 : Hid (y3.heap[G6]? = some (.cells #[.int .i64 l2.au, .int .i64 l2.sq, .int .i64 l2.ep, .slice A1 n1 c1, .slice A2 nb c2] 40 (0, 0))) := (f3.block G6 (lt_of_blk E6.out) (nx3 _ (by simp))).trans E6.out
        have sub3 : ∀ k, k ∈ q.ob ++ o3 ++ (ow ++ [G6, G5, G3]) → k ∈ q.ob ++ q.oi ++ (ow ++ [G6, G5, G3]) ∨ y2.heap.size ≤ k := fun k hk => by
          rcases List.mem_append.1 hk with h | h
          · rcases List.mem_append.1 h with h | h
            · exact Or.inl (List.mem_append.2 (Or.inl (List.mem_append.2 (Or.inl h))))
            · exact (f3.sub k h).imp (fun h2 => List.mem_append.2 (Or.inl (List.mem_append.2 (Or.inr h2)))) id
          · exact Or.inl (List.mem_append.2 (Or.inr h))
        have own3 : ∀ k, k ∈ q.oi → k ∈ q.ob ++ q.oi ++ (ow ++ [G6, G5, G3]) := fun k hk => List.mem_append.2 (Or.inl (List.mem_append.2 (Or.inr hk)))
        have TR1 := Lib.hid (ER1.out.fr f3 own3 sub3)
        have TRK := Lib.hid (HPE.out.rk.fr f3 own3 sub3)
        have TVT := Lib.hid (HPE.out.vt.fr f3 own3 sub3)
        have KW3 : Hid (BookAt y3 gw S ow (q.ob ++ o3 ++ [G6, G5, G3])) := KW.out.keep f3 (fun k hk => List.mem_append.2 (Or.inl (List.mem_append.2 (Or.inr hk)))) (fun k hk hm => (HPE.out.pr.xd k (List.mem_append.2 (Or.inl hm))).2 hk) (fun k hk => by
          rcases List.mem_append.1 hk with h | h
          · rcases List.mem_append.1 h with h | h
            · exact Or.inl (List.mem_append.2 (Or.inl (List.mem_append.2 (Or.inl h))))
            · exact (f3.sub k h).imp (fun h2 => List.mem_append.2 (Or.inl (List.mem_append.2 (Or.inr h2)))) id
          · exact Or.inl (List.mem_append.2 (Or.inr h)))
        have Bw3 : Hid (Below w1.heap.size w1 y3) := BwE.out.trans (f3.toBelow (fun k hk => HPE.out.lo k (List.mem_append.2 (Or.inr hk))) BwE.out.size)
        have lo3 : Hid (∀ k, k ∈ q.ob ++ o3 → w1.heap.size ≤ k) := fun k hk => by
          rcases List.mem_append.1 hk with h | h
          · exact HPE.out.lo k (List.mem_append.2 (Or.inl h))
          · rcases f3.sub k h with h1 | h1
            · exact HPE.out.lo k (List.mem_append.2 (Or.inr h1))
            · exact Nat.le_trans BwE.out.size h1
        have d0 : y3.cell? ⟨G3, 0, none⟩ = some (.pointer (some ⟨q.gb, 0, none⟩)) := cell_blk T3.out 0 rfl
        have f0 : y3.cell? ⟨G6, 0, none⟩ = some (.int .i64 l2.au) := cell_blk T6.out 0 rfl
        clear p3 f3 nx3 sub3 own3
        go_wp2_with fail
        clear d0 f0
        refine (head_anyN q.gb S q.ob _ l2.au (q.ob ++ o3 ++ (ow ++ [G6, G5, G3])) y3 P3.out.bk P3.out.ltall).mono ?_
        rintro e y4 ⟨Ha, hm, hcc, rfl, hd4, b4⟩
        obtain ⟨L, hL⟩ : ∃ L, Hid ((ofA S l2.au).length = L) := ⟨_, Lib.hid rfl⟩
        rw [hL.out]
        obtain ⟨D4, hD4⟩ : ∃ D, Hid (D = y4.alloc (.cells #[.int .i64 (hau l2.au), .int .i64 L, .slice Ha hm hcc] 45)) := ⟨_, Lib.hid rfl⟩
        obtain ⟨G9, hG9⟩ : ∃ g, Hid (g = y4.heap.size) := ⟨_, Lib.hid rfl⟩
        have bD : Below y4.heap.size y4 D4 := by rw [hD4.out]; exact (Below.refl _ _).alloc (Nat.le_refl _) _
        have b34 : Hid (Below y3.heap.size y3 D4) := b4.trans (bD.mono b4.size)
        have S9 : Hid (D4.heap[G9]? = some (.cells #[.int .i64 (hau l2.au), .int .i64 L, .slice Ha hm hcc] 45 (0, 0))) := by unfold Hid; rw [hD4.out, hG9.out]; exact heap_alloc_new _ _
        have S3 : Hid (D4.heap[G3]? = some (.cells (plC q).toArray 35 (0, 0))) := (b34.out.block G3 (lt_of_blk T3.out)).trans T3.out
        have S5 : Hid (D4.heap[G5]? = some (.cells #[.int .i64 x.l.au, .int .i64 x.l.sq, .int .i64 x.l.ep, .slice Ap np cp, .slice Ab nb cb, .bool x.nx] 42 (0, 0))) := (b34.out.block G5 (lt_of_blk T5.out)).trans T5.out
        have S6 : Hid (D4.heap[G6]? = some (.cells #[.int .i64 l2.au, .int .i64 l2.sq, .int .i64 l2.ep, .slice A1 n1 c1, .slice A2 nb c2] 40 (0, 0))) := (b34.out.block G6 (lt_of_blk T6.out)).trans T6.out
        have hG9s : Hid (y3.heap.size ≤ G9) := by rw [hG9.out]; exact b4.size
        have P4 : Hid (PairAt D4 q.gb q.gi S (checkH S hs l2) q.ob o3 (G9 :: (ow ++ [G6, G5, G3]))) := P3.out.keep (Fr.below (own := []) b34.out) (fun _ h => absurd h (by simp)) (fun k hk => by rcases List.mem_cons.1 hk with h | h; exact Or.inr (by rw [h]; exact hG9s.out); exact Or.inl h) (fun k hk => by rcases List.mem_cons.1 hk with h | h; rw [h]; exact lt_of_blk S9.out; exact Nat.lt_of_lt_of_le (P3.out.xl k h) b34.out.size)
        have up4 : ∀ k, k ∈ q.ob ++ o3 ++ (G9 :: (ow ++ [G6, G5, G3])) → k ∈ q.ob ++ o3 ++ (ow ++ [G6, G5, G3]) ∨ y3.heap.size ≤ k := fun k hk => by
          rcases List.mem_append.1 hk with h | h
          · exact Or.inl (List.mem_append.2 (Or.inl h))
          · rcases List.mem_cons.1 h with h | h
            · exact Or.inr (by rw [h]; exact hG9s.out)
            · exact Or.inl (List.mem_append.2 (Or.inr h))
        have SR1 := Lib.hid (TR1.out.fr (own := []) (own' := []) (Fr.below b34.out) (fun _ h => absurd h (by simp)) up4)
        have SRK := Lib.hid (TRK.out.fr (own := []) (own' := []) (Fr.below b34.out) (fun _ h => absurd h (by simp)) up4)
        have SVT := Lib.hid (TVT.out.fr (own := []) (own' := []) (Fr.below b34.out) (fun _ h => absurd h (by simp)) up4)
        have SD : Hid (RdN (q.ob ++ o3 ++ (ow ++ [G6, G5, G3])) D4 1 Ha hm ((lastDg (ofA S l2.au)).map B8)) := hd4.fr (own := []) (own' := []) (Fr.below bD) (fun _ h => absurd h (by simp)) (fun _ h => Or.inl h)
        have KW4 := Lib.hid (KW3.out.below b34.out)
        have Bw4 : Hid (Below w1.heap.size w1 D4) := Bw3.out.trans (b34.out.mono Bw3.out.size)
        have hlow4 : Hid (∀ k, k ∈ q.ob ++ o3 ++ (G9 :: (ow ++ [G6, G5, G3])) → w1.heap.size ≤ k) := fun k hk => by
          rcases List.mem_append.1 hk with h | h
          · exact lo3.out k h
          · rcases List.mem_cons.1 h with h | h
            · rw [h]; exact Nat.le_trans Bw3.out.size hG9s.out
            · rcases List.mem_append.1 h with h | h
              · exact Nat.le_trans BwY.out.size (NW.out k h)
              · rcases List.mem_cons.1 h with h | h
                · rw [h, hG6.out]; exact Nat.le_trans BwV.out.size hvs.out
                · exact hlow.out k (List.mem_append.2 (Or.inr h))
        have d0 : D4.cell? ⟨G3, 0, none⟩ = some (.pointer (some ⟨q.gb, 0, none⟩)) := cell_blk S3.out 0 rfl
        have d1 : D4.cell? ⟨G3, 1, none⟩ = some (.pointer (some ⟨q.gi, 0, none⟩)) := cell_blk S3.out 1 rfl
        have d2 : D4.cell? ⟨G3, 2, none⟩ = some (.slice q.A q.n q.c) := cell_blk S3.out 2 rfl
        have d3 : D4.cell? ⟨G3, 3, none⟩ = some (.slice q.V q.vn q.vc) := cell_blk S3.out 3 rfl
        have d4 : D4.cell? ⟨G3, 4, none⟩ = some (.int .i64 0) := cell_blk S3.out 4 rfl
        have f0 : D4.cell? ⟨G5, 0, none⟩ = some (.int .i64 x.l.au) := cell_blk S5.out 0 rfl
        have f1 : D4.cell? ⟨G5, 1, none⟩ = some (.int .i64 x.l.sq) := cell_blk S5.out 1 rfl
        have f2 : D4.cell? ⟨G5, 2, none⟩ = some (.int .i64 x.l.ep) := cell_blk S5.out 2 rfl
        have f3 : D4.cell? ⟨G5, 3, none⟩ = some (.slice Ap np cp) := cell_blk S5.out 3 rfl
        have f4 : D4.cell? ⟨G5, 4, none⟩ = some (.slice Ab nb cb) := cell_blk S5.out 4 rfl
        have f5 : D4.cell? ⟨G5, 5, none⟩ = some (.bool x.nx) := cell_blk S5.out 5 rfl
        rw [hD4.out] at d0 d1 d2 d3 d4 f0 f1 f2 f3 f4 f5
        clear hd4 b4 bD up4
        go_wp2_with fail
        rw [← hD4.out, ← hG9.out]
        clear d0 d1 d2 d3 d4 f0 f1 f2 f3 f4 f5
        have hdoes := does2_ w1.heap.size ⟨q.gb, q.gi, q.A, q.n, q.c, q.V, q.vn, q.vc, q.ob, o3⟩ S hs (G9 :: (ow ++ [G6, G5, G3])) x.l x.nx Ap np cp Ab nb cb D4 (checkH S hs l2) P4.out ⟨SRK.out, SVT.out, HPE.out.vc, lo3.out⟩ (by rw [hl2.out]; exact checkE_again S hs l2) (by rw [hl2.out]; exact checkH_again S hs l2) (by have h1 := checkH_len S hs l2; have h2 := hhn.out; omega) HRe.out.ok Bw4.out.size ((RP.out.below Bw4.out).lowN Bw4.out.size hlow4.out) ((RB.out.below Bw4.out).lowN Bw4.out.size hlow4.out) (by have := hqn.out; show q.n ≤ _; omega) (by have h1 := SVT.out.len; have h2 := hhn.out; show q.vn ≤ _; omega) hle.out.1 hle.out.2
        unfold plV doV at hdoes
        simp only at hdoes
        refine hdoes.mono ?_
        clear hdoes
        rintro e v5 ⟨q', rfl, hp', hgb, hgi, hf'⟩
        clear hgb hgi
        rw [hl2.out] at hp'
        have HP' := Lib.hid hp'
        have F' := Lib.hid hf'
        obtain ⟨S', hS'⟩ : ∃ S', Hid (takeS S (checkH S hs l2) l2 = S') := ⟨_, Lib.hid rfl⟩
        obtain ⟨hs', hhs'⟩ : ∃ hs', Hid (takeH S (checkH S hs l2) l2 = hs') := ⟨_, Lib.hid rfl⟩
        have HRe' : Hid (Reach (i + 1) S' hs') := by rw [← hS'.out, ← hhs'.out]; exact HRe.out.step _
        rw [hS'.out, hhs'.out] at HP'
        have nx4 : ∀ k, k ∈ (G9 :: (ow ++ [G6, G5, G3])) → k ∉ q.ob ++ o3 := fun k hk hm => by
          rcases List.mem_append.1 hm with h | h
          · exact (P4.out.xd k hk).1 h
          · exact (P4.out.xd k hk).2 h
        have W3 : Hid (v5.heap[G3]? = some (.cells (plC q).toArray 35 (0, 0))) := (hf'.block G3 (lt_of_blk S3.out) (nx4 _ (by simp))).trans S3.out
        have W6 : Hid (v5.heap[G6]? = some (.cells #[.int .i64 l2.au, .int .i64 l2.sq, .int .i64 l2.ep, .slice A1 n1 c1, .slice A2 nb c2] 40 (0, 0))) := (hf'.block G6 (lt_of_blk S6.out) (nx4 _ (by simp))).trans S6.out
        have W9 : Hid (v5.heap[G9]? = some (.cells #[.int .i64 (hau l2.au), .int .i64 L, .slice Ha hm hcc] 45 (0, 0))) := (hf'.block G9 (lt_of_blk S9.out) (nx4 _ (by simp))).trans S9.out
        have sub5 : ∀ k, k ∈ q'.ob ++ q'.oi ++ [G3] → k ∈ q.ob ++ o3 ++ (ow ++ [G6, G5, G3]) ∨ D4.heap.size ≤ k := fun k hk => by
          rcases List.mem_append.1 hk with h | h
          · exact (hf'.sub k h).imp (fun h1 => List.mem_append.2 (Or.inl h1)) id
          · simp at h; exact Or.inl (by simp [h])
        have own5 : ∀ k, k ∈ q.ob ++ o3 → k ∈ q.ob ++ o3 ++ (ow ++ [G6, G5, G3]) := fun k hk => List.mem_append.2 (Or.inl hk)
        have SR1' : RdN (q.ob ++ o3 ++ (ow ++ [G6, G5, G3])) D4 1 A1 n1 (l2.pv.map B8) := SR1.out.less (fun k hk => Or.inl (by rcases List.mem_append.1 hk with h | h; exact List.mem_append.2 (Or.inl h); exact List.mem_append.2 (Or.inr (List.mem_cons_of_mem _ h))))
        have WR1 := Lib.hid (SR1'.fr hf' own5 sub5)
        have WD := Lib.hid (SD.out.fr hf' own5 sub5)
        have KW5 : Hid (BookAt v5 gw S ow (q'.ob ++ q'.oi ++ [G3])) := KW4.out.keep hf' (fun k hk => List.mem_append.2 (Or.inl hk)) (fun k hk hm => nx4 k (List.mem_cons_of_mem _ (List.mem_append.2 (Or.inl hm))) hk) (fun k hk => by
          rcases List.mem_append.1 hk with h | h
          · exact (hf'.sub k h).imp (fun h1 => List.mem_append.2 (Or.inl h1)) id
          · simp at h; exact Or.inl (by simp [h]))
        have Bw5 : Hid (Below w1.heap.size w1 v5) := Bw4.out.trans (hf'.toBelow (fun k hk => lo3.out k hk) Bw4.out.size)
        clear hp' hf' nx4 sub5 own5 SR1'
        have y4' := W3.out
        go_wp2_with (refine wpList_store_row rfl 35 (.tmp 3) (.tmp 53) rfl G3 (plC q').toArray rfl (by first | rfl | kernel_rfl) _ _ y4' (by kernel_rfl) rfl (by kernel_rfl) ?_)
        obtain ⟨Z, hZ⟩ : ∃ Z, Hid (Z = v5.setRow G3 (plC q').toArray) := ⟨_, Lib.hid rfl⟩
        rw [← hZ.out]
        have FZ : Hid (Fr [G3] v5 Z [G3]) := by rw [hZ.out]; exact setRow_fr _ _ _
        have Z3 : Hid (Z.heap[G3]? = some (.cells (plC q').toArray 35 (0, 0))) := by unfold Hid; rw [hZ.out]; exact setRow_heap _ _ _ _ _ _ W3.out
        have hne6 : Hid (G6 ≠ G3 ∧ G9 ≠ G3) := by have h1 := lt_of_blk V3.out; have h2 := hvs.out; have h3 := hG6.out; have h4 := hG9s.out; have h5 := lt_of_blk T3.out; unfold Hid; omega
        have Z6 : Hid (Z.heap[G6]? = some (.cells #[.int .i64 l2.au, .int .i64 l2.sq, .int .i64 l2.ep, .slice A1 n1 c1, .slice A2 nb c2] 40 (0, 0))) := (FZ.out.block G6 (lt_of_blk W6.out) (by simp; exact hne6.out.1)).trans W6.out
        have Z9 : Hid (Z.heap[G9]? = some (.cells #[.int .i64 (hau l2.au), .int .i64 L, .slice Ha hm hcc] 45 (0, 0))) := (FZ.out.block G9 (lt_of_blk W9.out) (by simp; exact hne6.out.2)).trans W9.out
        have PZ : Hid (Play Z w1.heap.size q' S' hs' [G3]) := HP'.out.keep FZ.out (fun k hk => by simp at hk; simp [hk]) (fun k hk => Or.inl (by simp at hk; simp [hk])) (fun k hk => by simp at hk; rw [hk]; exact lt_of_blk Z3.out)
        have sZ : ∀ k, k ∈ [G3] → k ∈ q'.ob ++ q'.oi ++ [G3] := fun k hk => List.mem_append.2 (Or.inr hk)
        have RZ1 : Hid (Rd Z Z.heap.size 1 A1 n1 (l2.pv.map B8)) := (WR1.out.fr FZ.out sZ (fun _ h => Or.inl h)).1
        have RZD : Hid (Rd Z Z.heap.size 1 Ha hm ((lastDg (ofA S l2.au)).map B8)) := (WD.out.fr FZ.out sZ (fun _ h => Or.inl h)).1
        have KZ : Hid (BookAt Z gw S ow (q'.ob ++ q'.oi ++ [G3])) := KW5.out.keep FZ.out sZ (fun k hk hm => by simp at hk; have h1 := NW.out k hm; have h2 := lt_of_blk Y3.out; omega) (fun _ h => Or.inl h)
        have BwZ : Hid (Below w1.heap.size w1 Z) := Bw5.out.trans (FZ.out.toBelow (fun k hk => by simp at hk; rw [hk]; exact hG3w.out) Bw5.out.size)
        have hSl : Hid (S.length ≤ 1000) := by have h2 := HRe.out.len; have h3 := HN.out; unfold Hid; omega
        clear sZ
        obtain ⟨wo, hwo⟩ : ∃ wo, wo = wr := ⟨wr, rfl⟩
        subst hwo
        go_loopw [55] (fun x55 wr => ∃ (a : Nat), x55 = .int .i64 a ∧ a ≤ 5 ∧ Hid (Below Z.heap.size Z wr)) (fun x55 _ => 5 - (intOf x55).toNat)
        case atStart => exact ⟨0, rfl, by omega, Below.refl _ _⟩
        case round =>
          obtain ⟨a, rfl, ha5, hz⟩ := hrel
          by_cases ha : a < 5
          · have ha' : (a : Int) < 5 := by omega
            have ha0 : (0 : Int) ≤ (a : Int) := by omega
            have hia : Hid (inI (a : Int)) := ⟨by omega, by omega⟩
            have e9 : IntKind.i64.wrap ((a : Int) + 1) = ((a + 1 : Nat) : Int) := by rw [IntWalk.i64_in _ (by omega)]; omega
            go_wp2_with fail
            obtain ⟨X, hX⟩ : ∃ W, Hid (W = wr.drew) := ⟨_, Lib.hid rfl⟩
            have dX : Below wr.heap.size wr X := by rw [hX.out]; exact below_drew (Below.refl _ _)
            have zX : Hid (Below Z.heap.size Z X) := hz.out.trans (dX.mono hz.out.size)
            have hX3 : Hid (∀ w', Below X.heap.size X w' → w'.cell? ⟨G3, 0, none⟩ = some (.pointer (some ⟨q'.gb, 0, none⟩))) := fun w' h' => cell_blk ((h'.block G3 (Nat.lt_of_lt_of_le (lt_of_blk Z3.out) zX.out.size)).trans ((zX.out.block G3 (lt_of_blk Z3.out)).trans Z3.out)) 0 rfl
            obtain ⟨na, hna⟩ : ∃ L, Hid ((ofA S (a : Int)).length = L) := ⟨_, Lib.hid rfl⟩
            obtain ⟨ma, hma⟩ : ∃ L, Hid ((ofA S' (a : Int)).length = L) := ⟨_, Lib.hid rfl⟩
            clear dX
            refine wp_region_noPanic ?_
            refine wp_region_held_drew (S := fun w' => Below X.heap.size X w') (by kernel_rfl) (by rw [← hX.out]; exact Below.refl _ _) (fun hS => ?_)
            rw [← hX.out]
            clear hS
            have hS : Below X.heap.size X X := Below.refl _ _
            refine wpAnyH_take (i := 0) (v := ?vt0) rfl (by kernel_rfl) (by kernel_rfl) (by kernel_rfl) (fun _ _ _ h => h) (Or.inl ⟨by rfl, ?hyt0⟩) hS ?restt0
            case hyt0 => (intro w' hSw; go_simp; first | done | with_reducible rfl)
            try simp only [Act.put, List.getElem_toArray, List.getElem_cons_zero, List.getElem_cons_succ, List.setIfInBounds_toArray, List.set_cons_zero, List.set_cons_succ]
            refine wpAnyH_take (i := 1) (v := ?vt1) rfl (by kernel_rfl) (by kernel_rfl) (by kernel_rfl) (fun _ _ _ h => h) (Or.inl ⟨by rfl, ?hyt1⟩) hS ?restt1
            case hyt1 => (intro w' hSw; go_simp; first | done | with_reducible rfl)
            try simp only [Act.put, List.getElem_toArray, List.getElem_cons_zero, List.getElem_cons_succ, List.setIfInBounds_toArray, List.set_cons_zero, List.set_cons_succ]
            refine wpAnyH_take (i := 4) (v := ?vt4) rfl (by kernel_rfl) (by kernel_rfl) (by kernel_rfl) (fun _ _ _ h => h) (Or.inl ⟨by rfl, ?hyt4⟩) hS ?restt4
            case hyt4 => (intro w' hSw; go_simp; first | done | with_reducible rfl)
            try simp only [Act.put, List.getElem_toArray, List.getElem_cons_zero, List.getElem_cons_succ, List.setIfInBounds_toArray, List.set_cons_zero, List.set_cons_succ]
            refine wpAnyH_take (i := 5) (v := .pointer (some ⟨q'.gb, 0, none⟩)) rfl (by kernel_rfl) (by kernel_rfl) (by kernel_rfl) (fun _ _ _ h => h) (Or.inl ⟨by rfl, ?hyt5⟩) hS ?restt5
            case hyt5 => (intro w' hSw; have c0 := hX3.out w' hSw; go_simp; first | done | with_reducible rfl)
            try simp only [Act.put, List.getElem_toArray, List.getElem_cons_zero, List.getElem_cons_succ, List.setIfInBounds_toArray, List.set_cons_zero, List.set_cons_succ]
            refine wpAnyH_take (i := 6) (v := ?vt6) rfl (by kernel_rfl) (by kernel_rfl) (by kernel_rfl) (fun _ _ _ h => h) (Or.inl ⟨by rfl, ?hyt6⟩) hS ?restt6
            case hyt6 => (intro w' hSw; go_simp; first | done | with_reducible rfl)
            try simp only [Act.put, List.getElem_toArray, List.getElem_cons_zero, List.getElem_cons_succ, List.setIfInBounds_toArray, List.set_cons_zero, List.set_cons_succ]
            refine wpAnyH_ready (rs := [2]) (by kernel_rfl) (by simp) ?_
            refine AllReadyH.cons rfl (fun K hK => ?_) AllReadyH.nil
            go_simp
            refine (head_any gw S ow _ (a : Int) X (KZ.out.below (zX.out.trans ((Below.refl _ _).mono zX.out.size)))).mono ?_
            rintro e yt1 ⟨Hx, hxm, hxc, rfl, _, bk⟩
            rw [hna.out]
            go_wp2_with fail
            have Bt1 := Lib.hid bk
            refine hK.out _ _ bk ?_
            intro hS
            clear hK K hS bk
            try simp only [Act.put, List.getElem_toArray, List.getElem_cons_zero, List.getElem_cons_succ, List.setIfInBounds_toArray, List.set_cons_zero, List.set_cons_succ]
            refine wpAnyH_strong (S2 := fun w' => Below yt1.heap.size yt1 w') (fun w' h' => Bt1.out.trans (h'.mono Bt1.out.size)) _ _ _ _ ?_
            have hS : Below yt1.heap.size yt1 yt1 := Below.refl _ _
            refine wpAnyH_take (i := 3) (v := .int .i64 na) rfl (by kernel_rfl) (by kernel_rfl) (by kernel_rfl) (fun _ _ _ h => h) (Or.inl ⟨by rfl, ?hyt3⟩) hS ?restt3
            case hyt3 => (intro w' hSw; have h := field_sq (.int .i64 (hau (a : Int))) (na : Int) (.slice Hx hxm hxc) w'; go_simp; first | done | with_reducible rfl)
            try simp only [Act.put, List.getElem_toArray, List.getElem_cons_zero, List.getElem_cons_succ, List.setIfInBounds_toArray, List.set_cons_zero, List.set_cons_succ]
            refine wpAnyH_ready (rs := [7]) (by kernel_rfl) (by simp) ?_
            refine AllReadyH.cons rfl (fun K hK => ?_) AllReadyH.nil
            go_simp
            refine (head_any q'.gb S' q'.ob _ (a : Int) yt1 (PZ.out.pr.bk.below (zX.out.trans (Bt1.out.mono zX.out.size)))).mono ?_
            rintro e yt2 ⟨Hy, hym, hyc, rfl, _, bk⟩
            rw [hma.out]
            go_wp2_with fail
            have Bt2 := Lib.hid bk
            refine hK.out _ _ bk ?_
            intro hS
            clear hK K hS bk
            try simp only [Act.put, List.getElem_toArray, List.getElem_cons_zero, List.getElem_cons_succ, List.setIfInBounds_toArray, List.set_cons_zero, List.set_cons_succ]
            refine wpAnyH_strong (S2 := fun w' => Below yt2.heap.size yt2 w') (fun w' h' => Bt2.out.trans (h'.mono Bt2.out.size)) _ _ _ _ ?_
            have hS : Below yt2.heap.size yt2 yt2 := Below.refl _ _
            refine wpAnyH_take (i := 8) (v := .int .i64 ma) rfl (by kernel_rfl) (by kernel_rfl) (by kernel_rfl) (fun _ _ _ h => h) (Or.inl ⟨by rfl, ?hyt8⟩) hS ?restt8
            case hyt8 => (intro w' hSw; have h := field_sq (.int .i64 (hau (a : Int))) (ma : Int) (.slice Hy hym hyc) w'; go_simp; first | done | with_reducible rfl)
            try simp only [Act.put, List.getElem_toArray, List.getElem_cons_zero, List.getElem_cons_succ, List.setIfInBounds_toArray, List.set_cons_zero, List.set_cons_succ]
            refine wpAnyH_take (i := 9) (v := ?vt9) rfl (by kernel_rfl) (by kernel_rfl) (by kernel_rfl) (fun _ _ _ h => h) (Or.inl ⟨by rfl, ?hyt9⟩) hS ?restt9
            case hyt9 => (intro w' hSw; go_simp; first | done | with_reducible rfl)
            try simp only [Act.put, List.getElem_toArray, List.getElem_cons_zero, List.getElem_cons_succ, List.setIfInBounds_toArray, List.set_cons_zero, List.set_cons_succ]
            refine wpAnyH_take (i := 10) (v := ?vt10) rfl (by kernel_rfl) (by kernel_rfl) (by kernel_rfl) (fun _ _ _ h => h) (Or.inl ⟨by rfl, ?hyt10⟩) hS ?restt10
            case hyt10 => (intro w' hSw; go_simp; first | done | with_reducible rfl)
            try simp only [Act.put, List.getElem_toArray, List.getElem_cons_zero, List.getElem_cons_succ, List.setIfInBounds_toArray, List.set_cons_zero, List.set_cons_succ]
            refine wpAnyH_done (by kernel_rfl) (NoPanic.normal ?_) _
            have zY : Hid (Below Z.heap.size Z yt2) := zX.out.trans ((Bt1.out.trans (Bt2.out.mono Bt1.out.size)).mono zX.out.size)
            obtain ⟨y, hy⟩ : ∃ y, y = yt2 := ⟨_, rfl⟩
            subst hy
            have hnab : Hid (na ≤ 1000) := by rw [← hna.out]; exact Nat.le_trans (ofA_len _ _) hSl.out
            have hgo := grow_or S hs l2 (a : Int)
            rw [hS'.out] at hgo
            obtain ⟨wm, hwm⟩ : ∃ wm, wm = wr := ⟨wr, rfl⟩
            subst hwm
            rcases hgo with hsame | ⟨hal, he0, hsq, hpv, k, happ⟩
            · have hmn : na = ma := by rw [← hma.out, ← hna.out, hsame]
              have hle' : Hid (na ≤ ma) := by unfold Hid; omega
              subst hmn
              clear hsame
              go_wp2_with fail
              go_loopw [13] (fun x13 wr => ∃ (j : Nat), x13 = .int .i64 ((j + 1 : Nat) : Int) ∧ j ≤ na ∧ Hid (Below Z.heap.size Z wr)) (fun x13 _ => na + 1 - (intOf x13).toNat)
              case atStart => exact ⟨0, rfl, by omega, zY⟩
              case round =>
                obtain ⟨j, rfl, hj, hzj⟩ := hrel
                by_cases hjn : j < na
                · have hjn' : ((j + 1 : Nat) : Int) ≤ (na : Int) := by omega
                  have e10 : IntKind.i64.wrap (((j + 1 : Nat) : Int) + 1) = ((j + 1 + 1 : Nat) : Int) := by have h1 := hnab.out; rw [IntWalk.i64_in _ (by omega)]; omega
                  have hjl : j < (ofA S (a : Int)).length := by rw [hna.out]; omega
                  have hAK := Lib.hid (grow_at S hs l2 (a : Int) hjl)
                  rw [hS'.out] at hAK
                  have hmono : Hid (0 < j → atE S' (a : Int) (j : Int) ≤ atE S' (a : Int) ((j + 1 : Nat) : Int)) := fun h0 => by
                    obtain ⟨j', rfl⟩ : ∃ j', j = j' + 1 := ⟨j - 1, by omega⟩
                    have h1 : j' + 1 < (ofA S' (a : Int)).length := by rw [hma.out]; have := hle'.out; omega
                    exact mono_at HRe'.out.mono HRe'.out.ok (a : Int) h1
                  obtain ⟨q1, hq1⟩ : ∃ q : Int, Hid (((j + 1 : Nat) : Int) = q) := ⟨_, Lib.hid rfl⟩
                  have hq1' : Hid (((j + 1 + 1 : Nat) : Int) = q1 + 1) := by rw [← hq1.out]; unfold Hid; omega
                  rw [hq1.out] at hjn' e10 hAK hmono ⊢
                  go_wp2_with fail
                  refine (at_any gw S ow _ (a : Int) q1 wr (KZ.out.below hzj.out) hia.out).mono ?_
                  rintro e r1 ⟨Da, dam, dac, rfl, rda, br1⟩
                  have zR1 : Hid (Below Z.heap.size Z r1) := hzj.out.trans (br1.mono hzj.out.size)
                  have RDA := Lib.hid rda
                  have c3 : r1.cell? ⟨G3, 0, none⟩ = some (.pointer (some ⟨q'.gb, 0, none⟩)) := cell_blk ((zR1.out.block G3 (lt_of_blk Z3.out)).trans Z3.out) 0 rfl
                  clear rda br1
                  go_wp2_with fail
                  clear c3
                  refine (at_any q'.gb S' q'.ob _ (a : Int) q1 r1 (PZ.out.pr.bk.below zR1.out) hia.out).mono ?_
                  rintro e r2 ⟨Db, dbm, dbc, rfl, rdb, br2⟩
                  have hD1 : atD S' (a : Int) q1 = atD S (a : Int) q1 := by unfold atD; rw [hAK.out]
                  have hE1 : atE S' (a : Int) q1 = atE S (a : Int) q1 := by unfold atE; rw [hAK.out]
                  rw [hD1] at rdb
                  rw [hE1] at hmono ⊢
                  have zR2 : Hid (Below Z.heap.size Z r2) := zR1.out.trans (br2.mono zR1.out.size)
                  obtain ⟨dd, hdd⟩ : ∃ d, Hid (atD S (a : Int) q1 = d) := ⟨_, Lib.hid rfl⟩
                  obtain ⟨ee, hee⟩ : ∃ d, Hid (atE S (a : Int) q1 = d) := ⟨_, Lib.hid rfl⟩
                  rw [hdd.out] at rdb RDA
                  rw [hee.out] at hmono ⊢
                  have hc1 := conv8 r2 Da dam dac dd (RDA.out.to br2)
                  have hc2 := conv8 r2 Db dbm dbc dd rdb
                  have hst : ((str dd).toList == (str dd).toList) = true := beq_self_eq_true _
                  have hee2 : (ee == ee) = true := beq_self_eq_true ee
                  clear hD1 hE1 rdb br2
                  by_cases hj0 : j = 0
                  · have hg : ¬ (1 : Int) < q1 := by have := hq1.out; omega
                    go_wp2_with fail
                    go_roundw
                    case rel => exact ⟨j + 1, by first | rfl | (have h1 := hq1'.out; congr 1; omega), by omega, zR2⟩
                    case measure => simp only [intOf]; have := hq1.out; have := hq1'.out; omega
                  · have hg : (1 : Int) < q1 := by have := hq1.out; omega
                    have c3 : r2.cell? ⟨G3, 0, none⟩ = some (.pointer (some ⟨q'.gb, 0, none⟩)) := cell_blk ((zR2.out.block G3 (lt_of_blk Z3.out)).trans Z3.out) 0 rfl
                    have hwj : IntKind.i64.wrap (q1 - 1) = (j : Int) := by have h1 := hnab.out; have h2 := hq1.out; rw [IntWalk.i64_in _ (by omega)]; omega
                    go_wp2_with fail
                    refine (before_ q'.gb S' q'.ob _ (a : Int) q1 (j : Int) r2 (PZ.out.pr.bk.below zR2.out) hia.out hwj).mono ?_
                    rintro e r3 ⟨rfl, br3⟩
                    have zR3 : Hid (Below Z.heap.size Z r3) := zR2.out.trans (br3.mono zR2.out.size)
                    have hng : ¬ ee < atE S' (a : Int) (j : Int) := by have := hmono.out (by omega); omega
                    clear br3 hc1 hc2
                    go_wp2_with fail
                    go_roundw
                    case rel => exact ⟨j + 1, by first | rfl | (have h1 := hq1'.out; congr 1; omega), by omega, zR3⟩
                    case measure => simp only [intOf]; have := hq1.out; have := hq1'.out; omega
                · have hjn' : ¬ ((j + 1 : Nat) : Int) ≤ (na : Int) := by omega
                  go_wp2_with fail
                  go_roundw
                  case rel => exact ⟨a + 1, by go_num, by omega, hzj⟩
                  case measure => simp only [intOf]; omega
            · have hmn : ma = na + 1 := by rw [← hma.out, ← hna.out, happ]; simp
              have hle' : Hid (na ≤ ma) := by unfold Hid; omega
              subst hmn
              rw [heE.out] at he0
              subst he0
              rw [hna.out] at hsq
              have hpv2 : lastDg (ofA S l2.au) = l2.pv := by rw [← hal]; exact hpv
              have g0 : y.cell? ⟨G6, 0, none⟩ = some (.int .i64 (a : Int)) := by rw [hal]; exact cell_blk ((zY.out.block G6 (lt_of_blk Z6.out)).trans Z6.out) 0 rfl
              have g1 : y.cell? ⟨G6, 1, none⟩ = some (.int .i64 ((na + 1 : Nat) : Int)) := by rw [show ((na + 1 : Nat) : Int) = l2.sq by omega]; exact cell_blk ((zY.out.block G6 (lt_of_blk Z6.out)).trans Z6.out) 1 rfl
              have g3 : y.cell? ⟨G6, 3, none⟩ = some (.slice A1 n1 c1) := cell_blk ((zY.out.block G6 (lt_of_blk Z6.out)).trans Z6.out) 3 rfl
              have g9 : y.cell? ⟨G9, 2, none⟩ = some (.slice Ha hm hcc) := cell_blk ((zY.out.block G9 (lt_of_blk Z9.out)).trans Z9.out) 2 rfl
              have hc1 := conv8 y A1 n1 c1 l2.pv (RZ1.out.to zY.out)
              have hc2 := conv8 y Ha hm hcc l2.pv (by rw [← hpv2]; exact RZD.out.to zY.out)
              have hst : ((str l2.pv).toList == (str l2.pv).toList) = true := beq_self_eq_true _
              have hw1 : IntKind.i64.wrap ((na : Int) + 1) = ((na + 1 : Nat) : Int) := by have := hnab.out; rw [IntWalk.i64_in _ (by omega)]; omega
              have hne1 : (((na + 1 : Nat) : Int) == (na : Int)) = false := by simp; omega
              have hne2 : ¬ ((na + 1 : Nat) : Int) = (na : Int) := by omega
              clear hal hsq hpv hpv2 happ
              go_wp2_with fail
              clear g0 g1 g3 g9 hc1 hc2
              go_loopw [13] (fun x13 wr => ∃ (j : Nat), x13 = .int .i64 ((j + 1 : Nat) : Int) ∧ j ≤ na ∧ Hid (Below Z.heap.size Z wr)) (fun x13 _ => na + 1 - (intOf x13).toNat)
              case atStart => exact ⟨0, rfl, by omega, zY⟩
              case round =>
                obtain ⟨j, rfl, hj, hzj⟩ := hrel
                by_cases hjn : j < na
                · have hjn' : ((j + 1 : Nat) : Int) ≤ (na : Int) := by omega
                  have e10 : IntKind.i64.wrap (((j + 1 : Nat) : Int) + 1) = ((j + 1 + 1 : Nat) : Int) := by have h1 := hnab.out; rw [IntWalk.i64_in _ (by omega)]; omega
                  have hjl : j < (ofA S (a : Int)).length := by rw [hna.out]; omega
                  have hAK := Lib.hid (grow_at S hs l2 (a : Int) hjl)
                  rw [hS'.out] at hAK
                  have hmono : Hid (0 < j → atE S' (a : Int) (j : Int) ≤ atE S' (a : Int) ((j + 1 : Nat) : Int)) := fun h0 => by
                    obtain ⟨j', rfl⟩ : ∃ j', j = j' + 1 := ⟨j - 1, by omega⟩
                    have h1 : j' + 1 < (ofA S' (a : Int)).length := by rw [hma.out]; have := hle'.out; omega
                    exact mono_at HRe'.out.mono HRe'.out.ok (a : Int) h1
                  obtain ⟨q1, hq1⟩ : ∃ q : Int, Hid (((j + 1 : Nat) : Int) = q) := ⟨_, Lib.hid rfl⟩
                  have hq1' : Hid (((j + 1 + 1 : Nat) : Int) = q1 + 1) := by rw [← hq1.out]; unfold Hid; omega
                  rw [hq1.out] at hjn' e10 hAK hmono ⊢
                  go_wp2_with fail
                  refine (at_any gw S ow _ (a : Int) q1 wr (KZ.out.below hzj.out) hia.out).mono ?_
                  rintro e r1 ⟨Da, dam, dac, rfl, rda, br1⟩
                  have zR1 : Hid (Below Z.heap.size Z r1) := hzj.out.trans (br1.mono hzj.out.size)
                  have RDA := Lib.hid rda
                  have c3 : r1.cell? ⟨G3, 0, none⟩ = some (.pointer (some ⟨q'.gb, 0, none⟩)) := cell_blk ((zR1.out.block G3 (lt_of_blk Z3.out)).trans Z3.out) 0 rfl
                  clear rda br1
                  go_wp2_with fail
                  clear c3
                  refine (at_any q'.gb S' q'.ob _ (a : Int) q1 r1 (PZ.out.pr.bk.below zR1.out) hia.out).mono ?_
                  rintro e r2 ⟨Db, dbm, dbc, rfl, rdb, br2⟩
                  have hD1 : atD S' (a : Int) q1 = atD S (a : Int) q1 := by unfold atD; rw [hAK.out]
                  have hE1 : atE S' (a : Int) q1 = atE S (a : Int) q1 := by unfold atE; rw [hAK.out]
                  rw [hD1] at rdb
                  rw [hE1] at hmono ⊢
                  have zR2 : Hid (Below Z.heap.size Z r2) := zR1.out.trans (br2.mono zR1.out.size)
                  obtain ⟨dd, hdd⟩ : ∃ d, Hid (atD S (a : Int) q1 = d) := ⟨_, Lib.hid rfl⟩
                  obtain ⟨ee, hee⟩ : ∃ d, Hid (atE S (a : Int) q1 = d) := ⟨_, Lib.hid rfl⟩
                  rw [hdd.out] at rdb RDA
                  rw [hee.out] at hmono ⊢
                  have hc1 := conv8 r2 Da dam dac dd (RDA.out.to br2)
                  have hc2 := conv8 r2 Db dbm dbc dd rdb
                  have hst : ((str dd).toList == (str dd).toList) = true := beq_self_eq_true _
                  have hee2 : (ee == ee) = true := beq_self_eq_true ee
                  clear hD1 hE1 rdb br2
                  by_cases hj0 : j = 0
                  · have hg : ¬ (1 : Int) < q1 := by have := hq1.out; omega
                    go_wp2_with fail
                    go_roundw
                    case rel => exact ⟨j + 1, by first | rfl | (have h1 := hq1'.out; congr 1; omega), by omega, zR2⟩
                    case measure => simp only [intOf]; have := hq1.out; have := hq1'.out; omega
                  · have hg : (1 : Int) < q1 := by have := hq1.out; omega
                    have c3 : r2.cell? ⟨G3, 0, none⟩ = some (.pointer (some ⟨q'.gb, 0, none⟩)) := cell_blk ((zR2.out.block G3 (lt_of_blk Z3.out)).trans Z3.out) 0 rfl
                    have hwj : IntKind.i64.wrap (q1 - 1) = (j : Int) := by have h1 := hnab.out; have h2 := hq1.out; rw [IntWalk.i64_in _ (by omega)]; omega
                    go_wp2_with fail
                    refine (before_ q'.gb S' q'.ob _ (a : Int) q1 (j : Int) r2 (PZ.out.pr.bk.below zR2.out) hia.out hwj).mono ?_
                    rintro e r3 ⟨rfl, br3⟩
                    have zR3 : Hid (Below Z.heap.size Z r3) := zR2.out.trans (br3.mono zR2.out.size)
                    have hng : ¬ ee < atE S' (a : Int) (j : Int) := by have := hmono.out (by omega); omega
                    clear br3 hc1 hc2
                    go_wp2_with fail
                    go_roundw
                    case rel => exact ⟨j + 1, by first | rfl | (have h1 := hq1'.out; congr 1; omega), by omega, zR3⟩
                    case measure => simp only [intOf]; have := hq1.out; have := hq1'.out; omega
                · have hjn' : ¬ ((j + 1 : Nat) : Int) ≤ (na : Int) := by omega
                  go_wp2_with fail
                  go_roundw
                  case rel => exact ⟨a + 1, by go_num, by omega, hzj⟩
                  case measure => simp only [intOf]; omega
          · have ha' : ¬ (a : Int) < 5 := by omega
            have Wz3 : Hid (wr.heap[G3]? = some (.cells (plC q').toArray 35 (0, 0))) := (hz.out.block G3 (lt_of_blk Z3.out)).trans Z3.out
            have PWz := Lib.hid (PZ.out.below hz.out)
            have Bwz : Hid (Below w1.heap.size w1 wr) := BwZ.out.trans (hz.out.mono BwZ.out.size)
            go_wp2_with fail
            go_roundw
            case rel => exact ⟨i + 1, q', S', hs', by go_num, hin, PWz, HRe', Wz3, Bwz⟩
            case measure => simp only [intOf]; omega
      · have hin' : ¬ (i : Int) < (n : Int) := by omega
        go_wp2_with fail
        refine (awake_ wr).mono ?_
        rintro e w2 ⟨rfl, b2⟩
        have B2 := Lib.hid (hb.out.trans (b2.mono hb.out.size))
        clear b2
        go_wp2_with fail
        go_ret
        exact ⟨rfl, B1.out.trans (B2.out.mono B1.out.size)⟩
end Go.Proofs.Ytabcbpcfleociaa
