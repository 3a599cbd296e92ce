/- The law's step in the book and in the document's: does. (Printed by gen_plc.py.) -/
import Derived.Test.YtabcbpcfleociaaMPla
import Derived.Test.YtabcbpcfleociaaMFro
namespace Go.Proofs.Ytabcbpcfleociaa
open Go.RowKit
attribute [local go_sem ↓] Go.wp_at_zero Go.wp_at_succ
set_option linter.unusedSimpArgs false
set_option linter.unusedVariables false
set_option maxRecDepth 20000 in
set_option maxHeartbeats 8000000 in
theorem does_ (B : Nat) (p : Pl) (S : Bk) (hs : List (List UInt8)) (X : List Nat) (l : Ln) (nx : Bool) (pA : Option Addr) (pn pc : Nat) (bA : Option Addr) (bn bc : Nat) (w : World) (H : Play w B p S hs X) (hok : S.ok) (hBw : B ≤ w.heap.size)
    (hp : RdN (p.ob ++ p.oi ++ X) w 1 pA pn (l.pv.map B8)) (hb : RdN (p.ob ++ p.oi ++ X) w 1 bA bn (l.bd.map B8)) (hn : p.n ≤ 99999) (hvn : p.vn ≤ 999998) (hpn : pn ≤ 140737488351232) (hbn : bn ≤ 140737488351232) :
    Calls Try.prog 19 #[plV p, doV l nx pA pn pc bA bn bc] w fun e w' => ∃ p', e = .returned (.tuple #[plV p', .bool true]) ∧ Play w' B p' (takeS S (checkH S hs (linkL S l nx)) (linkL S l nx)) (takeH S (checkH S hs (linkL S l nx)) (linkL S l nx)) X ∧ p'.gb = p.gb ∧ p'.gi = p.gi ∧ Fr (p.ob ++ p.oi) w w' (p'.ob ++ p'.oi) := by
  obtain ⟨W, hW⟩ : ∃ W, Hid (W = (((w.alloc (.cells #[.pointer (some ⟨p.gb, 0, none⟩), .pointer (some ⟨p.gi, 0, none⟩), .slice p.A p.n p.c, .slice p.V p.vn p.vc, .int .i64 0] 35)).alloc (.cells #[.int .i64 l.au, .int .i64 l.sq, .int .i64 l.ep, .slice pA pn pc, .slice bA bn bc, .bool nx] 42)).alloc (.cells #[.pointer none, .pointer none, .slice none 0 0, .slice none 0 0, .int .i64 0] 35))) := ⟨_, Lib.hid rfl⟩
  have hs1 : (w.alloc (.cells #[.pointer (some ⟨p.gb, 0, none⟩), .pointer (some ⟨p.gi, 0, none⟩), .slice p.A p.n p.c, .slice p.V p.vn p.vc, .int .i64 0] 35)).heap.size = w.heap.size + 1 := szAlloc _ _
  have hs2 : ((w.alloc (.cells #[.pointer (some ⟨p.gb, 0, none⟩), .pointer (some ⟨p.gi, 0, none⟩), .slice p.A p.n p.c, .slice p.V p.vn p.vc, .int .i64 0] 35)).alloc (.cells #[.int .i64 l.au, .int .i64 l.sq, .int .i64 l.ep, .slice pA pn pc, .slice bA bn bc, .bool nx] 42)).heap.size = w.heap.size + 2 := by rw [szAlloc, hs1]
  obtain ⟨G, hG⟩ : ∃ g, Hid (g = w.heap.size) := ⟨_, Lib.hid rfl⟩
  have hWs : Hid (W.heap.size = G + 3) := by unfold Hid; rw [hW.out, szAlloc, hs2, hG.out]
  have BW : Hid (Below w.heap.size w W) := by rw [hW.out]; exact (((Below.refl _ _).alloc (Nat.le_refl _) _).alloc (by rw [hs1]; omega) _).alloc (by rw [hs2]; omega) _
  have R0 : Hid (W.heap[G]? = some (.cells #[.pointer (some ⟨p.gb, 0, none⟩), .pointer (some ⟨p.gi, 0, none⟩), .slice p.A p.n p.c, .slice p.V p.vn p.vc, .int .i64 0] 35 (0, 0))) := by unfold Hid; rw [hW.out, hG.out]; exact (heap_alloc_old _ _ (by rw [hs2]; omega)).trans ((heap_alloc_old _ _ (by rw [hs1]; omega)).trans (heap_alloc_new _ _))
  have R1 : Hid (W.heap[G + 1]? = some (.cells #[.int .i64 l.au, .int .i64 l.sq, .int .i64 l.ep, .slice pA pn pc, .slice bA bn bc, .bool nx] 42 (0, 0))) := by unfold Hid; rw [hW.out, hG.out]; exact (heap_alloc_old _ _ (by rw [hs2]; omega)).trans (by rw [← hs1]; exact heap_alloc_new _ _)
  have R2 : Hid (W.heap[G + 2]? = some (.cells #[.pointer none, .pointer none, .slice none 0 0, .slice none 0 0, .int .i64 0] 35 (0, 0))) := by unfold Hid; rw [hW.out, hG.out, ← hs2]; exact heap_alloc_new _ _
  have HPl : Hid (Play W B p S hs X) := H.below BW.out
  have HPR := Lib.hid H.pr
  have up : ∀ k, k ∈ (G :: (G + 2) :: (p.ob ++ p.oi ++ X)) → k ∈ p.ob ++ p.oi ++ X ∨ w.heap.size ≤ k := fun k hk => by
    simp only [List.mem_cons] at hk
    rcases hk with h | h | h
    · exact Or.inr (by rw [h, hG.out]; omega)
    · exact Or.inr (by rw [h, hG.out]; omega)
    · exact Or.inl h
  have HP := Lib.hid (hp.fr (own := []) (own' := []) (Fr.below BW.out) (fun _ h => absurd h (by simp)) up)
  have HB := Lib.hid (hb.fr (own := []) (own' := []) (Fr.below BW.out) (fun _ h => absurd h (by simp)) up)
  have HK := Lib.hid (H.rk.fr (own := []) (own' := []) (Fr.below BW.out) (fun _ h => absurd h (by simp)) up)
  have HV := Lib.hid (H.vt.fr (own := []) (own' := []) (Fr.below BW.out) (fun _ h => absurd h (by simp)) up)
  have HNO : Hid (∀ k, k ∈ (G :: (G + 2) :: (p.ob ++ p.oi ++ X)) → k < W.heap.size) := fun k hk => by
    have h5 := hWs.out
    rcases up k hk with h | h
    · exact Nat.lt_of_lt_of_le (H.lt k h) BW.out.size
    · simp only [List.mem_cons] at hk
      rcases hk with h | h | h
      · omega
      · omega
      · exact Nat.lt_of_lt_of_le (H.lt k h) BW.out.size
  have HN := Lib.hid hn
  have HVN := Lib.hid hvn
  have HPN := Lib.hid hpn
  have HBN := Lib.hid hbn
  have HOK := Lib.hid hok
  have HBw := Lib.hid hBw
  have hlo : Hid (∀ k, k ∈ (p.ob ++ p.oi ++ X) → k < w.heap.size) := H.lt
  have x0 := cell_blk R0.out 0 rfl
  have x1 := cell_blk R0.out 1 rfl
  have x2 := cell_blk R0.out 2 rfl
  have x3 := cell_blk R0.out 3 rfl
  have x4 := cell_blk R0.out 4 rfl
  have y0 := cell_blk R1.out 0 rfl
  have y1 := cell_blk R1.out 1 rfl
  have y2 := cell_blk R1.out 2 rfl
  have y3 := cell_blk R1.out 3 rfl
  have y4 := cell_blk R1.out 4 rfl
  have y5 := cell_blk R1.out 5 rfl
  rw [hW.out, hG.out] at x0 x1 x2 x3 x4 y0 y1 y2 y3 y4 y5
  clear H hp hb hn hvn hpn hbn hok hBw hs1 hs2 up
  go_enter Try.func19, Try.ntmps19
  unfold plV doV
  go_wp2_with fail
  rw [← hW.out, ← hG.out]
  clear x0 x1 x2 x3 x4 y0 y1 y2 y3 y4 y5
  refine (link_ p S l nx pA pn pc bA bn bc (G :: (G + 2) :: (p.ob ++ p.oi ++ X)) W HK.out HOK.out HP.out HB.out (by have := HN.out; omega) HPN.out HBN.out HNO.out).mono ?_
  rintro e u1 ⟨A1, n1, c1, A2, c2, rfl, hc1, hc2, hr1, hr2, b1⟩
  obtain ⟨l2, hl2⟩ : ∃ l2, Hid (linkL S l nx = l2) := ⟨_, Lib.hid rfl⟩
  rw [hl2.out] at hr1 hr2 ⊢
  have B1 := Lib.hid b1
  have P1 := Lib.hid hr1
  have Q1 := Lib.hid hr2
  have C2 := Lib.hid hc2
  clear b1 hr1 hr2 hc1 hc2
  obtain ⟨U1, hU1⟩ : ∃ W0, Hid (W0 = u1.alloc (.cells #[.int .i64 l2.au, .int .i64 l2.sq, .int .i64 l2.ep, .slice A1 n1 c1, .slice A2 bn c2] 40)) := ⟨_, Lib.hid rfl⟩
  obtain ⟨g6, hg6⟩ : ∃ q, Hid (q = u1.heap.size) := ⟨_, Lib.hid rfl⟩
  have bU1 : Below u1.heap.size u1 U1 := by rw [hU1.out]; exact (Below.refl _ _).alloc (Nat.le_refl _) _
  have BU1 := Lib.hid (B1.out.trans (bU1.mono B1.out.size))
  have R6 : Hid (U1.heap[g6]? = some (.cells #[.int .i64 l2.au, .int .i64 l2.sq, .int .i64 l2.ep, .slice A1 n1 c1, .slice A2 bn c2] 40 (0, 0))) := by unfold Hid; rw [hU1.out, hg6.out]; exact heap_alloc_new _ _
  have hg6G : Hid (G + 3 ≤ g6) := by unfold Hid; rw [hg6.out, ← hWs.out]; exact B1.out.size
  have U0 : Hid (U1.heap[G]? = some (.cells #[.pointer (some ⟨p.gb, 0, none⟩), .pointer (some ⟨p.gi, 0, none⟩), .slice p.A p.n p.c, .slice p.V p.vn p.vc, .int .i64 0] 35 (0, 0))) := (BU1.out.block G (by have := hWs.out; omega)).trans R0.out
  have PU1 := Lib.hid (HPl.out.below BU1.out)
  have PP1 := Lib.hid (P1.out.below bU1)
  have QQ1 := Lib.hid (Q1.out.below bU1)
  have x2 := cell_blk U0.out 2 rfl
  have x3 := cell_blk U0.out 3 rfl
  have x4 := cell_blk U0.out 4 rfl
  have y0 := cell_blk R6.out 0 rfl
  have y1 := cell_blk R6.out 1 rfl
  have y2 := cell_blk R6.out 2 rfl
  have y3 := cell_blk R6.out 3 rfl
  have y4 := cell_blk R6.out 4 rfl
  rw [hU1.out, hg6.out] at y0 y1 y2 y3 y4
  rw [hU1.out] at x2 x3 x4
  unfold lnV
  go_wp2_with fail
  rw [← hU1.out, ← hg6.out]
  clear x2 x3 x4 y0 y1 y2 y3 y4 bU1
  refine (refCheck_ p.A p.n p.c p.V p.vn p.vc l2 A1 n1 c1 A2 bn c2 S hs (G :: (G + 2) :: (p.ob ++ p.oi ++ X)) U1 (HK.out.below BU1.out) (HV.out.below BU1.out) PP1.out QQ1.out (by have := HN.out; omega) (by have := HVN.out; omega) PU1.out.vc (fun k hk => Nat.lt_of_lt_of_le (HNO.out k hk) BU1.out.size)).mono ?_
  rintro e u2 ⟨V', vn', vc', rfl, hvc, hvt, b2⟩
  have B2 := Lib.hid b2
  have VT2 := Lib.hid hvt
  have VC2 := Lib.hid hvc
  obtain ⟨E, hE⟩ : ∃ E, Hid (checkE S hs l2 = E) := ⟨_, Lib.hid rfl⟩
  rw [hE.out]
  clear b2 hvt hvc
  obtain ⟨U2, hU2⟩ : ∃ W0, Hid (W0 = u2.alloc (.cells #[.slice V' vn' vc', .int .i64 0] 33)) := ⟨_, Lib.hid rfl⟩
  obtain ⟨g7, hg7⟩ : ∃ q, Hid (q = u2.heap.size) := ⟨_, Lib.hid rfl⟩
  have bU2 : Below u2.heap.size u2 U2 := by rw [hU2.out]; exact (Below.refl _ _).alloc (Nat.le_refl _) _
  have b12 : Hid (Below U1.heap.size U1 U2) := B2.out.trans (bU2.mono B2.out.size)
  have BU2 := Lib.hid (BU1.out.trans (b12.out.mono BU1.out.size))
  have R7 : Hid (U2.heap[g7]? = some (.cells #[.slice V' vn' vc', .int .i64 0] 33 (0, 0))) := by unfold Hid; rw [hU2.out, hg7.out]; exact heap_alloc_new _ _
  have hg67 : Hid (g6 < g7) := by unfold Hid; rw [hg7.out]; exact Nat.lt_of_lt_of_le (lt_of_blk R6.out) B2.out.size
  have S0 : Hid (U2.heap[G]? = some (.cells #[.pointer (some ⟨p.gb, 0, none⟩), .pointer (some ⟨p.gi, 0, none⟩), .slice p.A p.n p.c, .slice p.V p.vn p.vc, .int .i64 0] 35 (0, 0))) := (b12.out.block G (lt_of_blk U0.out)).trans U0.out
  have S6 : Hid (U2.heap[g6]? = some (.cells #[.int .i64 l2.au, .int .i64 l2.sq, .int .i64 l2.ep, .slice A1 n1 c1, .slice A2 bn c2] 40 (0, 0))) := (b12.out.block g6 (lt_of_blk R6.out)).trans R6.out
  have S2 : Hid (U2.heap[G + 2]? = some (.cells #[.pointer none, .pointer none, .slice none 0 0, .slice none 0 0, .int .i64 0] 35 (0, 0))) := (BU2.out.block (G + 2) (by have := hWs.out; omega)).trans R2.out
  have PU2 := Lib.hid (PU1.out.below b12.out)
  have PP2 := Lib.hid (PP1.out.below b12.out)
  have QQ2 := Lib.hid (QQ1.out.below b12.out)
  have VT3 := Lib.hid (VT2.out.below bU2)
  have hVL : Hid (hs.length = p.vn) := PU2.out.vt.len
  have x0 := cell_blk S0.out 0 rfl
  have x1 := cell_blk S0.out 1 rfl
  have y0 := cell_blk S6.out 0 rfl
  have y1 := cell_blk S6.out 1 rfl
  have y2 := cell_blk S6.out 2 rfl
  have y3 := cell_blk S6.out 3 rfl
  have y4 := cell_blk S6.out 4 rfl
  rw [hU2.out] at x0 x1 y0 y1 y2 y3 y4
  go_wp2_with fail
  rw [← hU2.out, ← hg7.out]
  clear x0 x1 y0 y1 y2 y3 y4 bU2
  have BwU2 : Hid (Below w.heap.size w U2) := BW.out.trans (BU2.out.mono BW.out.size)
  have PRX : Hid (PairAt U2 p.gb p.gi S hs p.ob p.oi (G :: (G + 2) :: g6 :: g7 :: X)) := HPR.out.keep (o2 := []) (o2' := []) (Fr.below BwU2.out) (fun _ h => absurd h (by simp)) (fun k hk => by
    simp only [List.mem_cons] at hk
    have h1 := hG.out
    have h2 := hg6G.out
    have h3 := hg67.out
    rcases hk with h | h | h | h | h
    · exact Or.inr (by omega)
    · exact Or.inr (by omega)
    · exact Or.inr (by omega)
    · exact Or.inr (by omega)
    · exact Or.inl h) (fun k hk => by
    simp only [List.mem_cons] at hk
    rcases hk with h | h | h | h | h
    · rw [h]; exact lt_of_blk S0.out
    · rw [h]; exact lt_of_blk S2.out
    · rw [h]; exact lt_of_blk S6.out
    · rw [h]; exact lt_of_blk R7.out
    · exact Nat.lt_of_lt_of_le (HPR.out.xl k h) BwU2.out.size)
  refine (PRX.out.check l2 A1 n1 c1 A2 bn c2 PP2.out.1 QQ2.out.1 (by have h1 := hVL.out; have h2 := HVN.out; omega)).mono ?_
  rintro e u3 ⟨oi3, rfl, hpr, hf⟩
  have PR3 := Lib.hid hpr
  have F3 := Lib.hid hf
  rw [hE.out]
  clear hpr hf
  have hlt2 : Hid (∀ k, k ∈ p.oi → k < G) := fun k hk => by rw [hG.out]; exact hlo.out k (by simp [hk])
  have T0 : Hid (u3.heap[G]? = some (.cells #[.pointer (some ⟨p.gb, 0, none⟩), .pointer (some ⟨p.gi, 0, none⟩), .slice p.A p.n p.c, .slice p.V p.vn p.vc, .int .i64 0] 35 (0, 0))) := (F3.out.block G (lt_of_blk S0.out) (fun h => Nat.lt_irrefl _ (hlt2.out G h))).trans S0.out
  have T6 : Hid (u3.heap[g6]? = some (.cells #[.int .i64 l2.au, .int .i64 l2.sq, .int .i64 l2.ep, .slice A1 n1 c1, .slice A2 bn c2] 40 (0, 0))) := (F3.out.block g6 (lt_of_blk S6.out) (fun h => by have h1 := hlt2.out g6 h; have h2 := hg6G.out; omega)).trans S6.out
  have T7 : Hid (u3.heap[g7]? = some (.cells #[.slice V' vn' vc', .int .i64 0] 33 (0, 0))) := (F3.out.block g7 (lt_of_blk R7.out) (fun h => by have h1 := hlt2.out g7 h; have h2 := hg6G.out; have h3 := hg67.out; omega)).trans R7.out
  have T2 : Hid (u3.heap[G + 2]? = some (.cells #[.pointer none, .pointer none, .slice none 0 0, .slice none 0 0, .int .i64 0] 35 (0, 0))) := (F3.out.block (G + 2) (lt_of_blk S2.out) (fun h => by have h1 := hlt2.out (G + 2) h; omega)).trans S2.out
  have x2 := cell_blk T0.out 2 rfl
  have x3 := cell_blk T0.out 3 rfl
  have x4 := cell_blk T0.out 4 rfl
  have fz3 := frozen_blk T0.out 3
  have fz4 := frozen_blk T0.out 4
  have z0 := cell_blk T7.out 0 rfl
  have z1 := cell_blk T7.out 1 rfl
  have y0 := cell_blk T6.out 0 rfl
  have y1 := cell_blk T6.out 1 rfl
  have y2 := cell_blk T6.out 2 rfl
  have y3 := cell_blk T6.out 3 rfl
  have y4 := cell_blk T6.out 4 rfl
  have n6 : ¬ g6 = G := by have := hg6G.out; omega
  have n6' : ¬ G = g6 := fun e => n6 e.symm
  go_wp2_with fail
  obtain ⟨u4, hu4⟩ : ∃ W0, Hid (W0 = (u3.setCell ⟨G, 3, none⟩ (.slice V' vn' vc')).setCell ⟨G, 4, none⟩ (.int .i64 0)) := ⟨_, Lib.hid rfl⟩
  rw [← hu4.out]
  have F4 : Hid (Fr [G] u3 u4 [G]) := by rw [hu4.out]; exact (setCell_fr _ _ _ _).trans (setCell_fr _ _ _ _)
  have W0 : Hid (u4.heap[G]? = some (.cells #[.pointer (some ⟨p.gb, 0, none⟩), .pointer (some ⟨p.gi, 0, none⟩), .slice p.A p.n p.c, .slice V' vn' vc', .int .i64 0] 35 (0, 0))) := by unfold Hid; rw [hu4.out]; exact heap_set (heap_set T0.out _) _
  clear x2 x3 x4 fz3 fz4 z0 z1 y0 y1 y2 y3 y4 n6 n6'
  have upT : ∀ k, k ∈ (g7 :: G :: (G + 2) :: (p.ob ++ oi3 ++ X)) → k ∈ (G :: (G + 2) :: (p.ob ++ p.oi ++ X)) ∨ u2.heap.size ≤ k := fun k hk => by
    simp only [List.mem_cons, List.mem_append] at hk
    rcases hk with h | h | h | (h | h) | h
    · exact Or.inr (by rw [h, hg7.out]; exact Nat.le_refl _)
    · exact Or.inl (by simp [h])
    · exact Or.inl (by simp [h])
    · exact Or.inl (by simp [h])
    · rcases F3.out.sub k h with h1 | h1
      · exact Or.inl (by simp [h1])
      · exact Or.inr (Nat.le_trans (by rw [hU2.out, szAlloc]; omega) h1)
    · exact Or.inl (by simp [h])
  have F24 : Hid (Fr (p.oi ++ [G]) u2 u4 (oi3 ++ [G])) := by
    have e0 : Below u2.heap.size u2 U2 := by rw [hU2.out]; exact (Below.refl _ _).alloc (Nat.le_refl _) _
    have h3 := (Fr.below (own := p.oi) e0).trans F3.out
    refine ⟨F4.out.os.trans h3.os, F4.out.tape.trans h3.tape, F4.out.output.trans h3.output, Nat.le_trans h3.size F4.out.size, fun k hk hn => ?_, fun k hk => ?_⟩
    · exact (F4.out.block k (Nat.lt_of_lt_of_le hk h3.size) (fun h => hn (List.mem_append.2 (Or.inr h)))).trans (h3.block k hk (fun h => hn (List.mem_append.2 (Or.inl h))))
    · rcases List.mem_append.1 hk with h | h
      · exact (h3.sub k h).imp (fun h => List.mem_append.2 (Or.inl h)) id
      · exact Or.inl (List.mem_append.2 (Or.inr h))
  have own24 : ∀ k, k ∈ p.oi ++ [G] → k ∈ (G :: (G + 2) :: (p.ob ++ p.oi ++ X)) := fun k hk => by rcases List.mem_append.1 hk with h | h; simp [h]; simp at h; simp [h]
  have B2u : Hid (Below W.heap.size W u2) := BU1.out.trans (B2.out.mono BU1.out.size)
  have RK4 := Lib.hid ((HK.out.below B2u.out).fr F24.out own24 upT)
  have VT4 := Lib.hid (VT2.out.fr F24.out own24 upT)
  have P4 := Lib.hid ((PP1.out.below B2.out).fr F24.out own24 upT)
  have Q4 := Lib.hid ((QQ1.out.below B2.out).fr F24.out own24 upT)
  have hnoT : Hid (∀ k, k ∈ (g7 :: G :: (G + 2) :: (p.ob ++ oi3 ++ X)) → k < u4.heap.size) := fun k hk => by
    have h4 := F4.out.size
    simp only [List.mem_cons, List.mem_append] at hk
    rcases hk with h | h | h | (h | h) | h
    · rw [h]; exact Nat.lt_of_lt_of_le (lt_of_blk T7.out) h4
    · rw [h]; exact Nat.lt_of_lt_of_le (lt_of_blk T0.out) h4
    · rw [h]; exact Nat.lt_of_lt_of_le (lt_of_blk T2.out) h4
    · exact Nat.lt_of_lt_of_le (PR3.out.bk.lt k h) h4
    · exact Nat.lt_of_lt_of_le (note_lt PR3.out.id k h) h4
    · exact Nat.lt_of_lt_of_le (PR3.out.xl k (by simp [h])) h4
  have hv4 : Hid (vn' ≤ 999999) := by have h1 := VT4.out.len; have h2 := checkH_len S hs l2; have h3 := hVL.out; have h4 := HVN.out; unfold Hid; omega
  refine (refTake_ p.A p.n p.c V' vn' vc' l2 A1 n1 c1 A2 bn c2 S (checkH S hs l2) (g7 :: G :: (G + 2) :: (p.ob ++ oi3 ++ X)) u4 RK4.out VT4.out P4.out Q4.out HN.out hv4.out VC2.out C2.out hnoT.out).mono ?_
  rintro e u5 ⟨A5, n5, c5, V5, vn5, vc5, rfl, hrk, hvc5, hvt5, b5⟩
  have B5 := Lib.hid b5
  have RK5 := Lib.hid hrk
  have VT5 := Lib.hid hvt5
  have VC5 := Lib.hid hvc5
  obtain ⟨E2, hE2⟩ : ∃ E, Hid (checkE S (checkH S hs l2) l2 = E) := ⟨_, Lib.hid rfl⟩
  rw [hE2.out]
  clear b5 hrk hvt5 hvc5 upT own24
  have Y7 : Hid (u5.heap[g7]? = some (.cells #[.slice V' vn' vc', .int .i64 0] 33 (0, 0))) := (B5.out.block g7 (Nat.lt_of_lt_of_le (lt_of_blk T7.out) F4.out.size)).trans ((F4.out.block g7 (lt_of_blk T7.out) (by have h1 := hg6G.out; have h2 := hg67.out; simp; omega)).trans T7.out)
  have h7 : ∀ o, (u5.alloc o).heap[g7]? = some (.cells #[.slice V' vn' vc', .int .i64 0] 33 (0, 0)) := fun o => (heap_alloc_old u5 o (lt_of_blk Y7.out)).trans Y7.out
  go_wp2_with (refine wpList_store_row rfl 33 (.tmp 7) (.tmp 41) rfl g7 #[.slice V5 vn5 vc5, .int .i64 0] rfl (by first | rfl | kernel_rfl) _ _ (h7 _) (by kernel_rfl) rfl (by kernel_rfl) ?_)
  obtain ⟨u6, hu6⟩ : ∃ W0, Hid (W0 = (u5.alloc (.cells #[.slice A5 n5 c5] 30)).setRow g7 #[.slice V5 vn5 vc5, .int .i64 0]) := ⟨_, Lib.hid rfl⟩
  obtain ⟨g10, hg10⟩ : ∃ q, Hid (q = u5.heap.size) := ⟨_, Lib.hid rfl⟩
  rw [← hu6.out, ← hg10.out]
  have F56 : Hid (Fr [g7] u5 u6 [g7]) := by rw [hu6.out]; exact (Fr.below ((Below.refl _ _).alloc (Nat.le_refl _) _)).trans (setRow_fr _ _ _)
  have hne7 : ¬ g10 = g7 := by rw [hg10.out]; have := lt_of_blk Y7.out; omega
  have I7 : Hid (u6.heap[g7]? = some (.cells #[.slice V5 vn5 vc5, .int .i64 0] 33 (0, 0))) := by unfold Hid; rw [hu6.out]; exact setRow_heap _ _ _ _ _ _ (h7 _)
  have I10 : Hid (u6.heap[g10]? = some (.cells #[.slice A5 n5 c5] 30 (0, 0))) := by unfold Hid; rw [hu6.out, setRow_other _ _ _ _ hne7, hg10.out]; exact heap_alloc_new _ _
  have hG7 : Hid (G < g7 ∧ G < g10 ∧ G < u5.heap.size) := by have h1 := hg6G.out; have h2 := hg67.out; have h3 := lt_of_blk Y7.out; have h4 := hg10.out; unfold Hid; omega
  have I0 : Hid (u6.heap[G]? = some (.cells #[.pointer (some ⟨p.gb, 0, none⟩), .pointer (some ⟨p.gi, 0, none⟩), .slice p.A p.n p.c, .slice V' vn' vc', .int .i64 0] 35 (0, 0))) := (F56.out.block G hG7.out.2.2 (by have := hG7.out; simp; omega)).trans ((B5.out.block G (lt_of_blk W0.out)).trans W0.out)
  clear h7 hne7
  obtain ⟨X6, hX6⟩ : ∃ W, Hid (W = u6.drew) := ⟨_, Lib.hid rfl⟩
  have dX6 : Below u6.heap.size u6 X6 := by rw [hX6.out]; exact below_drew (Below.refl _ _)
  have J0 : Hid (X6.heap[G]? = some (.cells #[.pointer (some ⟨p.gb, 0, none⟩), .pointer (some ⟨p.gi, 0, none⟩), .slice p.A p.n p.c, .slice V' vn' vc', .int .i64 0] 35 (0, 0))) := (dX6.block G (lt_of_blk I0.out)).trans I0.out
  have SX6 : X6.rangeAt g10 0 [.slice A5 n5 c5] ∧ X6.rangeAt g7 0 [.slice V5 vn5 vc5, .int .i64 0] := ⟨range_keep (range_of I10.out) dX6 (lt_of_blk I10.out), range_keep (range_of I7.out) dX6 (lt_of_blk I7.out)⟩
  have l10 : Hid (g10 < X6.heap.size ∧ g7 < X6.heap.size) := ⟨Nat.lt_of_lt_of_le (lt_of_blk I10.out) dX6.size, Nat.lt_of_lt_of_le (lt_of_blk I7.out) dX6.size⟩
  refine wp_region_noPanic ?_
  refine wp_region_held_drew (S := fun w' => w'.rangeAt g10 0 [.slice A5 n5 c5] ∧ w'.rangeAt g7 0 [.slice V5 vn5 vc5, .int .i64 0]) (by kernel_rfl) (by rw [← hX6.out]; exact SX6) (fun hS => ?_)
  rw [← hX6.out]
  clear hS
  have hS : X6.rangeAt g10 0 [.slice A5 n5 c5] ∧ X6.rangeAt g7 0 [.slice V5 vn5 vc5, .int .i64 0] := SX6
  refine wpAnyH_take (i := 0) (v := .agg #[.slice A5 n5 c5]) rfl (by kernel_rfl) (by kernel_rfl) (by kernel_rfl) (fun _ _ _ h => h) (Or.inl ⟨by rfl, ?hya0⟩) hS ?resta0
  case hya0 => (intro w' hSw; have c0 := hSw.1 0 _ rfl; go_simp; first | done | with_reducible rfl)
  try simp only [Act.put, List.getElem_toArray, List.getElem_cons_zero, List.getElem_cons_succ, List.setIfInBounds_toArray, List.set_cons_zero, List.set_cons_succ]
  refine wpAnyH_take (i := 1) (v := .agg #[.slice V5 vn5 vc5, .int .i64 0]) rfl (by kernel_rfl) (by kernel_rfl) (by kernel_rfl) (fun _ _ _ h => h) (Or.inl ⟨by rfl, ?hya1⟩) hS ?resta1
  case hya1 => (intro w' hSw; have c0 := hSw.2 0 _ rfl; have c1 := hSw.2 1 _ rfl; go_simp; first | done | with_reducible rfl)
  try simp only [Act.put, List.getElem_toArray, List.getElem_cons_zero, List.getElem_cons_succ, List.setIfInBounds_toArray, List.set_cons_zero, List.set_cons_succ]
  refine wpAnyH_take (i := 2) (v := ?va2) rfl (by kernel_rfl) (by kernel_rfl) (by kernel_rfl) (fun _ _ _ h => h) (Or.inl ⟨by rfl, ?hya2⟩) hS ?resta2
  case hya2 => (intro w' hSw; go_simp; first | done | with_reducible rfl)
  try simp only [Act.put, List.getElem_toArray, List.getElem_cons_zero, List.getElem_cons_succ, List.setIfInBounds_toArray, List.set_cons_zero, List.set_cons_succ]
  refine wpAnyH_ready (rs := [3]) (by kernel_rfl) (by simp) ?_
  refine AllReadyH.cons rfl (fun K hK => ?_) AllReadyH.nil
  have s0 := cell_blk J0.out 2 rfl
  have s1 := frozen_blk J0.out 2
  go_simp
  clear s0 s1
  obtain ⟨Y6, hY6⟩ : ∃ W0, Hid (W0 = X6.setCell ⟨G, 2, none⟩ (.slice A5 n5 c5)) := ⟨_, Lib.hid rfl⟩
  rw [← hY6.out]
  have FY6 : Hid (Fr [G] X6 Y6 [G]) := by rw [hY6.out]; exact setCell_fr _ _ _ _
  have K0 : Hid (Y6.heap[G]? = some (.cells #[.pointer (some ⟨p.gb, 0, none⟩), .pointer (some ⟨p.gi, 0, none⟩), .slice A5 n5 c5, .slice V' vn' vc', .int .i64 0] 35 (0, 0))) := by unfold Hid; rw [hY6.out]; exact heap_set J0.out _
  have SY6 : Y6.rangeAt g10 0 [.slice A5 n5 c5] ∧ Y6.rangeAt g7 0 [.slice V5 vn5 vc5, .int .i64 0] := ⟨range_fr SX6.1 FY6.out l10.out.1 (by have := hG7.out; simp; omega), range_fr SX6.2 FY6.out l10.out.2 (by have := hG7.out; simp; omega)⟩
  refine hK.out _ _ SY6 ?_
  intro hS
  clear hK K hS
  try simp only [Act.put, List.getElem_toArray, List.getElem_cons_zero, List.getElem_cons_succ, List.setIfInBounds_toArray, List.set_cons_zero, List.set_cons_succ]
  have hS : Y6.rangeAt g10 0 [.slice A5 n5 c5] ∧ Y6.rangeAt g7 0 [.slice V5 vn5 vc5, .int .i64 0] := SY6
  refine wpAnyH_take (i := 4) (v := ?vb4) rfl (by kernel_rfl) (by kernel_rfl) (by kernel_rfl) (fun _ _ _ h => h) (Or.inl ⟨by rfl, ?hyb4⟩) hS ?restb4
  case hyb4 => (intro w' hSw; go_simp; first | done | with_reducible rfl)
  try simp only [Act.put, List.getElem_toArray, List.getElem_cons_zero, List.getElem_cons_succ, List.setIfInBounds_toArray, List.set_cons_zero, List.set_cons_succ]
  refine wpAnyH_ready (rs := [5]) (by kernel_rfl) (by simp) ?_
  refine AllReadyH.cons rfl (fun K hK => ?_) AllReadyH.nil
  have s0 := cell_blk K0.out 3 rfl
  have s1 := frozen_blk K0.out 3
  have s2 := cell_blk K0.out 4 rfl
  have s3 := frozen_blk K0.out 4
  go_simp
  clear s0 s1 s2 s3
  obtain ⟨Z6, hZ6⟩ : ∃ W0, Hid (W0 = (Y6.setCell ⟨G, 3, none⟩ (.slice V5 vn5 vc5)).setCell ⟨G, 4, none⟩ (.int .i64 0)) := ⟨_, Lib.hid rfl⟩
  rw [← hZ6.out]
  have FZ6 : Hid (Fr [G] Y6 Z6 [G]) := by rw [hZ6.out]; exact (setCell_fr _ _ _ _).trans (setCell_fr _ _ _ _)
  have M0 : Hid (Z6.heap[G]? = some (.cells #[.pointer (some ⟨p.gb, 0, none⟩), .pointer (some ⟨p.gi, 0, none⟩), .slice A5 n5 c5, .slice V5 vn5 vc5, .int .i64 0] 35 (0, 0))) := by unfold Hid; rw [hZ6.out]; exact heap_set (heap_set K0.out _) _
  have SZ6 : Z6.rangeAt g10 0 [.slice A5 n5 c5] ∧ Z6.rangeAt g7 0 [.slice V5 vn5 vc5, .int .i64 0] := ⟨range_fr SY6.1 FZ6.out (Nat.lt_of_lt_of_le l10.out.1 FY6.out.size) (by have := hG7.out; simp; omega), range_fr SY6.2 FZ6.out (Nat.lt_of_lt_of_le l10.out.2 FY6.out.size) (by have := hG7.out; simp; omega)⟩
  refine hK.out _ _ SZ6 ?_
  intro hS
  clear hK K hS
  try simp only [Act.put, List.getElem_toArray, List.getElem_cons_zero, List.getElem_cons_succ, List.setIfInBounds_toArray, List.set_cons_zero, List.set_cons_succ]
  refine wpAnyH_done (by kernel_rfl) (NoPanic.normal ?_) _
  go_wp2_with fail
  have PR4 := Lib.hid (PR3.out.keep F4.out (fun k hk => by simp at hk; simp [hk]) (fun k hk => Or.inl hk) (fun k hk => Nat.lt_of_lt_of_le (PR3.out.xl k hk) F4.out.size))
  have PR5 := Lib.hid (PR4.out.below B5.out)
  have PR6 := Lib.hid (PR5.out.keep F56.out (fun k hk => by simp at hk; simp [hk]) (fun k hk => Or.inl hk) (fun k hk => Nat.lt_of_lt_of_le (PR5.out.xl k hk) F56.out.size))
  have PR7 := Lib.hid (PR6.out.below dX6)
  have FZ7 : Hid (Fr [G] X6 Z6 [G]) := FY6.out.trans FZ6.out
  have PR8 := Lib.hid (PR7.out.keep FZ7.out (fun k hk => by simp at hk; simp [hk]) (fun k hk => Or.inl hk) (fun k hk => Nat.lt_of_lt_of_le (PR7.out.xl k hk) FZ7.out.size))
  have n6G : g6 ≠ G := by have := hg6G.out; omega
  have n67 : g6 ≠ g7 := by have := hg67.out; omega
  have Q6 : Hid (Z6.heap[g6]? = some (.cells #[.int .i64 l2.au, .int .i64 l2.sq, .int .i64 l2.ep, .slice A1 n1 c1, .slice A2 bn c2] 40 (0, 0))) := by
    have q4 := (F4.out.block g6 (lt_of_blk T6.out) (by simp [n6G])).trans T6.out
    have q5 := (B5.out.block g6 (lt_of_blk q4)).trans q4
    have q6 := (F56.out.block g6 (lt_of_blk q5) (by simp [n67])).trans q5
    have q7 := (dX6.block g6 (lt_of_blk q6)).trans q6
    exact (FZ7.out.block g6 (lt_of_blk q7) (by simp [n6G])).trans q7
  have F58 : Hid (Fr [g7, G] u5 Z6 [g7, G]) := by
    refine ⟨FZ7.out.os.trans (dX6.os.trans F56.out.os), FZ7.out.tape.trans (dX6.tape.trans F56.out.tape), FZ7.out.output.trans (dX6.output.trans F56.out.output), Nat.le_trans F56.out.size (Nat.le_trans dX6.size FZ7.out.size), fun k hk hn => ?_, fun k hk => Or.inl hk⟩
    simp only [List.mem_cons, List.mem_nil_iff, or_false, not_or] at hn
    exact (FZ7.out.block k (Nat.lt_of_lt_of_le hk (Nat.le_trans F56.out.size dX6.size)) (by simp [hn.2])).trans ((dX6.block k (Nat.lt_of_lt_of_le hk F56.out.size)).trans (F56.out.block k hk (by simp [hn.1])))
  have P8 := Lib.hid ((P4.out.below B5.out).fr (no' := oi3) F58.out (fun k hk => by simp at hk; rcases hk with h | h <;> simp [h]) (fun k hk => Or.inl (by simp [hk])))
  have Q8 := Lib.hid ((Q4.out.below B5.out).fr (no' := oi3) F58.out (fun k hk => by simp at hk; rcases hk with h | h <;> simp [h]) (fun k hk => Or.inl (by simp [hk])))
  have hEE : (E == E) = true := beq_self_eq_true E
  obtain ⟨X7, hX7⟩ : ∃ W, Hid (W = Z6.drew) := ⟨_, Lib.hid rfl⟩
  have dX7 : Below Z6.heap.size Z6 X7 := by rw [hX7.out]; exact below_drew (Below.refl _ _)
  have SX7 : X7.rangeAt G 0 [.pointer (some ⟨p.gb, 0, none⟩), .pointer (some ⟨p.gi, 0, none⟩), .slice A5 n5 c5, .slice V5 vn5 vc5, .int .i64 0] ∧ X7.rangeAt g6 0 [.int .i64 l2.au, .int .i64 l2.sq, .int .i64 l2.ep, .slice A1 n1 c1, .slice A2 bn c2] := ⟨range_keep (range_of M0.out) dX7 (lt_of_blk M0.out), range_keep (range_of Q6.out) dX7 (lt_of_blk Q6.out)⟩
  have lX7 : Hid (G < X7.heap.size ∧ g6 < X7.heap.size) := ⟨Nat.lt_of_lt_of_le (lt_of_blk M0.out) dX7.size, Nat.lt_of_lt_of_le (lt_of_blk Q6.out) dX7.size⟩
  refine wp_region_noPanic ?_
  refine wp_region_held_drew (S := fun w' => w'.rangeAt G 0 [.pointer (some ⟨p.gb, 0, none⟩), .pointer (some ⟨p.gi, 0, none⟩), .slice A5 n5 c5, .slice V5 vn5 vc5, .int .i64 0] ∧ w'.rangeAt g6 0 [.int .i64 l2.au, .int .i64 l2.sq, .int .i64 l2.ep, .slice A1 n1 c1, .slice A2 bn c2]) (by kernel_rfl) (by rw [← hX7.out]; exact SX7) (fun hS => ?_)
  rw [← hX7.out]
  clear hS
  have hS : X7.rangeAt G 0 [.pointer (some ⟨p.gb, 0, none⟩), .pointer (some ⟨p.gi, 0, none⟩), .slice A5 n5 c5, .slice V5 vn5 vc5, .int .i64 0] ∧ X7.rangeAt g6 0 [.int .i64 l2.au, .int .i64 l2.sq, .int .i64 l2.ep, .slice A1 n1 c1, .slice A2 bn c2] := SX7
  refine wpAnyH_take (i := 0) (v := .agg #[.pointer (some ⟨p.gb, 0, none⟩), .pointer (some ⟨p.gi, 0, none⟩), .slice A5 n5 c5, .slice V5 vn5 vc5, .int .i64 0]) rfl (by kernel_rfl) (by kernel_rfl) (by kernel_rfl) (fun _ _ _ h => h) (Or.inl ⟨by rfl, ?hyr0⟩) hS ?restr0
  case hyr0 => (intro w' hSw; have c0 := hSw.1 0 _ rfl; have c1 := hSw.1 1 _ rfl; have c2 := hSw.1 2 _ rfl; have c3 := hSw.1 3 _ rfl; have c4 := hSw.1 4 _ rfl; go_simp; first | done | with_reducible rfl)
  try simp only [Act.put, List.getElem_toArray, List.getElem_cons_zero, List.getElem_cons_succ, List.setIfInBounds_toArray, List.set_cons_zero, List.set_cons_succ]
  refine wpAnyH_take (i := 1) (v := .int .i64 E) rfl (by kernel_rfl) (by kernel_rfl) (by kernel_rfl) (fun _ _ _ h => h) (Or.inl ⟨by rfl, ?hyr1⟩) hS ?restr1
  case hyr1 => (intro w' hSw; go_simp; first | done | with_reducible rfl)
  try simp only [Act.put, List.getElem_toArray, List.getElem_cons_zero, List.getElem_cons_succ, List.setIfInBounds_toArray, List.set_cons_zero, List.set_cons_succ]
  refine wpAnyH_take (i := 2) (v := .int .i64 E) rfl (by kernel_rfl) (by kernel_rfl) (by kernel_rfl) (fun _ _ _ h => h) (Or.inl ⟨by rfl, ?hyr2⟩) hS ?restr2
  case hyr2 => (intro w' hSw; go_simp; first | done | with_reducible rfl)
  try simp only [Act.put, List.getElem_toArray, List.getElem_cons_zero, List.getElem_cons_succ, List.setIfInBounds_toArray, List.set_cons_zero, List.set_cons_succ]
  refine wpAnyH_take (i := 3) (v := .bool true) rfl (by kernel_rfl) (by kernel_rfl) (by kernel_rfl) (fun _ _ _ h => h) (Or.inl ⟨by rfl, ?hyr3⟩) hS ?restr3
  case hyr3 => (intro w' hSw; have h := hEE; go_simp; first | done | with_reducible rfl)
  try simp only [Act.put, List.getElem_toArray, List.getElem_cons_zero, List.getElem_cons_succ, List.setIfInBounds_toArray, List.set_cons_zero, List.set_cons_succ]
  refine wpAnyH_take (i := 4) (v := .bool true) rfl (by kernel_rfl) (by kernel_rfl) (by kernel_rfl) (fun _ _ _ h => h) (Or.inl ⟨by rfl, ?hyr4⟩) hS ?restr4
  case hyr4 => (intro w' hSw; go_simp; first | done | with_reducible rfl)
  try simp only [Act.put, List.getElem_toArray, List.getElem_cons_zero, List.getElem_cons_succ, List.setIfInBounds_toArray, List.set_cons_zero, List.set_cons_succ]
  refine wpAnyH_take (i := 5) (v := ?vr5) rfl (by kernel_rfl) (by kernel_rfl) (by kernel_rfl) (fun _ _ _ h => h) (Or.inl ⟨by rfl, ?hyr5⟩) hS ?restr5
  case hyr5 => (intro w' hSw; go_simp; first | done | with_reducible rfl)
  try simp only [Act.put, List.getElem_toArray, List.getElem_cons_zero, List.getElem_cons_succ, List.setIfInBounds_toArray, List.set_cons_zero, List.set_cons_succ]
  refine wpAnyH_take (i := 6) (v := .pointer (some ⟨p.gb, 0, none⟩)) rfl (by kernel_rfl) (by kernel_rfl) (by kernel_rfl) (fun _ _ _ h => h) (Or.inl ⟨by rfl, ?hyr6⟩) hS ?restr6
  case hyr6 => (intro w' hSw; have c0 := hSw.1 0 _ rfl; go_simp; first | done | with_reducible rfl)
  try simp only [Act.put, List.getElem_toArray, List.getElem_cons_zero, List.getElem_cons_succ, List.setIfInBounds_toArray, List.set_cons_zero, List.set_cons_succ]
  refine wpAnyH_take (i := 7) (v := ?vr7) rfl (by kernel_rfl) (by kernel_rfl) (by kernel_rfl) (fun _ _ _ h => h) (Or.inl ⟨by rfl, ?hyr7⟩) hS ?restr7
  case hyr7 => (intro w' hSw; go_simp; first | done | with_reducible rfl)
  try simp only [Act.put, List.getElem_toArray, List.getElem_cons_zero, List.getElem_cons_succ, List.setIfInBounds_toArray, List.set_cons_zero, List.set_cons_succ]
  refine wpAnyH_take (i := 8) (v := .pointer (some ⟨p.gi, 0, none⟩)) rfl (by kernel_rfl) (by kernel_rfl) (by kernel_rfl) (fun _ _ _ h => h) (Or.inl ⟨by rfl, ?hyr8⟩) hS ?restr8
  case hyr8 => (intro w' hSw; have c0 := hSw.1 1 _ rfl; go_simp; first | done | with_reducible rfl)
  try simp only [Act.put, List.getElem_toArray, List.getElem_cons_zero, List.getElem_cons_succ, List.setIfInBounds_toArray, List.set_cons_zero, List.set_cons_succ]
  refine wpAnyH_take (i := 9) (v := ?vr9) rfl (by kernel_rfl) (by kernel_rfl) (by kernel_rfl) (fun _ _ _ h => h) (Or.inl ⟨by rfl, ?hyr9⟩) hS ?restr9
  case hyr9 => (intro w' hSw; go_simp; first | done | with_reducible rfl)
  try simp only [Act.put, List.getElem_toArray, List.getElem_cons_zero, List.getElem_cons_succ, List.setIfInBounds_toArray, List.set_cons_zero, List.set_cons_succ]
  refine wpAnyH_take (i := 10) (v := .agg #[.int .i64 l2.au, .int .i64 l2.sq, .int .i64 l2.ep, .slice A1 n1 c1, .slice A2 bn c2]) rfl (by kernel_rfl) (by kernel_rfl) (by kernel_rfl) (fun _ _ _ h => h) (Or.inl ⟨by rfl, ?hyr10⟩) hS ?restr10
  case hyr10 => (intro w' hSw; have c0 := hSw.2 0 _ rfl; have c1 := hSw.2 1 _ rfl; have c2 := hSw.2 2 _ rfl; have c3 := hSw.2 3 _ rfl; have c4 := hSw.2 4 _ rfl; go_simp; first | done | with_reducible rfl)
  try simp only [Act.put, List.getElem_toArray, List.getElem_cons_zero, List.getElem_cons_succ, List.setIfInBounds_toArray, List.set_cons_zero, List.set_cons_succ]
  refine wpAnyH_take (i := 12) (v := .int .i64 E2) rfl (by kernel_rfl) (by kernel_rfl) (by kernel_rfl) (fun _ _ _ h => h) (Or.inl ⟨by rfl, ?hyr12⟩) hS ?restr12
  case hyr12 => (intro w' hSw; go_simp; first | done | with_reducible rfl)
  try simp only [Act.put, List.getElem_toArray, List.getElem_cons_zero, List.getElem_cons_succ, List.setIfInBounds_toArray, List.set_cons_zero, List.set_cons_succ]
  refine wpAnyH_ready (rs := [11]) (by kernel_rfl) (by simp) ?_
  refine AllReadyH.cons rfl (fun K hK => ?_) AllReadyH.nil
  go_simp
  refine ((PR8.out.below dX7).take l2 A1 n1 c1 A2 bn c2 (P8.out.below dX7) (Q8.out.below dX7) (by have h1 := VT4.out.len; have h2 := hv4.out; omega) (by have h1 := RK4.out.len; have h2 := HN.out; omega)).mono ?_
  rintro e u8 ⟨oi8, rfl, hpr8, hf8⟩
  rw [hE2.out]
  have PR9 := Lib.hid hpr8
  have F8 := Lib.hid hf8
  clear hpr8 hf8
  have nG8 : ∀ k, k ∈ (G :: (G + 2) :: g6 :: g7 :: X) → k ∉ p.ob ++ oi3 := fun k hk hm => by rcases List.mem_append.1 hm with h | h; exact (PR8.out.xd k hk).1 h; exact (PR8.out.xd k hk).2 h
  have SX8 : u8.rangeAt G 0 [.pointer (some ⟨p.gb, 0, none⟩), .pointer (some ⟨p.gi, 0, none⟩), .slice A5 n5 c5, .slice V5 vn5 vc5, .int .i64 0] ∧ u8.rangeAt g6 0 [.int .i64 l2.au, .int .i64 l2.sq, .int .i64 l2.ep, .slice A1 n1 c1, .slice A2 bn c2] := ⟨range_fr SX7.1 F8.out lX7.out.1 (nG8 G (by simp)), range_fr SX7.2 F8.out lX7.out.2 (nG8 g6 (by simp))⟩
  have hE22 : (E2 == E2) = true := beq_self_eq_true E2
  go_wp2_with fail
  refine hK.out _ _ SX8 ?_
  intro hS
  clear hK K hS
  try simp only [Act.put, List.getElem_toArray, List.getElem_cons_zero, List.getElem_cons_succ, List.setIfInBounds_toArray, List.set_cons_zero, List.set_cons_succ]
  have hS : u8.rangeAt G 0 [.pointer (some ⟨p.gb, 0, none⟩), .pointer (some ⟨p.gi, 0, none⟩), .slice A5 n5 c5, .slice V5 vn5 vc5, .int .i64 0] ∧ u8.rangeAt g6 0 [.int .i64 l2.au, .int .i64 l2.sq, .int .i64 l2.ep, .slice A1 n1 c1, .slice A2 bn c2] := SX8
  refine wpAnyH_take (i := 13) (v := .bool true) rfl (by kernel_rfl) (by kernel_rfl) (by kernel_rfl) (fun _ _ _ h => h) (Or.inl ⟨by rfl, ?hys13⟩) hS ?rests13
  case hys13 => (intro w' hSw; have h := hE22; go_simp; first | done | with_reducible rfl)
  try simp only [Act.put, List.getElem_toArray, List.getElem_cons_zero, List.getElem_cons_succ, List.setIfInBounds_toArray, List.set_cons_zero, List.set_cons_succ]
  refine wpAnyH_take (i := 14) (v := .bool true) rfl (by kernel_rfl) (by kernel_rfl) (by kernel_rfl) (fun _ _ _ h => h) (Or.inl ⟨by rfl, ?hys14⟩) hS ?rests14
  case hys14 => (intro w' hSw; go_simp; first | done | with_reducible rfl)
  try simp only [Act.put, List.getElem_toArray, List.getElem_cons_zero, List.getElem_cons_succ, List.setIfInBounds_toArray, List.set_cons_zero, List.set_cons_succ]
  have k2 : Hid (Z6.heap[G + 2]? = some (.cells #[.pointer none, .pointer none, .slice none 0 0, .slice none 0 0, .int .i64 0] 35 (0, 0))) := by
    have h67 := hg67.out; have h6G := hg6G.out
    have q4 := (F4.out.block (G + 2) (lt_of_blk T2.out) (by simp)).trans T2.out
    have q5 := (B5.out.block (G + 2) (lt_of_blk q4)).trans q4
    exact (F58.out.block (G + 2) (lt_of_blk q5) (by simp; omega)).trans q5
  have k8 : Hid (u8.heap[G + 2]? = some (.cells #[.pointer none, .pointer none, .slice none 0 0, .slice none 0 0, .int .i64 0] 35 (0, 0))) := by
    have q7 := (dX7.block (G + 2) (lt_of_blk k2.out)).trans k2.out
    exact (F8.out.block (G + 2) (lt_of_blk q7) (nG8 (G + 2) (by simp))).trans q7
  refine wpAnyH_ready (rs := [15]) (by kernel_rfl) (by simp) ?_
  refine AllReadyH.cons rfl (fun K hK => ?_) AllReadyH.nil
  refine step_store_row 35 (.tmp 4) (.tmp 47) rfl rfl (G + 2) #[.pointer (some ⟨p.gb, 0, none⟩), .pointer (some ⟨p.gi, 0, none⟩), .slice A5 n5 c5, .slice V5 vn5 vc5, .int .i64 0] rfl (by first | rfl | kernel_rfl) _ _ k8.out (by kernel_rfl) rfl (by kernel_rfl) ?_
  obtain ⟨u9, hu9⟩ : ∃ W0, Hid (W0 = u8.setRow (G + 2) #[.pointer (some ⟨p.gb, 0, none⟩), .pointer (some ⟨p.gi, 0, none⟩), .slice A5 n5 c5, .slice V5 vn5 vc5, .int .i64 0]) := ⟨_, Lib.hid rfl⟩
  rw [← hu9.out]
  have F9 : Hid (Fr [G + 2] u8 u9 [G + 2]) := by rw [hu9.out]; exact setRow_fr _ _ _
  have k9 : Hid (u9.heap[G + 2]? = some (.cells #[.pointer (some ⟨p.gb, 0, none⟩), .pointer (some ⟨p.gi, 0, none⟩), .slice A5 n5 c5, .slice V5 vn5 vc5, .int .i64 0] 35 (0, 0))) := by unfold Hid; rw [hu9.out]; exact setRow_heap _ _ _ _ _ _ k8.out
  have SX9 : u9.rangeAt G 0 [.pointer (some ⟨p.gb, 0, none⟩), .pointer (some ⟨p.gi, 0, none⟩), .slice A5 n5 c5, .slice V5 vn5 vc5, .int .i64 0] ∧ u9.rangeAt g6 0 [.int .i64 l2.au, .int .i64 l2.sq, .int .i64 l2.ep, .slice A1 n1 c1, .slice A2 bn c2] := ⟨range_fr SX8.1 F9.out (Nat.lt_of_lt_of_le lX7.out.1 F8.out.size) (by simp), range_fr SX8.2 F9.out (Nat.lt_of_lt_of_le lX7.out.2 F8.out.size) (by have := hg6G.out; simp; omega)⟩
  refine hK.out _ _ SX9 ?_
  intro hS
  clear hK K hS
  try simp only [Act.put, List.getElem_toArray, List.getElem_cons_zero, List.getElem_cons_succ, List.setIfInBounds_toArray, List.set_cons_zero, List.set_cons_succ]
  have hS : u9.rangeAt G 0 [.pointer (some ⟨p.gb, 0, none⟩), .pointer (some ⟨p.gi, 0, none⟩), .slice A5 n5 c5, .slice V5 vn5 vc5, .int .i64 0] ∧ u9.rangeAt g6 0 [.int .i64 l2.au, .int .i64 l2.sq, .int .i64 l2.ep, .slice A1 n1 c1, .slice A2 bn c2] := SX9
  refine wpAnyH_take (i := 16) (v := ?vt16) rfl (by kernel_rfl) (by kernel_rfl) (by kernel_rfl) (fun _ _ _ h => h) (Or.inl ⟨by rfl, ?hyt16⟩) hS ?restt16
  case hyt16 => (intro w' hSw; go_simp; first | done | with_reducible rfl)
  try simp only [Act.put, List.getElem_toArray, List.getElem_cons_zero, List.getElem_cons_succ, List.setIfInBounds_toArray, List.set_cons_zero, List.set_cons_succ]
  refine wpAnyH_done (by kernel_rfl) (NoPanic.normal ?_) _
  go_wp2_with fail
  refine bodyPost_ret (v := .tuple #[.agg #[.pointer (some ⟨p.gb, 0, none⟩), .pointer (some ⟨p.gi, 0, none⟩), .slice A5 n5 c5, .slice V5 vn5 vc5, .int .i64 0], .bool true]) ?_ rfl ?_
  · exact results_cell_tmp Try.results19 rfl (run_loadVar_mid (P := Try.prog) u9 (G + 2) 0 35 _ _ (range_of k9.out) Try.underlying35 rfl (by kernel_rfl))
  have s58 : ∀ k, k ∈ [g7, G] → k ∈ (g7 :: G :: (G + 2) :: (p.ob ++ oi3 ++ X)) := fun k hk => by simp at hk; rcases hk with h | h <;> simp [h]
  have t58 : ∀ k, k ∈ ((G + 2) :: (p.ob ++ oi3 ++ X)) → k ∈ (g7 :: G :: (G + 2) :: (p.ob ++ oi3 ++ X)) ∨ u5.heap.size ≤ k := fun k hk => by simp only [List.mem_cons] at hk; rcases hk with h | h; exact Or.inl (by simp [h]); exact Or.inl (by simp only [List.mem_cons]; exact Or.inr (Or.inr (Or.inr h)))
  have s8 : ∀ k, k ∈ p.ob ++ oi3 → k ∈ ((G + 2) :: (p.ob ++ oi3 ++ X)) := fun k hk => List.mem_cons_of_mem _ (List.mem_append.2 (Or.inl hk))
  have t8 : ∀ k, k ∈ ((G + 2) :: (p.ob ++ oi8 ++ X)) → k ∈ ((G + 2) :: (p.ob ++ oi3 ++ X)) ∨ X7.heap.size ≤ k := fun k hk => by
    rcases List.mem_cons.1 hk with h | h
    · exact Or.inl (by simp [h])
    · rcases List.mem_append.1 h with h1 | h1
      · exact (F8.out.sub k h1).imp (s8 k) id
      · exact Or.inl (List.mem_cons_of_mem _ (List.mem_append.2 (Or.inr h1)))
  have s9 : ∀ k, k ∈ [G + 2] → k ∈ ((G + 2) :: (p.ob ++ oi8 ++ X)) := fun k hk => by simp at hk; simp [hk]
  have t9 : ∀ k, k ∈ p.ob ++ oi8 ++ X → k ∈ ((G + 2) :: (p.ob ++ oi8 ++ X)) ∨ u8.heap.size ≤ k := fun k hk => Or.inl (List.mem_cons_of_mem _ hk)
  have BwG : Hid (w.heap.size ≤ U2.heap.size) := BwU2.out.size
  have sz3 : Hid (U2.heap.size ≤ X7.heap.size) := Nat.le_trans F3.out.size (Nat.le_trans F4.out.size (Nat.le_trans B5.out.size (Nat.le_trans F58.out.size dX7.size)))
  refine ⟨⟨p.gb, p.gi, A5, n5, c5, V5, vn5, vc5, p.ob, oi8⟩, rfl, ⟨?_, ?_, ?_, VC5.out, fun k hk => ?_⟩, rfl, rfl, ?_⟩
  · rw [hl2.out]; exact PR9.out.keep F9.out (fun k hk => by simp at hk; simp [hk]) (fun k hk => Or.inl (by simp [hk])) (fun k hk => Nat.lt_of_lt_of_le (PR9.out.xl k (by simp [hk])) F9.out.size)
  · rw [hl2.out]; exact (((RK5.out.fr F58.out s58 t58).below dX7).fr F8.out s8 t8).fr F9.out s9 t9
  · rw [hl2.out]; exact (((VT5.out.fr F58.out s58 t58).below dX7).fr F8.out s8 t8).fr F9.out s9 t9
  · rcases List.mem_append.1 hk with h | h
    · exact HPl.out.lo k (List.mem_append.2 (Or.inl h))
    · rcases F8.out.sub k (List.mem_append.2 (Or.inr h)) with h1 | h1
      · rcases List.mem_append.1 h1 with h2 | h2
        · exact HPl.out.lo k (List.mem_append.2 (Or.inl h2))
        · rcases F3.out.sub k h2 with h3 | h3
          · exact HPl.out.lo k (List.mem_append.2 (Or.inr h3))
          · exact Nat.le_trans HBw.out (Nat.le_trans BwG.out h3)
      · exact Nat.le_trans HBw.out (Nat.le_trans BwG.out (Nat.le_trans sz3.out h1))
  · refine ⟨F9.out.os.trans (F8.out.os.trans (dX7.os.trans (F58.out.os.trans (B5.out.os.trans (F4.out.os.trans (F3.out.os.trans BwU2.out.os)))))), F9.out.tape.trans (F8.out.tape.trans (dX7.tape.trans (F58.out.tape.trans (B5.out.tape.trans (F4.out.tape.trans (F3.out.tape.trans BwU2.out.tape)))))), F9.out.output.trans (F8.out.output.trans (dX7.output.trans (F58.out.output.trans (B5.out.output.trans (F4.out.output.trans (F3.out.output.trans BwU2.out.output)))))), Nat.le_trans BwG.out (Nat.le_trans sz3.out (Nat.le_trans F8.out.size F9.out.size)), fun k hk hn => ?_, fun k hk => ?_⟩
    · have e0 := hG.out; have e1 := hg6G.out; have e2 := hg67.out
      have b2 : k < U2.heap.size := Nat.lt_of_lt_of_le hk BwG.out
      have b3 := Nat.lt_of_lt_of_le b2 F3.out.size
      have b4 := Nat.lt_of_lt_of_le b3 F4.out.size
      have b5 := Nat.lt_of_lt_of_le b4 B5.out.size
      have b8 := Nat.lt_of_lt_of_le b5 F58.out.size
      have b7 := Nat.lt_of_lt_of_le b8 dX7.size
      have c9 := F9.out.block k (Nat.lt_of_lt_of_le b7 F8.out.size) (by simp; omega)
      have c8 := F8.out.block k b7 (fun hm => by rcases List.mem_append.1 hm with h | h; exact hn (List.mem_append.2 (Or.inl h)); rcases F3.out.sub k h with h1 | h1; exact hn (List.mem_append.2 (Or.inr h1)); omega)
      exact c9.trans (c8.trans ((dX7.block k b8).trans ((F58.out.block k b5 (by simp; omega)).trans ((B5.out.block k b4).trans ((F4.out.block k b3 (by simp; omega)).trans ((F3.out.block k b2 (fun h => hn (List.mem_append.2 (Or.inr h)))).trans (BwU2.out.block k hk)))))))
    · rcases List.mem_append.1 hk with h | h
      · exact Or.inl (List.mem_append.2 (Or.inl h))
      · rcases F8.out.sub k (List.mem_append.2 (Or.inr h)) with h1 | h1
        · rcases List.mem_append.1 h1 with h2 | h2
          · exact Or.inl (List.mem_append.2 (Or.inl h2))
          · exact (F3.out.sub k h2).imp (fun h3 => List.mem_append.2 (Or.inr h3)) (fun h3 => Nat.le_trans BwG.out h3)
        · exact Or.inr (Nat.le_trans BwG.out (Nat.le_trans sz3.out h1))
end Go.Proofs.Ytabcbpcfleociaa

/- The law's steps, one behind another, in the book and in the document's: played. -/
namespace Go.Proofs.Ytabcbpcfleociaa
open Go.RowKit
attribute [local go_sem ↓] Go.wp_at_zero Go.wp_at_succ
set_option linter.unusedSimpArgs false
set_option linter.unusedVariables false
/-- What is known, and what was hashed, behind some steps. -/
inductive Reach : Nat → Bk → List (List UInt8) → Prop
  | nil : Reach 0 [] []
  | step {n : Nat} {S : Bk} {hs : List (List UInt8)} (l : Ln) : Reach n S hs → Reach (n + 1) (takeS S (checkH S hs l) l) (takeH S (checkH S hs l) l)
theorem Reach.ok {n : Nat} {S : Bk} {hs : List (List UInt8)} (h : Reach n S hs) : S.ok := by
  induction h with
  | nil => exact Bk.ok.nil
  | step l h ih => exact takeS_ok ih _ _
theorem Reach.len {n : Nat} {S : Bk} {hs : List (List UInt8)} (h : Reach n S hs) : S.length ≤ n ∧ hs.length ≤ 2 * n := by
  induction h with
  | nil => simp
  | @step n S hs l h ih =>
    have h1 := takeS_len S (checkH S hs l) l
    have h2 := takeH_len S (checkH S hs l) l
    have h3 := checkH_len S hs l
    omega
theorem Play.keep {w w' : World} {B : Nat} {p : Pl} {S : Bk} {hs : List (List UInt8)} {X o2 o2' X' : List Nat} (h : Play w B p S hs X) (hf : Fr o2 w w' o2') (h1 : ∀ k, k ∈ o2 → k ∈ X) (h3 : ∀ k, k ∈ X' → k ∈ X ∨ w.heap.size ≤ k) (h4 : ∀ k, k ∈ X' → k < w'.heap.size) : Play w' B p S hs X' := by
  have s1 : ∀ k, k ∈ o2 → k ∈ p.ob ++ p.oi ++ X := fun k hk => List.mem_append.2 (Or.inr (h1 k hk))
  have s2 : ∀ k, k ∈ p.ob ++ p.oi ++ X' → k ∈ p.ob ++ p.oi ++ X ∨ w.heap.size ≤ k := fun k hk => by
    rcases List.mem_append.1 hk with h5 | h5
    · exact Or.inl (List.mem_append.2 (Or.inl h5))
    · exact (h3 k h5).imp (fun h6 => List.mem_append.2 (Or.inr h6)) id
  exact ⟨h.pr.keep hf h1 h3 h4, h.rk.fr hf s1 s2, h.vt.fr hf s1 s2, h.vc, h.lo⟩
/-- What is read stays clear of the blocks that lie at or above a base. -/
theorem Rd.lowN {w : World} {B n : Nat} {A : Option Addr} {xs : List Value} {no : List Nat} (h : Rd w B 1 A n xs) (hB : B ≤ w.heap.size) (hno : ∀ k, k ∈ no → B ≤ k) : RdN no w 1 A n xs := by
  refine ⟨h.more hB, fun b o h0 e hm => ?_⟩
  obtain ⟨b', o', e', hb', _⟩ := h.2 h0
  rw [e] at e'
  injection e' with e'
  injection e' with e1
  have := hno b hm
  omega
/-- How long the slices in the steps are. -/
def Reaches (w : World) (A : Option Addr) (n : Nat) : Prop := ∀ (i b o : Nat) (Ap : Option Addr) (np cp : Nat) (Ab : Option Addr) (nb cb : Nat), i < n → A = some ⟨b, o, none⟩ → w.cell? ⟨b, o + i * 6 + 3, none⟩ = some (.slice Ap np cp) → w.cell? ⟨b, o + i * 6 + 4, none⟩ = some (.slice Ab nb cb) → np ≤ 140737488351232 ∧ nb ≤ 140737488351232
theorem RdD.more {w : World} {B B' n : Nat} {A : Option Addr} {ls : List Dn} (h : RdD w B A n ls) (hB : B ≤ B') : RdD w B' A n ls := by
  refine ⟨h.1, fun i x hx => ?_⟩
  obtain ⟨b, o, Ap, np, cp, Ab, nb, cb, e, hb, hr, i1, i2, i3, r1, l1, r2, l2⟩ := h.2 i x hx
  exact ⟨b, o, Ap, np, cp, Ab, nb, cb, e, Nat.lt_of_lt_of_le hb hB, hr, i1, i2, i3, r1.more hB, l1, r2.more hB, l2⟩
theorem Reaches.to {w w' : World} {B n : Nat} {A : Option Addr} {ls : List Dn} (h : Reaches w A n) (hr : RdD w B A n ls) (hb : Below B w w') : Reaches w' A n := by
  intro i b o Ap np cp Ab nb cb hi ha h3 h4
  have hl : i < ls.length := by rw [hr.1]; exact hi
  obtain ⟨b', o', Ap', np', cp', Ab', nb', cb', e, hB, _⟩ := hr.2 i ls[i] (List.getElem?_eq_getElem hl)
  rw [ha] at e
  injection e with e
  injection e with e1 e2
  subst e1
  refine h i b o Ap np cp Ab nb cb hi ha ?_ ?_
  · rw [← h3]; exact (World.cell?_of_block (a := ⟨b, o + i * 6 + 3, none⟩) (hb.block b hB)).symm
  · rw [← h4]; exact (World.cell?_of_block (a := ⟨b, o + i * 6 + 4, none⟩) (hb.block b hB)).symm
set_option maxRecDepth 8000 in
set_option maxHeartbeats 4000000 in
theorem played_ (A : Option Addr) (n c : Nat) (ls : List Dn) (w : World) (hr : RdD w w.heap.size A n ls) (hre : Reaches w A n) (hn : n ≤ 40) :
    Calls Try.prog 40 #[.slice A n c] w fun e w' => ∃ p S hs, e = .returned (.tuple #[plV p, .bool true]) ∧ Play w' w.heap.size p S hs [] ∧ Reach n S hs ∧ Below w.heap.size w w' := by
  obtain ⟨W, hW⟩ : ∃ W, Hid (W = w.alloc (.cells #[.pointer none, .pointer none, .slice none 0 0, .slice none 0 0, .int .i64 0] 35)) := ⟨_, Lib.hid rfl⟩
  obtain ⟨G, hG⟩ : ∃ g, Hid (g = w.heap.size) := ⟨_, Lib.hid rfl⟩
  have BW : Hid (Below w.heap.size w W) := by rw [hW.out]; exact (Below.refl _ _).alloc (Nat.le_refl _) _
  have RW : Hid (W.heap[G]? = some (.cells #[.pointer none, .pointer none, .slice none 0 0, .slice none 0 0, .int .i64 0] 35 (0, 0))) := by unfold Hid; rw [hW.out, hG.out]; exact heap_alloc_new _ _
  have hGW : Hid (G < W.heap.size) := lt_of_blk RW.out
  have HX : Hid (∀ k, k ∈ [G] → k < W.heap.size) := fun k hk => by simp at hk; exact hk ▸ hGW.out
  have HR := Lib.hid hr
  have HRE := Lib.hid hre
  have HN := Lib.hid hn
  clear hr hre
  go_enter Try.func40, Try.ntmps40
  go_wp2_with fail
  rw [← hW.out, ← hG.out]
  refine (begun_ [G] W HX.out).mono ?_
  rintro e u ⟨p, rfl, hp, bu⟩
  have P0 := Lib.hid hp
  have BU := Lib.hid bu
  clear hp bu
  unfold plV
  go_wp2_with fail
  obtain ⟨U, hU⟩ : ∃ U, Hid (U = u.alloc (.cells #[.pointer (some ⟨p.gb, 0, none⟩), .pointer (some ⟨p.gi, 0, none⟩), .slice p.A p.n p.c, .slice p.V p.vn p.vc, .int .i64 0] 35)) := ⟨_, Lib.hid rfl⟩
  obtain ⟨G4, hG4⟩ : ∃ g, Hid (g = u.heap.size) := ⟨_, Lib.hid rfl⟩
  rw [← hU.out, ← hG4.out]
  have BU1 : Below u.heap.size u U := by rw [hU.out]; exact (Below.refl _ _).alloc (Nat.le_refl _) _
  have RU : Hid (U.heap[G4]? = some (.cells (plC p).toArray 35 (0, 0))) := by unfold Hid; rw [hU.out, hG4.out]; exact heap_alloc_new _ _
  have P1 : Hid (Play U W.heap.size p [] [] [G4, G]) := P0.out.keep (Fr.below (own := []) BU1) (fun _ h => absurd h (by simp)) (fun k hk => by rcases List.mem_cons.1 hk with h | h; exact Or.inr (by rw [h, hG4.out]; exact Nat.le_refl _); exact Or.inl h) (fun k hk => by rcases List.mem_cons.1 hk with h | h; rw [h]; exact lt_of_blk RU.out; exact Nat.lt_of_lt_of_le (HX.out k h) (Nat.le_trans BU.out.size BU1.size))
  have RG : Hid (U.heap[G]? = some (.cells #[.pointer none, .pointer none, .slice none 0 0, .slice none 0 0, .int .i64 0] 35 (0, 0))) := (BU1.block G (Nat.lt_of_lt_of_le hGW.out BU.out.size)).trans ((BU.out.block G hGW.out).trans RW.out)
  have BUw : Hid (Below w.heap.size w U) := BW.out.trans ((BU.out.trans (BU1.mono BU.out.size)).mono BW.out.size)
  have hG44 : Hid (W.heap.size ≤ G4) := by rw [hG4.out]; exact BU.out.size
  have hG4w : Hid (w.heap.size ≤ G4) := by rw [hG4.out]; exact Nat.le_trans BW.out.size BU.out.size
  clear BU1 hU P0 BU
  go_wp2_with fail
  go_loopw [5, 13] (fun x5 x13 wr => ∃ (i : Nat) (q : Pl) (S : Bk) (hs : List (List UInt8)), x5 = .bool true ∧ x13 = .int .i64 i ∧ i ≤ n ∧ Hid (Play wr W.heap.size q S hs [G4, G]) ∧ Hid (Reach i S hs) ∧ Hid (wr.heap[G4]? = some (.cells (plC q).toArray 35 (0, 0))) ∧ Hid (wr.heap[G]? = some (.cells #[.pointer none, .pointer none, .slice none 0 0, .slice none 0 0, .int .i64 0] 35 (0, 0))) ∧ Hid (Below w.heap.size w wr)) (fun _ x13 _ => n - (intOf x13).toNat)
  case atStart => exact ⟨0, p, [], [], rfl, rfl, by omega, P1, Reach.nil, RU, RG, BUw⟩
  case round =>
    obtain ⟨i, q, S, hs, rfl, rfl, hi, HP, HRe, R4, R2, hb⟩ := hrel
    by_cases hin : i < n
    · have hin' : (i : Int) < (n : Int) := by omega
      have hi0 : (0 : Int) ≤ (i : Int) := by omega
      have e8 : IntKind.i64.wrap ((i : Int) + 1) = ((i + 1 : Nat) : Int) := by rw [IntWalk.i64_in _ (by omega)]; omega
      obtain ⟨x, hx⟩ : ∃ x, ls[i]? = some x := ⟨_, List.getElem?_eq_getElem (by rw [HR.out.1]; exact hin)⟩
      obtain ⟨b, o, Ap, np, cp, Ab, nb, cb, rfl, hB, hrg, _, _, _, rp, _, rb, _⟩ := HR.out.2 i x hx
      have hww : ∀ j v, (lnC x.l Ap np cp Ab nb cb ++ [Value.bool x.nx])[j]? = some v → wr.cell? ⟨b, o + i * 6 + j, none⟩ = some v := fun j v hj => (World.cell?_of_block (a := ⟨b, o + i * 6 + j, none⟩) (hb.out.block b hB)).trans (hrg j v hj)
      have hle := Lib.hid (HRE.out i b o Ap np cp Ab nb cb hin rfl (hrg 3 _ rfl) (hrg 4 _ rfl))
      have c0 : wr.cell? ⟨b, o + i * 6, none⟩ = some (.int .i64 x.l.au) := hww 0 _ rfl
      have c1 : wr.cell? ⟨b, o + i * 6 + 1, none⟩ = some (.int .i64 x.l.sq) := hww 1 _ rfl
      have c2 : wr.cell? ⟨b, o + i * 6 + 2, none⟩ = some (.int .i64 x.l.ep) := hww 2 _ rfl
      have c3 : wr.cell? ⟨b, o + i * 6 + 3, none⟩ = some (.slice Ap np cp) := hww 3 _ rfl
      have c4 : wr.cell? ⟨b, o + i * 6 + 4, none⟩ = some (.slice Ab nb cb) := hww 4 _ rfl
      have c5 : wr.cell? ⟨b, o + i * 6 + 5, none⟩ = some (.bool x.nx) := hww 5 _ rfl
      have RP := Lib.hid rp
      have RB := Lib.hid rb
      clear hx hB hrg rp rb hww
      obtain ⟨V, hV⟩ : ∃ V, Hid (V = wr.alloc (.cells #[.int .i64 x.l.au, .int .i64 x.l.sq, .int .i64 x.l.ep, .slice Ap np cp, .slice Ab nb cb, .bool x.nx] 42)) := ⟨_, Lib.hid rfl⟩
      have BV : Hid (Below wr.heap.size wr V) := by rw [hV.out]; exact (Below.refl _ _).alloc (Nat.le_refl _) _
      have V4 : Hid (V.heap[G4]? = some (.cells (plC q).toArray 35 (0, 0))) := (BV.out.block G4 (lt_of_blk R4.out)).trans R4.out
      have V2 : Hid (V.heap[G]? = some (.cells #[.pointer none, .pointer none, .slice none 0 0, .slice none 0 0, .int .i64 0] 35 (0, 0))) := (BV.out.block G (lt_of_blk R2.out)).trans R2.out
      have d0 : V.cell? ⟨G4, 0, none⟩ = some (.pointer (some ⟨q.gb, 0, none⟩)) := cell_blk V4.out 0 rfl
      have d1 : V.cell? ⟨G4, 1, none⟩ = some (.pointer (some ⟨q.gi, 0, none⟩)) := cell_blk V4.out 1 rfl
      have d2 : V.cell? ⟨G4, 2, none⟩ = some (.slice q.A q.n q.c) := cell_blk V4.out 2 rfl
      have d3 : V.cell? ⟨G4, 3, none⟩ = some (.slice q.V q.vn q.vc) := cell_blk V4.out 3 rfl
      have d4 : V.cell? ⟨G4, 4, none⟩ = some (.int .i64 0) := cell_blk V4.out 4 rfl
      rw [hV.out] at d0 d1 d2 d3 d4
      go_wp2_with fail
      clear c0 c1 c2 c3 c4 c5 d0 d1 d2 d3 d4
      rw [← hV.out]
      have HPV : Hid (Play V W.heap.size q S hs [G4, G]) := HP.out.below BV.out
      have hlow : Hid (∀ k, k ∈ q.ob ++ q.oi ++ [G4, G] → w.heap.size ≤ k) := fun k hk => by
        rcases List.mem_append.1 hk with h | h
        · exact Nat.le_trans BW.out.size (HPV.out.lo k h)
        · simp at h; rcases h with h | h
          · rw [h]; exact hG4w.out
          · rw [h, hG.out]; exact Nat.le_refl _
      have BwV : Hid (Below w.heap.size w V) := hb.out.trans (BV.out.mono hb.out.size)
      have hWV : Hid (W.heap.size ≤ V.heap.size) := by
        rcases Nat.lt_or_ge V.heap.size W.heap.size with h | h
        · have h1 := HPV.out.pr.bk.lt q.gb (by obtain ⟨b', n', f', hv⟩ := HPV.out.pr.bk; exact hv.og)
          have h2 := HPV.out.lo q.gb (List.mem_append.2 (Or.inl (by obtain ⟨b', n', f', hv⟩ := HPV.out.pr.bk; exact hv.og)))
          exact absurd h (by omega)
        · exact h
      refine (does_ W.heap.size q S hs [G4, G] x.l x.nx Ap np cp Ab nb cb V HPV.out HRe.out.ok hWV.out ((RP.out.below BwV.out).lowN BwV.out.size hlow.out) ((RB.out.below BwV.out).lowN BwV.out.size hlow.out) (by have h1 := HPV.out.rk.len; have h2 := HRe.out.len; omega) (by have h1 := HPV.out.vt.len; have h2 := HRe.out.len; omega) hle.out.1 hle.out.2).mono ?_
      rintro e v ⟨q', rfl, hp', hgb, hgi, hf'⟩
      clear hgb hgi
      have HP' := Lib.hid hp'
      have F' := Lib.hid hf'
      have v4 : v.heap[G4]? = some (.cells (plC q).toArray 35 (0, 0)) := (hf'.block G4 (lt_of_blk V4.out) (fun hm => by
        rcases List.mem_append.1 hm with h | h
        · exact (HPV.out.pr.xd G4 (by simp)).1 h
        · exact (HPV.out.pr.xd G4 (by simp)).2 h)).trans V4.out
      have v2 : v.heap[G]? = some (.cells #[.pointer none, .pointer none, .slice none 0 0, .slice none 0 0, .int .i64 0] 35 (0, 0)) := (hf'.block G (lt_of_blk V2.out) (fun hm => by
        rcases List.mem_append.1 hm with h | h
        · exact (HPV.out.pr.xd G (by simp)).1 h
        · exact (HPV.out.pr.xd G (by simp)).2 h)).trans V2.out
      clear hp' hf'
      unfold plV
      obtain ⟨Y, hY⟩ : ∃ Y, Hid (Y = v.alloc (.cells #[.pointer (some ⟨q'.gb, 0, none⟩), .pointer (some ⟨q'.gi, 0, none⟩), .slice q'.A q'.n q'.c, .slice q'.V q'.vn q'.vc, .int .i64 0] 35)) := ⟨_, Lib.hid rfl⟩
      have BY : Hid (Below v.heap.size v Y) := by rw [hY.out]; exact (Below.refl _ _).alloc (Nat.le_refl _) _
      have Y4 : Hid (Y.heap[G4]? = some (.cells (plC q).toArray 35 (0, 0))) := (BY.out.block G4 (lt_of_blk v4)).trans v4
      have Y2 : Hid (Y.heap[G]? = some (.cells #[.pointer none, .pointer none, .slice none 0 0, .slice none 0 0, .int .i64 0] 35 (0, 0))) := (BY.out.block G (lt_of_blk v2)).trans v2
      clear v4 v2
      have y4 := Y4.out
      rw [hY.out] at y4
      go_wp2_with (refine wpList_store_row rfl 35 (.tmp 4) (.tmp 23) rfl G4 (plC q').toArray rfl (by first | rfl | kernel_rfl) _ _ y4 (by kernel_rfl) rfl (by kernel_rfl) ?_)
      rw [← hY.out]
      obtain ⟨Z, hZ⟩ : ∃ Z, Hid (Z = Y.setRow G4 (plC q').toArray) := ⟨_, Lib.hid rfl⟩
      rw [← hZ.out]
      have FZ : Hid (Fr [G4] Y Z [G4]) := by rw [hZ.out]; exact setRow_fr _ _ _
      have Z4 : Hid (Z.heap[G4]? = some (.cells (plC q').toArray 35 (0, 0))) := by unfold Hid; rw [hZ.out]; exact setRow_heap _ _ _ _ _ _ Y4.out
      have hGG : Hid (G ≠ G4) := by have h1 := hGW.out; have h2 := P1.out.pr.xl G4 (by simp); have h3 := hG4w.out; have h4 := hG.out; have h5 := hG44.out; unfold Hid; omega
      have Z2 : Hid (Z.heap[G]? = some (.cells #[.pointer none, .pointer none, .slice none 0 0, .slice none 0 0, .int .i64 0] 35 (0, 0))) := (FZ.out.block G (lt_of_blk Y2.out) (by have := hGG.out; simp [this])).trans Y2.out
      have PZ : Hid (Play Z W.heap.size q' (takeS S (checkH S hs (linkL S x.l x.nx)) (linkL S x.l x.nx)) (takeH S (checkH S hs (linkL S x.l x.nx)) (linkL S x.l x.nx)) [G4, G]) := (HP'.out.below BY.out).keep FZ.out (fun k hk => by simp at hk; simp [hk]) (fun k hk => Or.inl hk) (fun k hk => Nat.lt_of_lt_of_le ((HP'.out.below BY.out).pr.xl k hk) FZ.out.size)
      have FV : Fr (q.ob ++ q.oi) V Y (q'.ob ++ q'.oi) := F'.out.trans (Fr.below BY.out)
      have BZ : Hid (Below w.heap.size w Z) := (BwV.out.trans ((FV.toBelow (fun k hk => Nat.le_trans BW.out.size (HPV.out.lo k hk)) BwV.out.size))).trans (FZ.out.toBelow (fun k hk => by simp at hk; rw [hk]; exact hG4w.out) (Nat.le_trans BwV.out.size FV.size))
      go_roundw
      case rel => exact ⟨i + 1, q', _, _, rfl, by go_num, hin, PZ, HRe.out.step _, Z4, Z2, BZ⟩
      case measure => simp only [intOf]; omega
    · have hiS : Hid (i = n) := (by omega : i = n)
      have hin' : ¬ (i : Int) < (n : Int) := by omega
      have d0 : wr.cell? ⟨G4, 0, none⟩ = some (.pointer (some ⟨q.gb, 0, none⟩)) := cell_blk R4.out 0 rfl
      have d1 : wr.cell? ⟨G4, 1, none⟩ = some (.pointer (some ⟨q.gi, 0, none⟩)) := cell_blk R4.out 1 rfl
      have d2 : wr.cell? ⟨G4, 2, none⟩ = some (.slice q.A q.n q.c) := cell_blk R4.out 2 rfl
      have d3 : wr.cell? ⟨G4, 3, none⟩ = some (.slice q.V q.vn q.vc) := cell_blk R4.out 3 rfl
      have d4 : wr.cell? ⟨G4, 4, none⟩ = some (.int .i64 0) := cell_blk R4.out 4 rfl
      have r2 := R2.out
      go_wp2_with (refine wpList_store_row rfl 35 (.tmp 2) (.tmp 29) rfl G (plC q).toArray rfl (by first | rfl | kernel_rfl) _ _ r2 (by kernel_rfl) rfl (by kernel_rfl) ?_)
      generalize hZ : World.setRow _ _ _ = Z
      have FZ : Fr [G] wr Z [G] := by rw [← hZ]; exact setRow_fr _ _ _
      have Zg : Z.heap[G]? = some (.cells (plC q).toArray 35 (0, 0)) := by rw [← hZ]; exact setRow_heap _ _ _ _ _ _ r2
      refine bodyPost_ret (v := .tuple #[plV q, .bool true]) (results_cell_tmp Try.results40 rfl (run_loadVar_mid (P := Try.prog) Z G 0 35 _ _ (range_of Zg) Try.underlying35 rfl (by kernel_rfl))) rfl ?_
      have hRe := HRe.out
      rw [hiS.out] at hRe
      have hP := HP.out.keep FZ (fun k hk => by simp at hk; simp [hk]) (X' := []) (fun k hk => absurd hk (by simp)) (fun k hk => absurd hk (by simp))
      refine ⟨q, rfl, S, hs, ⟨hP.pr, hP.rk, hP.vt, hP.vc, fun k hk => Nat.le_trans BW.out.size (hP.lo k hk)⟩, hRe, hb.out.trans (FZ.toBelow (fun k hk => by simp at hk; rw [hk, hG.out]; exact Nat.le_refl _) hb.out.size)⟩
end Go.Proofs.Ytabcbpcfleociaa

/- Arguments opened: lists of steps: how long their slices may be. No function of the program. -/
namespace Go.Proofs.Ytabcbpcfleociaa
open Go.ChangeShapes Go.WideShapes Go.ChangeAt Go.RowKit
set_option linter.unusedSimpArgs false
set_option linter.unusedVariables false
theorem dos_reach {H : Type} {enc : TypeId × Value → H} {w : World} {sp : Nat → Bool} {held : Bool} {ts : List TypeId} {ds : List (DataW H)} {j : Nat} {d : DataW H} {p : List MemPlace} {A : Option Addr} {n c : Nat}
    (hsz : (DataW.weightsEach Try.prog ts ds).all (· ≤ reachBytes) = true) (ht : ts[j]? = some 22) (hd : ds[j]? = some d) (h : DataW.Trod enc Try.prog w 0 sp held 22 (.slice A n c) d p) : n ≤ 140737488351232 ∧ Reaches w A n := by
  obtain ⟨fuel, hf⟩ := h
  have hw : ∀ k ∈ d.weights Try.prog 22, k ≤ 140737488351232 := fun k hk => by
    have := List.all_eq_true.1 hsz k (DataW.weights_mem_each ht hd k hk)
    exact of_decide_eq_true this
  have hf' : DataW.trod enc Try.prog w 0 sp held fuel 22 [.slice A n c] = some (d, p) := by simpa [Value.cells] using hf
  exact dos_w hf' hw
end Go.Proofs.Ytabcbpcfleociaa
