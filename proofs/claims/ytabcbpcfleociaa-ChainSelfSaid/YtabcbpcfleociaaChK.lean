/- The laws' awake: what is fixed of a first link. (Printed by gen_chk.py.) -/
import Derived.Test.YtabcbpcfleociaaChJ
namespace Go.Proofs.Ytabcbpcfleociaa
open Go.RowKit Go.Maps
attribute [local go_sem ↓] Go.wp_at_zero Go.wp_at_succ
set_option linter.unusedSimpArgs false
set_option linter.unusedVariables false
theorem field_sq (a : Value) (x : Int) (c : Value) (w : World) : (Instr.field 45 (.agg #[a, .int .i64 x, c]) 1).run Try.prog w = .ok (.int .i64 x) w := by kernel_rfl
def aw1 : Ln := ⟨0, 1, 1, [], body8 1⟩
def aw2 : Ln := ⟨0, 1, 1, [], body8 2⟩
def awS : Bk := takeS [] [] aw1
def awH : List (List UInt8) := takeH [] [] aw1
theorem aw_0 : checkE [] [] aw1 = 0 := by decide +kernel
theorem aw_16 : checkE awS awH aw1 = 16 := by decide +kernel
theorem aw_S : takeS awS awH aw1 = awS := by unfold takeS; rw [aw_16]; rfl
theorem aw_H : takeH awS awH aw1 = awH := by decide +kernel
theorem aw_18 : checkE awS awH aw2 = 18 := by decide +kernel
theorem aw_1 : (ofA awS 0).length = 1 := by decide +kernel
theorem OwnS.rdNo {w : World} {base n c : Nat} {A : Option Addr} {xs : List Value} (h : OwnS w base A n c xs) {no : List Nat} (hno : ∀ k, k ∈ no → k < base) : RdN no w 1 A n xs := by
  refine ⟨h.rd, fun b o h0 e hm => ?_⟩
  obtain ⟨b', o', e', hb', _⟩ := h.mem (by have := h.le; omega)
  rw [e] at e'
  injection e' with e'
  injection e' with e1
  have := hno b hm
  omega
theorem RdN.nil (no : List Nat) (w : World) (A : Option Addr) : RdN no w 1 A 0 [] := ⟨Rd.nil _ _ _ _, fun b o h => absurd h (by omega)⟩
theorem RdN.fr {no own own' no' : List Nat} {w w' : World} {size n : Nat} {A : Option Addr} {xs : List Value} (h : RdN no w size A n xs) (hf : Fr own w w' own') (hs : ∀ k, k ∈ own → k ∈ no) (h2 : ∀ k, k ∈ no' → k ∈ no ∨ w.heap.size ≤ k) : RdN no' w' size A n xs := by
  refine ⟨(h.go hf hs).1, fun b o h0 e hm => ?_⟩
  rcases h2 b hm with h3 | h3
  · exact h.2 b o h0 e h3
  · obtain ⟨b', o', e', hb', _⟩ := h.1.2 h0
    rw [e] at e'
    injection e' with e'
    injection e' with e1
    omega
set_option maxRecDepth 4000 in
set_option maxHeartbeats 2000000 in
theorem awake_ (w : World) : Calls Try.prog 15 #[] w fun e w' => e = .returned (.bool true) ∧ Below w.heap.size w w' := by
  go_enter Try.func15, Try.ntmps15
  go_wp2_with fail
  refine (newIdeal_ w).mono ?_
  rintro e u1 ⟨gi, oi, rfl, i1, hin, b1⟩
  have I1 := Lib.hid i1
  have HIN := Lib.hid hin
  have B1 := Lib.hid b1
  clear i1 hin b1
  go_wp2_with fail
  refine (new_ u1).mono ?_
  rintro e u2 ⟨gb, ob, rfl, k2, hbn, b2⟩
  have P2 : Hid (PairAt u2 gb gi [] [] ob oi []) := PairAt.begun' I1.out B1.out HIN.out k2 b2 hbn (fun k hk => by simp at hk)
  have B2 := Lib.hid (B1.out.trans (b2.mono B1.out.size))
  have hob : Hid (∀ k, k ∈ ob ++ oi → w.heap.size ≤ k) := fun k hk => by
    rcases List.mem_append.1 hk with h1 | h1
    · exact Nat.le_trans B1.out.size (hbn k h1)
    · exact HIN.out k h1
  have hot : Hid (∀ k, k ∈ ob ++ oi → k < u2.heap.size) := fun k hk => by
    rcases List.mem_append.1 hk with h1 | h1
    · exact P2.out.bk.lt k h1
    · exact note_lt P2.out.id k h1
  clear k2 hbn b2 I1 HIN
  go_wp2_with fail
  refine (body_ 1 1 rfl u2).mono ?_
  rintro e u3 ⟨A1, c1, rfl, o3, b3⟩
  have O3 := Lib.hid o3
  have B3 := Lib.hid b3
  clear o3 b3
  go_wp2_with fail
  obtain ⟨U, hU⟩ : ∃ U, Hid (U = u3.alloc (.cells #[.int .i64 0, .int .i64 1, .int .i64 1, .slice none 0 0, .slice A1 32 c1] 40)) := ⟨_, Lib.hid rfl⟩
  obtain ⟨G1, hG1⟩ : ∃ g, Hid (g = u3.heap.size) := ⟨_, Lib.hid rfl⟩
  rw [← hU.out, ← hG1.out]
  have BU : Hid (Below u2.heap.size u2 U) := by rw [hU.out]; exact B3.out.alloc B3.out.size _
  have RU : Hid (U.rangeAt G1 0 [.int .i64 0, .int .i64 1, .int .i64 1, .slice none 0 0, .slice A1 32 c1]) := by rw [hU.out, hG1.out]; exact rangeNew u3 _ _
  have hG1U : Hid (G1 < U.heap.size) := by unfold Hid; rw [hG1.out, hU.out, szAlloc]; exact Nat.lt_succ_self _
  have hG1o : Hid (∀ k, k ∈ ob ++ oi → k < G1) := fun k hk => by rw [hG1.out]; exact Nat.lt_of_lt_of_le (hot.out k hk) B3.out.size
  have OU : Hid (OwnS U u2.heap.size A1 32 c1 ((body8 1).map B8)) := by rw [hU.out]; exact O3.out.to ((Below.refl _ _).alloc (Nat.le_refl _) _)
  refine (body_ 2 2 rfl U).mono ?_
  rintro e u4 ⟨A2, c2, rfl, o4, b4⟩
  have O4 := Lib.hid o4
  have B4 := Lib.hid b4
  have R4 := Lib.hid (range_keep RU.out b4 hG1U.out)
  have hG14 : Hid (G1 < u4.heap.size) := Nat.lt_of_lt_of_le hG1U.out b4.size
  have f0 : ∀ o, (u4.alloc o).cell? ⟨G1, 0, none⟩ = some (.int .i64 0) := fun o => (World.cell?_alloc_lt u4 o _ hG14.out).trans (R4.out 0 _ rfl)
  have f1 : ∀ o, (u4.alloc o).cell? ⟨G1, 1, none⟩ = some (.int .i64 1) := fun o => (World.cell?_alloc_lt u4 o _ hG14.out).trans (R4.out 1 _ rfl)
  have f2 : ∀ o, (u4.alloc o).cell? ⟨G1, 2, none⟩ = some (.int .i64 1) := fun o => (World.cell?_alloc_lt u4 o _ hG14.out).trans (R4.out 2 _ rfl)
  have f3 : ∀ o, (u4.alloc o).cell? ⟨G1, 3, none⟩ = some (.slice none 0 0) := fun o => (World.cell?_alloc_lt u4 o _ hG14.out).trans (R4.out 3 _ rfl)
  have f4 : ∀ o, (u4.alloc o).cell? ⟨G1, 4, none⟩ = some (.slice A1 32 c1) := fun o => (World.cell?_alloc_lt u4 o _ hG14.out).trans (R4.out 4 _ rfl)
  clear o4 b4
  go_wp2_with fail
  clear f0 f1 f2 f3 f4
  obtain ⟨V, hV⟩ : ∃ U, Hid (U = u4.alloc (.cells #[.int .i64 0, .int .i64 1, .int .i64 1, .slice none 0 0, .slice A2 32 c2] 40)) := ⟨_, Lib.hid rfl⟩
  obtain ⟨G2, hG2⟩ : ∃ g, Hid (g = u4.heap.size) := ⟨_, Lib.hid rfl⟩
  rw [← hV.out, ← hG2.out]
  have BV : Hid (Below u2.heap.size u2 V) := by rw [hV.out]; exact (BU.out.trans (B4.out.mono BU.out.size)).alloc (Nat.le_trans BU.out.size B4.out.size) _
  have RV1 : Hid (V.rangeAt G1 0 [.int .i64 0, .int .i64 1, .int .i64 1, .slice none 0 0, .slice A1 32 c1]) := by rw [hV.out]; exact fun j v hj => (World.cell?_alloc_lt u4 _ _ hG14.out).trans (R4.out j v hj)
  have RV2 : Hid (V.rangeAt G2 0 [.int .i64 0, .int .i64 1, .int .i64 1, .slice none 0 0, .slice A2 32 c2]) := by rw [hV.out, hG2.out]; exact rangeNew u4 _ _
  have hG1V : Hid (G1 < V.heap.size) := by unfold Hid; rw [hV.out, szAlloc]; exact Nat.lt_succ_of_lt hG14.out
  have hG2V : Hid (G2 < V.heap.size) := by unfold Hid; rw [hG2.out, hV.out, szAlloc]; exact Nat.lt_succ_self _
  have hG2o : Hid (∀ k, k ∈ ob ++ oi → k < G2) := fun k hk => by rw [hG2.out]; exact Nat.lt_of_lt_of_le (hot.out k hk) (Nat.le_trans BU.out.size B4.out.size)
  have hbel : Below u4.heap.size u4 V := by rw [hV.out]; exact (Below.refl _ _).alloc (Nat.le_refl _) _
  have N1 : Hid (RdN (ob ++ oi) V 1 A1 32 ((body8 1).map B8)) := ((OU.out.to B4.out).to hbel).rdNo hot.out
  have N2 : Hid (RdN (ob ++ oi) V 1 A2 32 ((body8 2).map B8)) := (O4.out.to hbel).rdNo (fun k hk => Nat.lt_of_lt_of_le (hot.out k hk) BU.out.size)
  have PV := Lib.hid (P2.out.below BV.out)
  have BVw := Lib.hid (B2.out.trans (BV.out.mono B2.out.size))
  clear hbel hU RU OU O3 O4 R4
  refine (PV.out.take aw1 none 0 0 A1 32 c1 (RdN.nil _ _ _) (N1.out.less (fun k hk => Or.inl (List.mem_append.2 (Or.inr hk)))) (by decide) (by decide)).mono ?_
  rintro e x ⟨o1, rfl, px, fx⟩
  rw [show takeS [] [] aw1 = awS from rfl, show takeH [] [] aw1 = awH from rfl] at px
  rw [aw_0]
  have PX := Lib.hid px
  have FX := Lib.hid fx
  have hxs := fx.size
  have RX1 := range_fr RV1.out fx hG1V.out (fun hm => Nat.lt_irrefl _ (hG1o.out G1 hm))
  have RX2 := range_fr RV2.out fx hG2V.out (fun hm => Nat.lt_irrefl _ (hG2o.out G2 hm))
  have e0 : x.cell? ⟨G1, 0, none⟩ = some (.int .i64 0) := RX1 0 _ rfl
  have e1 : x.cell? ⟨G1, 1, none⟩ = some (.int .i64 1) := RX1 1 _ rfl
  have e2 : x.cell? ⟨G1, 2, none⟩ = some (.int .i64 1) := RX1 2 _ rfl
  have e3 : x.cell? ⟨G1, 3, none⟩ = some (.slice none 0 0) := RX1 3 _ rfl
  have e4 : x.cell? ⟨G1, 4, none⟩ = some (.slice A1 32 c1) := RX1 4 _ rfl
  have NX1 : Hid (RdN (ob ++ o1) x 1 A1 32 ((body8 1).map B8)) := N1.out.fr fx (fun k hk => hk) fx.sub
  have NX2 : Hid (RdN (ob ++ o1) x 1 A2 32 ((body8 2).map B8)) := N2.out.fr fx (fun k hk => hk) fx.sub
  have hG1x : Hid (G1 ∉ ob ++ o1) := fun hm => by
    rcases fx.sub G1 hm with h1 | h1
    · exact Nat.lt_irrefl _ (hG1o.out G1 h1)
    · exact absurd h1 (by have := hG1V.out; omega)
  have hG2x : Hid (G2 ∉ ob ++ o1) := fun hm => by
    rcases fx.sub G2 hm with h1 | h1
    · exact Nat.lt_irrefl _ (hG2o.out G2 h1)
    · exact absurd h1 (by have := hG2V.out; omega)
  clear px fx
  go_wp2_with fail
  clear e0 e1 e2 e3 e4
  refine (PX.out.take aw1 none 0 0 A1 32 c1 (RdN.nil _ _ _) (NX1.out.less (fun k hk => Or.inl (List.mem_append.2 (Or.inr hk)))) (by decide +kernel) (by decide +kernel)).mono ?_
  rintro e y ⟨o2, rfl, py, fy⟩
  rw [aw_S, aw_H] at py
  rw [aw_16]
  have PY := Lib.hid py
  have FY := Lib.hid fy
  have RY2 := range_fr RX2 fy (Nat.lt_of_lt_of_le hG2V.out hxs) hG2x.out
  have e0 : y.cell? ⟨G2, 0, none⟩ = some (.int .i64 0) := RY2 0 _ rfl
  have e1 : y.cell? ⟨G2, 1, none⟩ = some (.int .i64 1) := RY2 1 _ rfl
  have e2 : y.cell? ⟨G2, 2, none⟩ = some (.int .i64 1) := RY2 2 _ rfl
  have e3 : y.cell? ⟨G2, 3, none⟩ = some (.slice none 0 0) := RY2 3 _ rfl
  have e4 : y.cell? ⟨G2, 4, none⟩ = some (.slice A2 32 c2) := RY2 4 _ rfl
  have NY2 : Hid (RdN (ob ++ o2) y 1 A2 32 ((body8 2).map B8)) := NX2.out.fr fy (fun k hk => hk) fy.sub
  clear py fy
  go_wp2_with fail
  clear e0 e1 e2 e3 e4
  refine (PY.out.check aw2 none 0 0 A2 32 c2 (Rd.nil _ _ _ _) NY2.out.1 (by decide +kernel)).mono ?_
  rintro e z ⟨o3, rfl, pz, fz⟩
  rw [aw_18]
  have PZ := Lib.hid pz
  have FZ := Lib.hid fz
  clear pz fz
  go_wp2_with fail
  refine (head_in gb awS ob _ 0 z PZ.out.bk (by decide) (by decide)).mono ?_
  rintro e t ⟨A', m', c', rfl, e1, o1', bt⟩
  rw [aw_1]
  have hfd := field_sq (.int .i64 0) 1 (.slice A' m' c') t
  have BT := Lib.hid bt
  clear e1 o1' bt
  go_wp2_with fail
  go_ret
  refine ⟨rfl, ?_⟩
  have F1 : Fr (ob ++ oi) w V (ob ++ oi) := Fr.below BVw.out
  have F2 := F1.trans (FX.out.trans FY.out)
  have F3 : Fr (ob ++ o2) y z (ob ++ o3) := ⟨FZ.out.os, FZ.out.tape, FZ.out.output, FZ.out.size, fun k hk hn => FZ.out.block k hk (fun hm => hn (List.mem_append.2 (Or.inr hm))), fun k hk => by
    rcases List.mem_append.1 hk with h1 | h1
    · exact Or.inl (List.mem_append.2 (Or.inl h1))
    · exact (FZ.out.sub k h1).imp (fun h2 => List.mem_append.2 (Or.inr h2)) fun h => h⟩
  exact ((F2.trans F3).toBelow hob.out (Nat.le_refl _)).trans (BT.out.mono (F2.trans F3).size)
end Go.Proofs.Ytabcbpcfleociaa
