/- The document's book: Take. (Printed by gen_rbd.py.) -/
import Derived.Test.YtabcbpcfleociaaMRbC
import Derived.Deep.Cut
namespace Go.Proofs.Ytabcbpcfleociaa
open Go.RowKit
attribute [local go_sem ↓] Go.wp_at_zero Go.wp_at_succ
set_option linter.unusedSimpArgs false
set_option linter.unusedVariables false
theorem results_ccv {P : Program} {fn : Func} {tmps : Array Value} {w : World} {a b u : Nat} {t s : TypeId} {v x : Value} {p q : Addr} (h : fn.results = #[.cell a t, .cell b s, .tmp u]) (ha : tmps.getD a undef = .pointer (some p)) (hb : tmps.getD b undef = .pointer (some q))
    (hl : (loadVar t p).run P w = .ok v w) (hx : (loadVar s q).run P w = .ok x w) : (results fn tmps).run P w = .ok (.tuple #[v, x, tmps.getD u undef]) w := by
  unfold results
  rw [h]
  have ha' : tmps[a]?.getD undef = .pointer (some p) := by simpa using ha
  have hb' : tmps[b]?.getD undef = .pointer (some q) := by simpa using hb
  simp [ha', hb', hl, hx, asAddr]
theorem rkCs_one (Qs : List Rk) : ∀ u ∈ Qs.flatMap rkC, u.oneCell' = true := by
  intro u hu
  obtain ⟨q, _, hq⟩ := List.mem_flatMap.1 hu
  exact rkC_one q u hq
theorem checkH_zero {S : Bk} {hs : List (List UInt8)} {l : Ln} (h : checkE S hs l = 0) : checkH S hs l = hs := by
  have hr : rightL l := checkE_right h
  by_cases hle : l.sq ≤ ((ofA S l.au).length : Int)
  · exfalso
    rw [checkE_old hr hle (List.getElem?_eq_getElem (i := (l.sq - 1).toNat) (by have := hr.1.2.2.1; omega))] at h
    split at h <;> omega
  · exact checkH_new (fun h => hle h.2)
set_option maxRecDepth 20000 in
set_option maxHeartbeats 8000000 in
theorem refTake_ (A : Option Addr) (n c : Nat) (V : Option Addr) (vn vc : Nat) (l : Ln) (pA : Option Addr) (pn pc : Nat) (bA : Option Addr) (bn bc : Nat) (S : Bk) (hs : List (List UInt8)) (no : List Nat) (w : World)
    (hk : RkN no w A n S) (hv : VtN no w V vn hs) (hp : RdN no w 1 pA pn (l.pv.map B8)) (hb : RdN no w 1 bA bn (l.bd.map B8)) (hn : n ≤ 99999) (hvn : vn ≤ 999999) (hvc : vn ≤ vc) (hbc : bn ≤ bc) (hno : ∀ k, k ∈ no → k < w.heap.size) :
    Calls Try.prog 55 #[.agg #[.slice A n c], .agg #[.slice V vn vc, .int .i64 0], lnV l pA pn pc bA bn bc] w fun e w' => ∃ A' n' c' V' vn' vc', e = .returned (.tuple #[.agg #[.slice A' n' c'], .agg #[.slice V' vn' vc', .int .i64 0], .int .i64 (checkE S hs l)]) ∧ RkN no w' A' n' (takeS S hs l) ∧ vn' ≤ vc' ∧ VtN no w' V' vn' (takeH S hs l) ∧ Below w.heap.size w w' := by
  have hA : Hid (l.pv.length = pn) := by unfold Hid; simpa using hp.1.len
  have hBm : Hid (l.bd.length = bn) := by unfold Hid; simpa using hb.1.len
  have hlenS : Hid (S.length = n) := hk.len
  have hlenV : Hid (hs.length = vn) := by obtain ⟨_, _, h, _⟩ := hv; exact h
  obtain ⟨W, hW⟩ : ∃ W, Hid (W = (((((w.alloc (.cells #[.slice A n c] 30)).alloc (.cells #[.slice V vn vc, .int .i64 0] 33)).alloc (.cells #[.int .i64 l.au, .int .i64 l.sq, .int .i64 l.ep, .slice pA pn pc, .slice bA bn bc] 40)).alloc (.cells #[.slice none 0 0] 30)).alloc (.cells #[.slice none 0 0, .int .i64 0] 33))) := ⟨_, Lib.hid rfl⟩
  have hs1 : (w.alloc (.cells #[.slice A n c] 30)).heap.size = w.heap.size + 1 := szAlloc _ _
  have hs2 : ((w.alloc (.cells #[.slice A n c] 30)).alloc (.cells #[.slice V vn vc, .int .i64 0] 33)).heap.size = w.heap.size + 2 := by rw [szAlloc, hs1]
  have hs3 : (((w.alloc (.cells #[.slice A n c] 30)).alloc (.cells #[.slice V vn vc, .int .i64 0] 33)).alloc (.cells #[.int .i64 l.au, .int .i64 l.sq, .int .i64 l.ep, .slice pA pn pc, .slice bA bn bc] 40)).heap.size = w.heap.size + 3 := by rw [szAlloc, hs2]
  have hs4 : ((((w.alloc (.cells #[.slice A n c] 30)).alloc (.cells #[.slice V vn vc, .int .i64 0] 33)).alloc (.cells #[.int .i64 l.au, .int .i64 l.sq, .int .i64 l.ep, .slice pA pn pc, .slice bA bn bc] 40)).alloc (.cells #[.slice none 0 0] 30)).heap.size = w.heap.size + 4 := by rw [szAlloc, hs3]
  obtain ⟨G, hG⟩ : ∃ g, Hid (g = w.heap.size) := ⟨_, Lib.hid rfl⟩
  have hWs : Hid (W.heap.size = G + 5) := by unfold Hid; rw [hW.out, szAlloc, hs4, hG.out]
  have BW : Hid (Below w.heap.size w W) := by rw [hW.out]; exact (((((Below.refl _ _).alloc (Nat.le_refl _) _).alloc (by rw [hs1]; omega) _).alloc (by rw [hs2]; omega) _).alloc (by rw [hs3]; omega) _).alloc (by rw [hs4]; omega) _
  have R0 : Hid (W.rangeAt G 0 [.slice A n c]) := by rw [hW.out, hG.out]; exact fun j v hj => (World.cell?_alloc_lt _ _ _ (by rw [hs4]; show w.heap.size < _; omega)).trans ((World.cell?_alloc_lt _ _ _ (by rw [hs3]; show w.heap.size < _; omega)).trans ((World.cell?_alloc_lt _ _ _ (by rw [hs2]; show w.heap.size < _; omega)).trans ((World.cell?_alloc_lt _ _ _ (by rw [hs1]; exact Nat.lt_succ_self _)).trans (rangeNew w _ _ j v hj))))
  have R1 : Hid (W.heap[G + 1]? = some (.cells #[.slice V vn vc, .int .i64 0] 33 (0, 0))) := by unfold Hid; rw [hW.out, hG.out]; exact (heap_alloc_old _ _ (by rw [hs4]; omega)).trans ((heap_alloc_old _ _ (by rw [hs3]; omega)).trans ((heap_alloc_old _ _ (by rw [hs2]; omega)).trans (by rw [← hs1]; exact heap_alloc_new _ _)))
  have R2 : Hid (W.rangeAt (G + 2) 0 [.int .i64 l.au, .int .i64 l.sq, .int .i64 l.ep, .slice pA pn pc, .slice bA bn bc]) := by rw [hW.out, hG.out, ← hs2]; exact fun j v hj => (World.cell?_alloc_lt _ _ _ (by rw [hs4, hs2]; show w.heap.size + 2 < _; omega)).trans ((World.cell?_alloc_lt _ _ _ (by rw [hs3, hs2]; exact Nat.lt_succ_self _)).trans (rangeNew _ _ _ j v hj))
  have R3 : Hid (W.heap[G + 3]? = some (.cells #[.slice none 0 0] 30 (0, 0))) := by unfold Hid; rw [hW.out, hG.out]; exact (heap_alloc_old _ _ (by rw [hs4]; omega)).trans (by rw [← hs3]; exact heap_alloc_new _ _)
  have R4 : Hid (W.heap[G + 4]? = some (.cells #[.slice none 0 0, .int .i64 0] 33 (0, 0))) := by unfold Hid; rw [hW.out, hG.out, ← hs4]; exact heap_alloc_new _ _
  have up : ∀ k, k ∈ ((G + 1) :: (G + 3) :: (G + 4) :: no) → k ∈ no ∨ w.heap.size ≤ k := fun k hk => by
    simp only [List.mem_cons] at hk
    rcases hk with h | h | h | h
    · exact Or.inr (by rw [h, hG.out]; omega)
    · exact Or.inr (by rw [h, hG.out]; omega)
    · exact Or.inr (by rw [h, hG.out]; omega)
    · exact Or.inl h
  have HK := Lib.hid (hk.fr (own := []) (own' := []) (Fr.below BW.out) (fun _ h => absurd h (by simp)) up)
  have HV := Lib.hid (hv.fr (own := []) (own' := []) (Fr.below BW.out) (fun _ h => absurd h (by simp)) up)
  have HP := Lib.hid (hp.fr (own := []) (own' := []) (Fr.below BW.out) (fun _ h => absurd h (by simp)) up)
  have HB := Lib.hid (hb.fr (own := []) (own' := []) (Fr.below BW.out) (fun _ h => absurd h (by simp)) up)
  have HNO : Hid (∀ k, k ∈ ((G + 1) :: (G + 3) :: (G + 4) :: no) → k < W.heap.size) := fun k hk => by
    have h5 := hWs.out
    simp only [List.mem_cons] at hk
    rcases hk with h | h | h | h
    · omega
    · omega
    · omega
    · exact Nat.lt_of_lt_of_le (hno k h) BW.out.size
  have hBC := Lib.hid hbc
  have hVC := Lib.hid hvc
  have hVN := Lib.hid hvn
  have hN := Lib.hid hn
  have a0 := R0.out 0 _ rfl
  have v0 := cell_blk R1.out 0 rfl
  have v1 := cell_blk R1.out 1 rfl
  have l0 := R2.out 0 _ rfl
  have l1 := R2.out 1 _ rfl
  have l2 := R2.out 2 _ rfl
  have l3 := R2.out 3 _ rfl
  have l4 := R2.out 4 _ rfl
  rw [hW.out, hG.out] at a0 v0 v1 l0 l1 l2 l3 l4
  clear hk hv hp hb hno hs1 hs2 hs3 hs4 up hbc hvc hvn hn
  go_enter Try.func55, Try.ntmps55
  unfold lnV
  go_wp2_with fail
  rw [← hW.out, ← hG.out]
  clear a0 v0 v1 l0 l1 l2 l3 l4
  refine (refCheck_ A n c V vn vc l pA pn pc bA bn bc S hs ((G + 1) :: (G + 3) :: (G + 4) :: no) W HK.out HV.out HP.out HB.out (by have := hN.out; omega) (by have := hVN.out; omega) hVC.out HNO.out).mono ?_
  rintro e u ⟨V', vn', vc', rfl, hvc', hv', bu⟩
  have BU := Lib.hid bu
  have VU := Lib.hid hv'
  have VCU := Lib.hid hvc'
  obtain ⟨E, hE⟩ : ∃ E, Hid (E = checkE S hs l) := ⟨_, Lib.hid rfl⟩
  rw [← hE.out]
  have h1u : u.heap[G + 1]? = some (.cells #[.slice V vn vc, .int .i64 0] 33 (0, 0)) := (bu.block (G + 1) (by have := hWs.out; omega)).trans R1.out
  clear bu hv' hvc'
  by_cases h0 : E = 0
  · subst h0
    have hEf : Hid (checkE S hs l = 0) := hE.out.symm
    have hT : Hid (takeH S hs l = note hs (bytesL l) ∧ takeS S hs l = S ++ [(l.au, knL hs l)]) := ⟨if_pos hEf.out, if_pos hEf.out⟩
    have Hr : Hid (rightL l) := checkE_right hEf.out
    rw [checkH_zero hEf.out] at VU
    have HVN : Hid (vn' = vn) := by obtain ⟨_, _, h, _⟩ := VU.out; exact h.symm.trans hlenV.out
    clear hE
    go_upto_region 4 with (refine wpList_store_row rfl 33 (.tmp 4) (.tmp 17) rfl (G + 1) #[.slice V' vn' vc', .int .i64 0] rfl (by first | rfl | kernel_rfl) _ _ h1u (by kernel_rfl) rfl (by kernel_rfl) ?_)
    generalize hQ : World.setRow _ _ _ = z
    have hz1 : Hid (z.heap[G + 1]? = some (.cells #[.slice V' vn' vc', .int .i64 0] 33 (0, 0))) := by rw [← hQ]; exact setRow_heap _ _ _ _ _ _ h1u
    have Fz : Hid (Fr [G + 1] u z [G + 1]) := by rw [← hQ]; exact setRow_fr _ _ _
    have Bwz : Hid (Below w.heap.size w z) := by rw [← hQ]; exact below_setRow (BW.out.trans (BU.out.mono BW.out.size)) (by have := hG.out; omega) _
    have hzs : Hid (W.heap.size ≤ z.heap.size) := by unfold Hid; rw [← hQ, setRow_size]; exact BU.out.size
    have oz : ∀ k, k < W.heap.size → k ≠ G + 1 → z.heap[k]? = W.heap[k]? := fun k hk hne => by rw [← hQ, setRow_other _ _ _ _ hne]; exact BU.out.block k hk
    have Rz0 : Hid (z.rangeAt G 0 [.slice A n c]) := fun j v hj => (World.cell?_of_block (a := ⟨G, 0 + j, none⟩) (oz G (by have := hWs.out; omega) (by omega))).trans (R0.out j v hj)
    have Rz2 : Hid (z.rangeAt (G + 2) 0 [.int .i64 l.au, .int .i64 l.sq, .int .i64 l.ep, .slice pA pn pc, .slice bA bn bc]) := fun j v hj => (World.cell?_of_block (a := ⟨G + 2, 0 + j, none⟩) (oz (G + 2) (by have := hWs.out; omega) (by omega))).trans (R2.out j v hj)
    have Rz1 : Hid (z.rangeAt (G + 1) 0 [.slice V' vn' vc', .int .i64 0]) := range_of hz1.out
    have H3 : Hid (z.heap[G + 3]? = some (.cells #[.slice none 0 0] 30 (0, 0))) := (oz (G + 3) (by have := hWs.out; omega) (by omega)).trans R3.out
    have H4 : Hid (z.heap[G + 4]? = some (.cells #[.slice none 0 0, .int .i64 0] 33 (0, 0))) := (oz (G + 4) (by have := hWs.out; omega) (by omega)).trans R4.out
    have HKz : Hid (RkN ((G + 1) :: (G + 3) :: (G + 4) :: no) z A n S) := (HK.out.below BU.out).fr Fz.out (fun k hk => by simp at hk; simp [hk]) (fun k hk => Or.inl hk)
    have HVz : Hid (VtN ((G + 1) :: (G + 3) :: (G + 4) :: no) z V' vn' hs) := VU.out.fr Fz.out (fun k hk => by simp at hk; simp [hk]) (fun k hk => Or.inl hk)
    have HPz : Hid (RdN ((G + 1) :: (G + 3) :: (G + 4) :: no) z 1 pA pn (l.pv.map B8)) := (HP.out.below BU.out).fr Fz.out (fun k hk => by simp at hk; simp [hk]) (fun k hk => Or.inl hk)
    have HBz : Hid (RdN ((G + 1) :: (G + 3) :: (G + 4) :: no) z 1 bA bn (l.bd.map B8)) := (HB.out.below BU.out).fr Fz.out (fun k hk => by simp at hk; simp [hk]) (fun k hk => Or.inl hk)
    have hGz : Hid (G + 5 ≤ z.heap.size) := by have h1 := hWs.out; have h2 := hzs.out; unfold Hid; omega
    have NOz : Hid (∀ k, k ∈ ((G + 1) :: (G + 3) :: (G + 4) :: no) → k < z.heap.size) := fun k hk => Nat.lt_of_lt_of_le (HNO.out k hk) hzs.out
    clear hQ h1u oz
    go_cut [10, 11] from 24 (fun x10 x11 wx => ∃ V2 vn2 vc2 D dc q0, x10 = .pointer (some ⟨q0, 0, none⟩) ∧ x11 = .slice D 32 dc ∧ Hid (vn2 ≤ vc2) ∧ Hid (32 ≤ dc) ∧ Hid (z.heap.size ≤ q0) ∧ Hid (wx.heap[q0]? = some (.cells #[.slice V2 vn2 vc2, .int .i64 0] 33 (0, 0))) ∧ Hid (VtN ((G + 1) :: (G + 3) :: (G + 4) :: no) wx V2 vn2 (note hs (bytesL l))) ∧ Hid (RdN ((G + 1) :: (G + 3) :: (G + 4) :: no) wx 1 D 32 ((digL hs l).map B8)) ∧ Hid (Below z.heap.size z wx))
    case first =>
      obtain ⟨X, hX⟩ : ∃ W, Hid (W = z.drew) := ⟨_, Lib.hid rfl⟩
      have dX : Below z.heap.size z X := by rw [hX.out]; exact below_drew (Below.refl _ _)
      have BX := Lib.hid dX
      have SX : X.rangeAt (G + 1) 0 [.slice V' vn' vc', .int .i64 0] ∧ X.rangeAt (G + 2) 0 [.int .i64 l.au, .int .i64 l.sq, .int .i64 l.ep, .slice pA pn pc, .slice bA bn bc] := ⟨range_keep Rz1.out BX.out (by have := hGz.out; omega), range_keep Rz2.out BX.out (by have := hGz.out; omega)⟩
      refine wp_region_noPanic ?_
      refine wp_region_held_drew (S := fun w' => w'.rangeAt (G + 1) 0 [.slice V' vn' vc', .int .i64 0] ∧ w'.rangeAt (G + 2) 0 [.int .i64 l.au, .int .i64 l.sq, .int .i64 l.ep, .slice pA pn pc, .slice bA bn bc]) (by kernel_rfl) (by rw [← hX.out]; exact SX) (fun hS => ?_)
      rw [← hX.out]
      clear hS
      have hS : X.rangeAt (G + 1) 0 [.slice V' vn' vc', .int .i64 0] ∧ X.rangeAt (G + 2) 0 [.int .i64 l.au, .int .i64 l.sq, .int .i64 l.ep, .slice pA pn pc, .slice bA bn bc] := SX
      refine wpAnyH_take (i := 0) (v := .agg #[.slice V' vn' vc', .int .i64 0]) rfl (by kernel_rfl) (by kernel_rfl) (by kernel_rfl) (fun _ _ _ h => h) (Or.inl ⟨by rfl, ?hya0⟩) hS ?resta0
      case hya0 => (intro w' hSw; have c0 := hSw.1 0 _ rfl; have c1 := hSw.1 1 _ rfl; go_simp; first | done | with_reducible rfl)
      try simp only [Act.put, List.getElem_toArray, List.getElem_cons_zero, List.getElem_cons_succ, List.setIfInBounds_toArray, List.set_cons_zero, List.set_cons_succ]
      refine wpAnyH_take (i := 1) (v := .agg #[.int .i64 l.au, .int .i64 l.sq, .int .i64 l.ep, .slice pA pn pc, .slice bA bn bc]) rfl (by kernel_rfl) (by kernel_rfl) (by kernel_rfl) (fun _ _ _ h => h) (Or.inl ⟨by rfl, ?hya1⟩) hS ?resta1
      case hya1 => (intro w' hSw; have c0 := hSw.2 0 _ rfl; have c1 := hSw.2 1 _ rfl; have c2 := hSw.2 2 _ rfl; have c3 := hSw.2 3 _ rfl; have c4 := hSw.2 4 _ rfl; go_simp; first | done | with_reducible rfl)
      try simp only [Act.put, List.getElem_toArray, List.getElem_cons_zero, List.getElem_cons_succ, List.setIfInBounds_toArray, List.set_cons_zero, List.set_cons_succ]
      refine wpAnyH_ready (rs := [2, 7]) (by kernel_rfl) (by simp) ?_
      refine AllReadyH.cons rfl (fun K hK => ?_) (AllReadyH.cons rfl (fun K hK => ?_) AllReadyH.nil)
      · go_simp
        refine (refBytes_ l pA pn pc bA bn bc X (HPz.out.below BX.out).1 (HBz.out.below BX.out).1 Hr.out).mono ?_
        rintro e U ⟨A7, m7, c7, rfl, hm7, hl7, o7, b⟩
        have BU := Lib.hid (BX.out.trans (b.mono BX.out.size))
        have P7 : Hid (RdN ((G + 1) :: (G + 3) :: (G + 4) :: no) U 1 A7 m7 ((bytesL l).map B8)) := own_rdN o7 (fun k hk => by exact Nat.lt_of_lt_of_le (NOz.out k hk) BX.out.size)
        have gU := b
        clear b o7 hl7
        go_wp2_with fail
        have SU : U.rangeAt (G + 1) 0 [.slice V' vn' vc', .int .i64 0] ∧ U.rangeAt (G + 2) 0 [.int .i64 l.au, .int .i64 l.sq, .int .i64 l.ep, .slice pA pn pc, .slice bA bn bc] := ⟨range_keep Rz1.out BU.out (by have := hGz.out; omega), range_keep Rz2.out BU.out (by have := hGz.out; omega)⟩
        refine hK.out _ _ SU ?_
        intro hS
        clear hK K hS
        try simp only [Act.put, List.getElem_toArray, List.getElem_cons_zero, List.getElem_cons_succ, List.setIfInBounds_toArray, List.set_cons_zero, List.set_cons_succ]
        refine wpAnyH_ready (rs := [3, 7]) (by kernel_rfl) (by simp) ?_
        refine AllReadyH.cons rfl (fun K hK => ?_) (AllReadyH.cons rfl (fun K hK => ?_) AllReadyH.nil)
        · go_simp
          refine (refHashN_ V' vn' vc' 0 A7 m7 c7 hs (bytesL l) ((G + 1) :: (G + 3) :: (G + 4) :: no) U (HVz.out.fr (own := []) (own' := []) (Fr.below BU.out) (fun _ h => absurd h (by simp)) (fun k hk => Or.inl hk)) P7.out (by have h1 := hVN.out; have h2 := HVN.out; omega) VCU.out (fun k hk => by exact Nat.lt_of_lt_of_le (NOz.out k hk) BU.out.size)).mono ?_
          rintro e V1 ⟨V2, vn2, vc2, D, dc, rfl, hvc2, hv8, o8, b⟩
          have BV1 := Lib.hid (BU.out.trans (b.mono BU.out.size))
          have V8 : Hid (VtN ((G + 1) :: (G + 3) :: (G + 4) :: no) V1 V2 vn2 (note hs (bytesL l))) := hv8
          have D8 : Hid (RdN ((G + 1) :: (G + 3) :: (G + 4) :: no) V1 1 D 32 ((digL hs l).map B8)) := o8.rdNo (fun k hk => by exact Nat.lt_of_lt_of_le (NOz.out k hk) BU.out.size)
          have D32 : Hid (32 ≤ dc) := o8.le
          have VC2 := Lib.hid hvc2
          have gV1 := b
          clear b o8 hv8 hvc2
          go_wp2_with fail
          have SV1 : V1.rangeAt (G + 1) 0 [.slice V' vn' vc', .int .i64 0] ∧ V1.rangeAt (G + 2) 0 [.int .i64 l.au, .int .i64 l.sq, .int .i64 l.ep, .slice pA pn pc, .slice bA bn bc] := ⟨range_keep Rz1.out BV1.out (by have := hGz.out; omega), range_keep Rz2.out BV1.out (by have := hGz.out; omega)⟩
          refine hK.out _ _ SV1 ?_
          intro hS
          clear hK K hS
          try simp only [Act.put, List.getElem_toArray, List.getElem_cons_zero, List.getElem_cons_succ, List.setIfInBounds_toArray, List.set_cons_zero, List.set_cons_succ]
          have hS : V1.rangeAt (G + 1) 0 [.slice V' vn' vc', .int .i64 0] ∧ V1.rangeAt (G + 2) 0 [.int .i64 l.au, .int .i64 l.sq, .int .i64 l.ep, .slice pA pn pc, .slice bA bn bc] := SV1
          refine wpAnyH_take (i := 4) (v := ?vf4) rfl (by kernel_rfl) (by kernel_rfl) (by kernel_rfl) (fun _ _ _ h => h) (Or.inl ⟨by rfl, ?hyf4⟩) hS ?restf4
          case hyf4 => (intro w' hSw; go_simp; first | done | with_reducible rfl)
          try simp only [Act.put, List.getElem_toArray, List.getElem_cons_zero, List.getElem_cons_succ, List.setIfInBounds_toArray, List.set_cons_zero, List.set_cons_succ]
          refine wpAnyH_take (i := 5) (v := .agg #[.slice V2 vn2 vc2, .int .i64 0]) rfl (by kernel_rfl) (by kernel_rfl) (by kernel_rfl) (fun _ _ _ h => h) (Or.inl ⟨by rfl, ?hyf5⟩) hS ?restf5
          case hyf5 => (intro w' hSw; go_simp; first | done | with_reducible rfl)
          try simp only [Act.put, List.getElem_toArray, List.getElem_cons_zero, List.getElem_cons_succ, List.setIfInBounds_toArray, List.set_cons_zero, List.set_cons_succ]
          refine wpAnyH_take (i := 6) (v := .slice D 32 dc) rfl (by kernel_rfl) (by kernel_rfl) (by kernel_rfl) (fun _ _ _ h => h) (Or.inl ⟨by rfl, ?hyf6⟩) hS ?restf6
          case hyf6 => (intro w' hSw; go_simp; first | done | with_reducible rfl)
          try simp only [Act.put, List.getElem_toArray, List.getElem_cons_zero, List.getElem_cons_succ, List.setIfInBounds_toArray, List.set_cons_zero, List.set_cons_succ]
          refine wpAnyH_ready (rs := [7]) (by kernel_rfl) (by simp) ?_
          refine AllReadyH.cons rfl (fun K hK => ?_) AllReadyH.nil
          go_simp
          obtain ⟨V2w, hV2w⟩ : ∃ W0, Hid (W0 = V1.alloc (.cells #[.slice none 0 0, .int .i64 0] 33)) := ⟨_, Lib.hid rfl⟩
          obtain ⟨q0, hq0⟩ : ∃ q, Hid (q = V1.heap.size) := ⟨_, Lib.hid rfl⟩
          have gV2w : Below V1.heap.size V1 V2w := by rw [hV2w.out]; exact (Below.refl _ _).alloc (Nat.le_refl _) _
          have BV2w := Lib.hid (BV1.out.trans (gV2w.mono BV1.out.size))
          have Q0 : Hid (V2w.heap[q0]? = some (.cells #[.slice none 0 0, .int .i64 0] 33 (0, 0))) := by unfold Hid; rw [hV2w.out, hq0.out]; exact heap_alloc_new _ _
          have hqG : Hid (z.heap.size ≤ q0) := by unfold Hid; rw [hq0.out]; exact BV1.out.size
          have hqlV2w : Hid (q0 < V2w.heap.size) := lt_of_blk Q0.out
          rw [← hV2w.out, ← hq0.out]
          have SV2w : V2w.rangeAt (G + 1) 0 [.slice V' vn' vc', .int .i64 0] ∧ V2w.rangeAt (G + 2) 0 [.int .i64 l.au, .int .i64 l.sq, .int .i64 l.ep, .slice pA pn pc, .slice bA bn bc] := ⟨range_keep Rz1.out BV2w.out (by have := hGz.out; omega), range_keep Rz2.out BV2w.out (by have := hGz.out; omega)⟩
          refine hK.out _ _ SV2w ?_
          intro hS
          clear hK K hS
          try simp only [Act.put, List.getElem_toArray, List.getElem_cons_zero, List.getElem_cons_succ, List.setIfInBounds_toArray, List.set_cons_zero, List.set_cons_succ]
          replace V8 : Hid (VtN (q0 :: (G + 1) :: (G + 3) :: (G + 4) :: no) V2w V2 vn2 (note hs (bytesL l))) := V8.out.fr (own := []) (own' := []) (Fr.below gV2w) (fun _ h => absurd h (by simp)) (fun k hk => by rcases List.mem_cons.1 hk with h | h; exact Or.inr (by rw [h, hq0.out]; exact Nat.le_refl _); exact Or.inl h)
          replace D8 : Hid (RdN (q0 :: (G + 1) :: (G + 3) :: (G + 4) :: no) V2w 1 D 32 ((digL hs l).map B8)) := D8.out.fr (own := []) (own' := []) (Fr.below gV2w) (fun _ h => absurd h (by simp)) (fun k hk => by rcases List.mem_cons.1 hk with h | h; exact Or.inr (by rw [h, hq0.out]; exact Nat.le_refl _); exact Or.inl h)
          have hS : V2w.rangeAt (G + 1) 0 [.slice V' vn' vc', .int .i64 0] ∧ V2w.rangeAt (G + 2) 0 [.int .i64 l.au, .int .i64 l.sq, .int .i64 l.ep, .slice pA pn pc, .slice bA bn bc] := SV2w
          refine wpAnyH_ready (rs := [8]) (by kernel_rfl) (by simp) ?_
          refine AllReadyH.cons rfl (fun K hK => ?_) AllReadyH.nil
          refine step_store_row 33 (.tmp 10) (.tmp 29) rfl rfl q0 #[.slice V2 vn2 vc2, .int .i64 0] rfl rfl _ _ Q0.out (by kernel_rfl) rfl (by kernel_rfl) ?_
          obtain ⟨Y, hY⟩ : ∃ W0, Hid (W0 = V2w.setRow q0 #[.slice V2 vn2 vc2, .int .i64 0]) := ⟨_, Lib.hid rfl⟩
          have FY : Fr [q0] V2w Y [q0] := by rw [hY.out]; exact setRow_fr _ _ _
          have QY : Hid (Y.heap[q0]? = some (.cells #[.slice V2 vn2 vc2, .int .i64 0] 33 (0, 0))) := by unfold Hid; rw [hY.out]; exact setRow_heap _ _ _ _ _ _ Q0.out
          rw [← hY.out]
          have VY : Hid (VtN ((G + 1) :: (G + 3) :: (G + 4) :: no) Y V2 vn2 (note hs (bytesL l))) := V8.out.fr FY (fun k hk => by simp at hk; simp [hk]) (fun k hk => Or.inl (List.mem_cons_of_mem _ hk))
          have DY : Hid (RdN ((G + 1) :: (G + 3) :: (G + 4) :: no) Y 1 D 32 ((digL hs l).map B8)) := D8.out.fr FY (fun k hk => by simp at hk; simp [hk]) (fun k hk => Or.inl (List.mem_cons_of_mem _ hk))
          have BY : Hid (Below z.heap.size z Y) := by unfold Hid; rw [hY.out]; exact below_setRow BV2w.out hqG.out _
          have SY : Y.rangeAt (G + 1) 0 [.slice V' vn' vc', .int .i64 0] ∧ Y.rangeAt (G + 2) 0 [.int .i64 l.au, .int .i64 l.sq, .int .i64 l.ep, .slice pA pn pc, .slice bA bn bc] := ⟨range_keep Rz1.out BY.out (by have := hGz.out; omega), range_keep Rz2.out BY.out (by have := hGz.out; omega)⟩
          refine hK.out _ _ SY ?_
          intro hS
          clear hK K hS
          try simp only [Act.put, List.getElem_toArray, List.getElem_cons_zero, List.getElem_cons_succ, List.setIfInBounds_toArray, List.set_cons_zero, List.set_cons_succ]
          have hS : Y.rangeAt (G + 1) 0 [.slice V' vn' vc', .int .i64 0] ∧ Y.rangeAt (G + 2) 0 [.int .i64 l.au, .int .i64 l.sq, .int .i64 l.ep, .slice pA pn pc, .slice bA bn bc] := SY
          refine wpAnyH_take (i := 9) (v := ?vg9) rfl (by kernel_rfl) (by kernel_rfl) (by kernel_rfl) (fun _ _ _ h => h) (Or.inl ⟨by rfl, ?hyg9⟩) hS ?restg9
          case hyg9 => (intro w' hSw; go_simp; first | done | with_reducible rfl)
          try simp only [Act.put, List.getElem_toArray, List.getElem_cons_zero, List.getElem_cons_succ, List.setIfInBounds_toArray, List.set_cons_zero, List.set_cons_succ]
          refine wpAnyH_done (by kernel_rfl) (NoPanic.normal ?_) _
          go_wp2_with fail
          go_meet
          case rel => exact ⟨V2, vn2, vc2, D, dc, q0, rfl, rfl, VC2, D32, hqG, QY, VY, DY, BY⟩
        · go_simp
          obtain ⟨V1, hV1⟩ : ∃ W0, Hid (W0 = U.alloc (.cells #[.slice none 0 0, .int .i64 0] 33)) := ⟨_, Lib.hid rfl⟩
          obtain ⟨q0, hq0⟩ : ∃ q, Hid (q = U.heap.size) := ⟨_, Lib.hid rfl⟩
          have gV1 : Below U.heap.size U V1 := by rw [hV1.out]; exact (Below.refl _ _).alloc (Nat.le_refl _) _
          have BV1 := Lib.hid (BU.out.trans (gV1.mono BU.out.size))
          have Q0 : Hid (V1.heap[q0]? = some (.cells #[.slice none 0 0, .int .i64 0] 33 (0, 0))) := by unfold Hid; rw [hV1.out, hq0.out]; exact heap_alloc_new _ _
          have hqG : Hid (z.heap.size ≤ q0) := by unfold Hid; rw [hq0.out]; exact BU.out.size
          have hqlV1 : Hid (q0 < V1.heap.size) := lt_of_blk Q0.out
          rw [← hV1.out, ← hq0.out]
          have SV1 : V1.rangeAt (G + 1) 0 [.slice V' vn' vc', .int .i64 0] ∧ V1.rangeAt (G + 2) 0 [.int .i64 l.au, .int .i64 l.sq, .int .i64 l.ep, .slice pA pn pc, .slice bA bn bc] := ⟨range_keep Rz1.out BV1.out (by have := hGz.out; omega), range_keep Rz2.out BV1.out (by have := hGz.out; omega)⟩
          refine hK.out _ _ SV1 ?_
          intro hS
          clear hK K hS
          try simp only [Act.put, List.getElem_toArray, List.getElem_cons_zero, List.getElem_cons_succ, List.setIfInBounds_toArray, List.set_cons_zero, List.set_cons_succ]
          replace P7 : Hid (RdN (q0 :: (G + 1) :: (G + 3) :: (G + 4) :: no) V1 1 A7 m7 ((bytesL l).map B8)) := P7.out.fr (own := []) (own' := []) (Fr.below gV1) (fun _ h => absurd h (by simp)) (fun k hk => by rcases List.mem_cons.1 hk with h | h; exact Or.inr (by rw [h, hq0.out]; exact Nat.le_refl _); exact Or.inl h)
          refine wpAnyH_ready (rs := [3]) (by kernel_rfl) (by simp) ?_
          refine AllReadyH.cons rfl (fun K hK => ?_) AllReadyH.nil
          go_simp
          refine (refHashN_ V' vn' vc' 0 A7 m7 c7 hs (bytesL l) (q0 :: (G + 1) :: (G + 3) :: (G + 4) :: no) V1 (HVz.out.fr (own := []) (own' := []) (Fr.below BV1.out) (fun _ h => absurd h (by simp)) (fun k hk => by rcases List.mem_cons.1 hk with h | h; exact Or.inr (h ▸ hqG.out); exact Or.inl h)) P7.out (by have h1 := hVN.out; have h2 := HVN.out; omega) VCU.out (fun k hk => by rcases List.mem_cons.1 hk with h | hk; exact h ▸ hqlV1.out; exact Nat.lt_of_lt_of_le (NOz.out k hk) BV1.out.size)).mono ?_
          rintro e V2w ⟨V2, vn2, vc2, D, dc, rfl, hvc2, hv8, o8, b⟩
          have BV2w := Lib.hid (BV1.out.trans (b.mono BV1.out.size))
          have V8 : Hid (VtN (q0 :: (G + 1) :: (G + 3) :: (G + 4) :: no) V2w V2 vn2 (note hs (bytesL l))) := hv8
          have D8 : Hid (RdN (q0 :: (G + 1) :: (G + 3) :: (G + 4) :: no) V2w 1 D 32 ((digL hs l).map B8)) := o8.rdNo (fun k hk => by rcases List.mem_cons.1 hk with h | hk; exact h ▸ hqlV1.out; exact Nat.lt_of_lt_of_le (NOz.out k hk) BV1.out.size)
          have D32 : Hid (32 ≤ dc) := o8.le
          have VC2 := Lib.hid hvc2
          have gV2w := b
          clear b o8 hv8 hvc2
          go_wp2_with fail
          have SV2w : V2w.rangeAt (G + 1) 0 [.slice V' vn' vc', .int .i64 0] ∧ V2w.rangeAt (G + 2) 0 [.int .i64 l.au, .int .i64 l.sq, .int .i64 l.ep, .slice pA pn pc, .slice bA bn bc] := ⟨range_keep Rz1.out BV2w.out (by have := hGz.out; omega), range_keep Rz2.out BV2w.out (by have := hGz.out; omega)⟩
          refine hK.out _ _ SV2w ?_
          intro hS
          clear hK K hS
          try simp only [Act.put, List.getElem_toArray, List.getElem_cons_zero, List.getElem_cons_succ, List.setIfInBounds_toArray, List.set_cons_zero, List.set_cons_succ]
          replace Q0 : Hid (V2w.heap[q0]? = some (.cells #[.slice none 0 0, .int .i64 0] 33 (0, 0))) := (gV2w.block q0 hqlV1.out).trans Q0.out
          have hqlV2w : Hid (q0 < V2w.heap.size) := lt_of_blk Q0.out
          have hS : V2w.rangeAt (G + 1) 0 [.slice V' vn' vc', .int .i64 0] ∧ V2w.rangeAt (G + 2) 0 [.int .i64 l.au, .int .i64 l.sq, .int .i64 l.ep, .slice pA pn pc, .slice bA bn bc] := SV2w
          refine wpAnyH_take (i := 4) (v := ?vd4) rfl (by kernel_rfl) (by kernel_rfl) (by kernel_rfl) (fun _ _ _ h => h) (Or.inl ⟨by rfl, ?hyd4⟩) hS ?restd4
          case hyd4 => (intro w' hSw; go_simp; first | done | with_reducible rfl)
          try simp only [Act.put, List.getElem_toArray, List.getElem_cons_zero, List.getElem_cons_succ, List.setIfInBounds_toArray, List.set_cons_zero, List.set_cons_succ]
          refine wpAnyH_take (i := 5) (v := .agg #[.slice V2 vn2 vc2, .int .i64 0]) rfl (by kernel_rfl) (by kernel_rfl) (by kernel_rfl) (fun _ _ _ h => h) (Or.inl ⟨by rfl, ?hyd5⟩) hS ?restd5
          case hyd5 => (intro w' hSw; go_simp; first | done | with_reducible rfl)
          try simp only [Act.put, List.getElem_toArray, List.getElem_cons_zero, List.getElem_cons_succ, List.setIfInBounds_toArray, List.set_cons_zero, List.set_cons_succ]
          refine wpAnyH_take (i := 6) (v := .slice D 32 dc) rfl (by kernel_rfl) (by kernel_rfl) (by kernel_rfl) (fun _ _ _ h => h) (Or.inl ⟨by rfl, ?hyd6⟩) hS ?restd6
          case hyd6 => (intro w' hSw; go_simp; first | done | with_reducible rfl)
          try simp only [Act.put, List.getElem_toArray, List.getElem_cons_zero, List.getElem_cons_succ, List.setIfInBounds_toArray, List.set_cons_zero, List.set_cons_succ]
          refine wpAnyH_ready (rs := [8]) (by kernel_rfl) (by simp) ?_
          refine AllReadyH.cons rfl (fun K hK => ?_) AllReadyH.nil
          refine step_store_row 33 (.tmp 10) (.tmp 29) rfl rfl q0 #[.slice V2 vn2 vc2, .int .i64 0] rfl rfl _ _ Q0.out (by kernel_rfl) rfl (by kernel_rfl) ?_
          obtain ⟨Y, hY⟩ : ∃ W0, Hid (W0 = V2w.setRow q0 #[.slice V2 vn2 vc2, .int .i64 0]) := ⟨_, Lib.hid rfl⟩
          have FY : Fr [q0] V2w Y [q0] := by rw [hY.out]; exact setRow_fr _ _ _
          have QY : Hid (Y.heap[q0]? = some (.cells #[.slice V2 vn2 vc2, .int .i64 0] 33 (0, 0))) := by unfold Hid; rw [hY.out]; exact setRow_heap _ _ _ _ _ _ Q0.out
          rw [← hY.out]
          have VY : Hid (VtN ((G + 1) :: (G + 3) :: (G + 4) :: no) Y V2 vn2 (note hs (bytesL l))) := V8.out.fr FY (fun k hk => by simp at hk; simp [hk]) (fun k hk => Or.inl (List.mem_cons_of_mem _ hk))
          have DY : Hid (RdN ((G + 1) :: (G + 3) :: (G + 4) :: no) Y 1 D 32 ((digL hs l).map B8)) := D8.out.fr FY (fun k hk => by simp at hk; simp [hk]) (fun k hk => Or.inl (List.mem_cons_of_mem _ hk))
          have BY : Hid (Below z.heap.size z Y) := by unfold Hid; rw [hY.out]; exact below_setRow BV2w.out hqG.out _
          have SY : Y.rangeAt (G + 1) 0 [.slice V' vn' vc', .int .i64 0] ∧ Y.rangeAt (G + 2) 0 [.int .i64 l.au, .int .i64 l.sq, .int .i64 l.ep, .slice pA pn pc, .slice bA bn bc] := ⟨range_keep Rz1.out BY.out (by have := hGz.out; omega), range_keep Rz2.out BY.out (by have := hGz.out; omega)⟩
          refine hK.out _ _ SY ?_
          intro hS
          clear hK K hS
          try simp only [Act.put, List.getElem_toArray, List.getElem_cons_zero, List.getElem_cons_succ, List.setIfInBounds_toArray, List.set_cons_zero, List.set_cons_succ]
          have hS : Y.rangeAt (G + 1) 0 [.slice V' vn' vc', .int .i64 0] ∧ Y.rangeAt (G + 2) 0 [.int .i64 l.au, .int .i64 l.sq, .int .i64 l.ep, .slice pA pn pc, .slice bA bn bc] := SY
          refine wpAnyH_take (i := 9) (v := ?vd9) rfl (by kernel_rfl) (by kernel_rfl) (by kernel_rfl) (fun _ _ _ h => h) (Or.inl ⟨by rfl, ?hyd9⟩) hS ?restd9
          case hyd9 => (intro w' hSw; go_simp; first | done | with_reducible rfl)
          try simp only [Act.put, List.getElem_toArray, List.getElem_cons_zero, List.getElem_cons_succ, List.setIfInBounds_toArray, List.set_cons_zero, List.set_cons_succ]
          refine wpAnyH_done (by kernel_rfl) (NoPanic.normal ?_) _
          go_wp2_with fail
          go_meet
          case rel => exact ⟨V2, vn2, vc2, D, dc, q0, rfl, rfl, VC2, D32, hqG, QY, VY, DY, BY⟩
      · go_simp
        obtain ⟨U, hU⟩ : ∃ W0, Hid (W0 = X.alloc (.cells #[.slice none 0 0, .int .i64 0] 33)) := ⟨_, Lib.hid rfl⟩
        obtain ⟨q0, hq0⟩ : ∃ q, Hid (q = X.heap.size) := ⟨_, Lib.hid rfl⟩
        have gU : Below X.heap.size X U := by rw [hU.out]; exact (Below.refl _ _).alloc (Nat.le_refl _) _
        have BU := Lib.hid (BX.out.trans (gU.mono BX.out.size))
        have Q0 : Hid (U.heap[q0]? = some (.cells #[.slice none 0 0, .int .i64 0] 33 (0, 0))) := by unfold Hid; rw [hU.out, hq0.out]; exact heap_alloc_new _ _
        have hqG : Hid (z.heap.size ≤ q0) := by unfold Hid; rw [hq0.out]; exact BX.out.size
        have hqlU : Hid (q0 < U.heap.size) := lt_of_blk Q0.out
        rw [← hU.out, ← hq0.out]
        have SU : U.rangeAt (G + 1) 0 [.slice V' vn' vc', .int .i64 0] ∧ U.rangeAt (G + 2) 0 [.int .i64 l.au, .int .i64 l.sq, .int .i64 l.ep, .slice pA pn pc, .slice bA bn bc] := ⟨range_keep Rz1.out BU.out (by have := hGz.out; omega), range_keep Rz2.out BU.out (by have := hGz.out; omega)⟩
        refine hK.out _ _ SU ?_
        intro hS
        clear hK K hS
        try simp only [Act.put, List.getElem_toArray, List.getElem_cons_zero, List.getElem_cons_succ, List.setIfInBounds_toArray, List.set_cons_zero, List.set_cons_succ]
        refine wpAnyH_ready (rs := [2]) (by kernel_rfl) (by simp) ?_
        refine AllReadyH.cons rfl (fun K hK => ?_) AllReadyH.nil
        go_simp
        refine (refBytes_ l pA pn pc bA bn bc U (HPz.out.below BU.out).1 (HBz.out.below BU.out).1 Hr.out).mono ?_
        rintro e V1 ⟨A7, m7, c7, rfl, hm7, hl7, o7, b⟩
        have BV1 := Lib.hid (BU.out.trans (b.mono BU.out.size))
        have P7 : Hid (RdN (q0 :: (G + 1) :: (G + 3) :: (G + 4) :: no) V1 1 A7 m7 ((bytesL l).map B8)) := own_rdN o7 (fun k hk => by rcases List.mem_cons.1 hk with h | hk; exact h ▸ hqlU.out; exact Nat.lt_of_lt_of_le (NOz.out k hk) BU.out.size)
        have gV1 := b
        clear b o7 hl7
        go_wp2_with fail
        have SV1 : V1.rangeAt (G + 1) 0 [.slice V' vn' vc', .int .i64 0] ∧ V1.rangeAt (G + 2) 0 [.int .i64 l.au, .int .i64 l.sq, .int .i64 l.ep, .slice pA pn pc, .slice bA bn bc] := ⟨range_keep Rz1.out BV1.out (by have := hGz.out; omega), range_keep Rz2.out BV1.out (by have := hGz.out; omega)⟩
        refine hK.out _ _ SV1 ?_
        intro hS
        clear hK K hS
        try simp only [Act.put, List.getElem_toArray, List.getElem_cons_zero, List.getElem_cons_succ, List.setIfInBounds_toArray, List.set_cons_zero, List.set_cons_succ]
        replace Q0 : Hid (V1.heap[q0]? = some (.cells #[.slice none 0 0, .int .i64 0] 33 (0, 0))) := (gV1.block q0 hqlU.out).trans Q0.out
        have hqlV1 : Hid (q0 < V1.heap.size) := lt_of_blk Q0.out
        refine wpAnyH_ready (rs := [3]) (by kernel_rfl) (by simp) ?_
        refine AllReadyH.cons rfl (fun K hK => ?_) AllReadyH.nil
        go_simp
        refine (refHashN_ V' vn' vc' 0 A7 m7 c7 hs (bytesL l) (q0 :: (G + 1) :: (G + 3) :: (G + 4) :: no) V1 (HVz.out.fr (own := []) (own' := []) (Fr.below BV1.out) (fun _ h => absurd h (by simp)) (fun k hk => by rcases List.mem_cons.1 hk with h | h; exact Or.inr (h ▸ hqG.out); exact Or.inl h)) P7.out (by have h1 := hVN.out; have h2 := HVN.out; omega) VCU.out (fun k hk => by rcases List.mem_cons.1 hk with h | hk; exact h ▸ hqlV1.out; exact Nat.lt_of_lt_of_le (NOz.out k hk) BV1.out.size)).mono ?_
        rintro e V2w ⟨V2, vn2, vc2, D, dc, rfl, hvc2, hv8, o8, b⟩
        have BV2w := Lib.hid (BV1.out.trans (b.mono BV1.out.size))
        have V8 : Hid (VtN (q0 :: (G + 1) :: (G + 3) :: (G + 4) :: no) V2w V2 vn2 (note hs (bytesL l))) := hv8
        have D8 : Hid (RdN (q0 :: (G + 1) :: (G + 3) :: (G + 4) :: no) V2w 1 D 32 ((digL hs l).map B8)) := o8.rdNo (fun k hk => by rcases List.mem_cons.1 hk with h | hk; exact h ▸ hqlV1.out; exact Nat.lt_of_lt_of_le (NOz.out k hk) BV1.out.size)
        have D32 : Hid (32 ≤ dc) := o8.le
        have VC2 := Lib.hid hvc2
        have gV2w := b
        clear b o8 hv8 hvc2
        go_wp2_with fail
        have SV2w : V2w.rangeAt (G + 1) 0 [.slice V' vn' vc', .int .i64 0] ∧ V2w.rangeAt (G + 2) 0 [.int .i64 l.au, .int .i64 l.sq, .int .i64 l.ep, .slice pA pn pc, .slice bA bn bc] := ⟨range_keep Rz1.out BV2w.out (by have := hGz.out; omega), range_keep Rz2.out BV2w.out (by have := hGz.out; omega)⟩
        refine hK.out _ _ SV2w ?_
        intro hS
        clear hK K hS
        try simp only [Act.put, List.getElem_toArray, List.getElem_cons_zero, List.getElem_cons_succ, List.setIfInBounds_toArray, List.set_cons_zero, List.set_cons_succ]
        replace Q0 : Hid (V2w.heap[q0]? = some (.cells #[.slice none 0 0, .int .i64 0] 33 (0, 0))) := (gV2w.block q0 hqlV1.out).trans Q0.out
        have hqlV2w : Hid (q0 < V2w.heap.size) := lt_of_blk Q0.out
        have hS : V2w.rangeAt (G + 1) 0 [.slice V' vn' vc', .int .i64 0] ∧ V2w.rangeAt (G + 2) 0 [.int .i64 l.au, .int .i64 l.sq, .int .i64 l.ep, .slice pA pn pc, .slice bA bn bc] := SV2w
        refine wpAnyH_take (i := 4) (v := ?vb4) rfl (by kernel_rfl) (by kernel_rfl) (by kernel_rfl) (fun _ _ _ h => h) (Or.inl ⟨by rfl, ?hyb4⟩) hS ?restb4
        case hyb4 => (intro w' hSw; go_simp; first | done | with_reducible rfl)
        try simp only [Act.put, List.getElem_toArray, List.getElem_cons_zero, List.getElem_cons_succ, List.setIfInBounds_toArray, List.set_cons_zero, List.set_cons_succ]
        refine wpAnyH_take (i := 5) (v := .agg #[.slice V2 vn2 vc2, .int .i64 0]) rfl (by kernel_rfl) (by kernel_rfl) (by kernel_rfl) (fun _ _ _ h => h) (Or.inl ⟨by rfl, ?hyb5⟩) hS ?restb5
        case hyb5 => (intro w' hSw; go_simp; first | done | with_reducible rfl)
        try simp only [Act.put, List.getElem_toArray, List.getElem_cons_zero, List.getElem_cons_succ, List.setIfInBounds_toArray, List.set_cons_zero, List.set_cons_succ]
        refine wpAnyH_take (i := 6) (v := .slice D 32 dc) rfl (by kernel_rfl) (by kernel_rfl) (by kernel_rfl) (fun _ _ _ h => h) (Or.inl ⟨by rfl, ?hyb6⟩) hS ?restb6
        case hyb6 => (intro w' hSw; go_simp; first | done | with_reducible rfl)
        try simp only [Act.put, List.getElem_toArray, List.getElem_cons_zero, List.getElem_cons_succ, List.setIfInBounds_toArray, List.set_cons_zero, List.set_cons_succ]
        refine wpAnyH_ready (rs := [8]) (by kernel_rfl) (by simp) ?_
        refine AllReadyH.cons rfl (fun K hK => ?_) AllReadyH.nil
        refine step_store_row 33 (.tmp 10) (.tmp 29) rfl rfl q0 #[.slice V2 vn2 vc2, .int .i64 0] rfl rfl _ _ Q0.out (by kernel_rfl) rfl (by kernel_rfl) ?_
        obtain ⟨Y, hY⟩ : ∃ W0, Hid (W0 = V2w.setRow q0 #[.slice V2 vn2 vc2, .int .i64 0]) := ⟨_, Lib.hid rfl⟩
        have FY : Fr [q0] V2w Y [q0] := by rw [hY.out]; exact setRow_fr _ _ _
        have QY : Hid (Y.heap[q0]? = some (.cells #[.slice V2 vn2 vc2, .int .i64 0] 33 (0, 0))) := by unfold Hid; rw [hY.out]; exact setRow_heap _ _ _ _ _ _ Q0.out
        rw [← hY.out]
        have VY : Hid (VtN ((G + 1) :: (G + 3) :: (G + 4) :: no) Y V2 vn2 (note hs (bytesL l))) := V8.out.fr FY (fun k hk => by simp at hk; simp [hk]) (fun k hk => Or.inl (List.mem_cons_of_mem _ hk))
        have DY : Hid (RdN ((G + 1) :: (G + 3) :: (G + 4) :: no) Y 1 D 32 ((digL hs l).map B8)) := D8.out.fr FY (fun k hk => by simp at hk; simp [hk]) (fun k hk => Or.inl (List.mem_cons_of_mem _ hk))
        have BY : Hid (Below z.heap.size z Y) := by unfold Hid; rw [hY.out]; exact below_setRow BV2w.out hqG.out _
        have SY : Y.rangeAt (G + 1) 0 [.slice V' vn' vc', .int .i64 0] ∧ Y.rangeAt (G + 2) 0 [.int .i64 l.au, .int .i64 l.sq, .int .i64 l.ep, .slice pA pn pc, .slice bA bn bc] := ⟨range_keep Rz1.out BY.out (by have := hGz.out; omega), range_keep Rz2.out BY.out (by have := hGz.out; omega)⟩
        refine hK.out _ _ SY ?_
        intro hS
        clear hK K hS
        try simp only [Act.put, List.getElem_toArray, List.getElem_cons_zero, List.getElem_cons_succ, List.setIfInBounds_toArray, List.set_cons_zero, List.set_cons_succ]
        have hS : Y.rangeAt (G + 1) 0 [.slice V' vn' vc', .int .i64 0] ∧ Y.rangeAt (G + 2) 0 [.int .i64 l.au, .int .i64 l.sq, .int .i64 l.ep, .slice pA pn pc, .slice bA bn bc] := SY
        refine wpAnyH_take (i := 9) (v := ?vb9) rfl (by kernel_rfl) (by kernel_rfl) (by kernel_rfl) (fun _ _ _ h => h) (Or.inl ⟨by rfl, ?hyb9⟩) hS ?restb9
        case hyb9 => (intro w' hSw; go_simp; first | done | with_reducible rfl)
        try simp only [Act.put, List.getElem_toArray, List.getElem_cons_zero, List.getElem_cons_succ, List.setIfInBounds_toArray, List.set_cons_zero, List.set_cons_succ]
        refine wpAnyH_done (by kernel_rfl) (NoPanic.normal ?_) _
        go_wp2_with fail
        go_meet
        case rel => exact ⟨V2, vn2, vc2, D, dc, q0, rfl, rfl, VC2, D32, hqG, QY, VY, DY, BY⟩
    case rest =>
      obtain ⟨V2, vn2, vc2, D, dc, q0, rfl, rfl, VCF, D32, hqz, QY, VY, DY, BY⟩ := hcut
      go_wp2_with fail
      obtain ⟨X, hX⟩ : ∃ W, Hid (W = wc.drew) := ⟨_, Lib.hid rfl⟩
      have dX : Below wc.heap.size wc X := by rw [hX.out]; exact below_drew (Below.refl _ _)
      have BX : Hid (Below z.heap.size z X) := BY.out.trans (dX.mono BY.out.size)
      have hqY : Hid (q0 < wc.heap.size) := lt_of_blk QY.out
      have X2 : Hid (X.rangeAt q0 0 [.slice V2 vn2 vc2, .int .i64 0]) := range_keep (range_of QY.out) dX hqY.out
      have hqX : Hid (q0 < X.heap.size) := Nat.lt_of_lt_of_le hqY.out dX.size
      have SX : X.rangeAt G 0 [.slice A n c] ∧ X.rangeAt (G + 2) 0 [.int .i64 l.au, .int .i64 l.sq, .int .i64 l.ep, .slice pA pn pc, .slice bA bn bc] ∧ X.rangeAt q0 0 [.slice V2 vn2 vc2, .int .i64 0] := ⟨range_keep Rz0.out BX.out (by have := hGz.out; omega), range_keep Rz2.out BX.out (by have := hGz.out; omega), X2.out⟩
      obtain ⟨Qs, hq1, hq2, hq3, hq4⟩ := HKz.out.below BX.out
      have HQ1 := Lib.hid hq1
      have HQ2 := Lib.hid hq2
      have HQ3 := Lib.hid hq3
      have HQ4 := Lib.hid hq4
      clear hq1 hq2 hq3 hq4
      have hGX : Hid (G + 5 ≤ X.heap.size) := Nat.le_trans hGz.out BX.out.size
      have hn := hN.out
      refine wp_region_noPanic ?_
      refine wp_region_held_drew (S := fun w' => w'.rangeAt G 0 [.slice A n c] ∧ w'.rangeAt (G + 2) 0 [.int .i64 l.au, .int .i64 l.sq, .int .i64 l.ep, .slice pA pn pc, .slice bA bn bc] ∧ w'.rangeAt q0 0 [.slice V2 vn2 vc2, .int .i64 0]) (by kernel_rfl) (by rw [← hX.out]; exact SX) (fun hS => ?_)
      rw [← hX.out]
      clear hS
      have hS : X.rangeAt G 0 [.slice A n c] ∧ X.rangeAt (G + 2) 0 [.int .i64 l.au, .int .i64 l.sq, .int .i64 l.ep, .slice pA pn pc, .slice bA bn bc] ∧ X.rangeAt q0 0 [.slice V2 vn2 vc2, .int .i64 0] := SX
      refine wpAnyH_take (i := 1) (v := ?vk1) rfl (by kernel_rfl) (by kernel_rfl) (by kernel_rfl) (fun _ _ _ h => h) (Or.inl ⟨by rfl, ?hyk1⟩) hS ?restk1
      case hyk1 => (intro w' hSw; go_simp; first | done | with_reducible rfl)
      try simp only [Act.put, List.getElem_toArray, List.getElem_cons_zero, List.getElem_cons_succ, List.setIfInBounds_toArray, List.set_cons_zero, List.set_cons_succ]
      refine wpAnyH_take (i := 2) (v := .slice A n c) rfl (by kernel_rfl) (by kernel_rfl) (by kernel_rfl) (fun _ _ _ h => h) (Or.inl ⟨by rfl, ?hyk2⟩) hS ?restk2
      case hyk2 => (intro w' hSw; have c0 := hSw.1 0 _ rfl; go_simp; first | done | with_reducible rfl)
      try simp only [Act.put, List.getElem_toArray, List.getElem_cons_zero, List.getElem_cons_succ, List.setIfInBounds_toArray, List.set_cons_zero, List.set_cons_succ]
      refine wpAnyH_take (i := 4) (v := ?vk4) rfl (by kernel_rfl) (by kernel_rfl) (by kernel_rfl) (fun _ _ _ h => h) (Or.inl ⟨by rfl, ?hyk4⟩) hS ?restk4
      case hyk4 => (intro w' hSw; go_simp; first | done | with_reducible rfl)
      try simp only [Act.put, List.getElem_toArray, List.getElem_cons_zero, List.getElem_cons_succ, List.setIfInBounds_toArray, List.set_cons_zero, List.set_cons_succ]
      refine wpAnyH_take (i := 5) (v := .int .i64 l.au) rfl (by kernel_rfl) (by kernel_rfl) (by kernel_rfl) (fun _ _ _ h => h) (Or.inl ⟨by rfl, ?hyk5⟩) hS ?restk5
      case hyk5 => (intro w' hSw; have c0 := hSw.2.1 0 _ rfl; go_simp; first | done | with_reducible rfl)
      try simp only [Act.put, List.getElem_toArray, List.getElem_cons_zero, List.getElem_cons_succ, List.setIfInBounds_toArray, List.set_cons_zero, List.set_cons_succ]
      refine wpAnyH_take (i := 6) (v := .slice D 32 dc) rfl (by kernel_rfl) (by kernel_rfl) (by kernel_rfl) (fun _ _ _ h => h) (Or.inl ⟨by rfl, ?hyk6⟩) hS ?restk6
      case hyk6 => (intro w' hSw; go_simp; first | done | with_reducible rfl)
      try simp only [Act.put, List.getElem_toArray, List.getElem_cons_zero, List.getElem_cons_succ, List.setIfInBounds_toArray, List.set_cons_zero, List.set_cons_succ]
      refine wpAnyH_take (i := 7) (v := ?vk7) rfl (by kernel_rfl) (by kernel_rfl) (by kernel_rfl) (fun _ _ _ h => h) (Or.inl ⟨by rfl, ?hyk7⟩) hS ?restk7
      case hyk7 => (intro w' hSw; go_simp; first | done | with_reducible rfl)
      try simp only [Act.put, List.getElem_toArray, List.getElem_cons_zero, List.getElem_cons_succ, List.setIfInBounds_toArray, List.set_cons_zero, List.set_cons_succ]
      refine wpAnyH_take (i := 8) (v := .slice bA bn bc) rfl (by kernel_rfl) (by kernel_rfl) (by kernel_rfl) (fun _ _ _ h => h) (Or.inl ⟨by rfl, ?hyk8⟩) hS ?restk8
      case hyk8 => (intro w' hSw; have c0 := hSw.2.1 4 _ rfl; go_simp; first | done | with_reducible rfl)
      try simp only [Act.put, List.getElem_toArray, List.getElem_cons_zero, List.getElem_cons_succ, List.setIfInBounds_toArray, List.set_cons_zero, List.set_cons_succ]
      refine wpAnyH_take (i := 9) (v := ?vk9) rfl (by kernel_rfl) (by kernel_rfl) (by kernel_rfl) (fun _ _ _ h => h) (Or.inl ⟨by rfl, ?hyk9⟩) hS ?restk9
      case hyk9 => (intro w' hSw; go_simp; first | done | with_reducible rfl)
      try simp only [Act.put, List.getElem_toArray, List.getElem_cons_zero, List.getElem_cons_succ, List.setIfInBounds_toArray, List.set_cons_zero, List.set_cons_succ]
      refine wpAnyH_take (i := 10) (v := .int .i64 l.ep) rfl (by kernel_rfl) (by kernel_rfl) (by kernel_rfl) (fun _ _ _ h => h) (Or.inl ⟨by rfl, ?hyk10⟩) hS ?restk10
      case hyk10 => (intro w' hSw; have c0 := hSw.2.1 2 _ rfl; go_simp; first | done | with_reducible rfl)
      try simp only [Act.put, List.getElem_toArray, List.getElem_cons_zero, List.getElem_cons_succ, List.setIfInBounds_toArray, List.set_cons_zero, List.set_cons_succ]
      refine wpAnyH_take (i := 11) (v := .agg #[.int .i64 l.au, .slice D 32 dc, .slice bA bn bc, .int .i64 l.ep]) rfl (by kernel_rfl) (by kernel_rfl) (by kernel_rfl) (fun _ _ _ h => h) (Or.inl ⟨by rfl, ?hyk11⟩) hS ?restk11
      case hyk11 => (intro w' hSw; go_simp; first | done | with_reducible rfl)
      try simp only [Act.put, List.getElem_toArray, List.getElem_cons_zero, List.getElem_cons_succ, List.setIfInBounds_toArray, List.set_cons_zero, List.set_cons_succ]
      refine wpAnyH_take (i := 15) (v := .agg #[.slice V2 vn2 vc2, .int .i64 0]) rfl (by kernel_rfl) (by kernel_rfl) (by kernel_rfl) (fun _ _ _ h => h) (Or.inl ⟨by rfl, ?hyk15⟩) hS ?restk15
      case hyk15 => (intro w' hSw; have c0 := hSw.2.2 0 _ rfl; have c1 := hSw.2.2 1 _ rfl; go_simp; first | done | with_reducible rfl)
      try simp only [Act.put, List.getElem_toArray, List.getElem_cons_zero, List.getElem_cons_succ, List.setIfInBounds_toArray, List.set_cons_zero, List.set_cons_succ]
      have PX : Hid (Below X.heap.size X X) := Below.refl _ _
      refine wpAnyH_ready (rs := [0, 12]) (by kernel_rfl) (by simp) ?_
      refine AllReadyH.cons rfl (fun K hK => ?_) (AllReadyH.cons rfl (fun K hK => ?_) AllReadyH.nil)
      · go_simp
        obtain ⟨U, hU⟩ : ∃ W0, Hid (W0 = X.alloc (.cells #[] 127)) := ⟨_, Lib.hid rfl⟩
        obtain ⟨q6, hq6⟩ : ∃ q, Hid (q = X.heap.size) := ⟨_, Lib.hid rfl⟩
        have PU : Hid (Below X.heap.size X U) := by rw [hU.out]; exact PX.out.alloc PX.out.size _
        have L0 : Hid (U.ownsRow X.heap.size 127 4 (.slice (some ⟨q6, 0, none⟩) 0 0) 0 []) := by rw [hU.out, hq6.out]; exact own_mono (World.ownsRow_lit X #[] 0 (Nat.le_refl _) (by simp [maxLen]) rfl) PX.out.size
        have gU : Below X.heap.size X U := by rw [hU.out]; exact (Below.refl _ _).alloc (Nat.le_refl _) _
        rw [← hU.out, ← hq6.out]
        have hq6X : Hid (X.heap.size ≤ q6) := Nat.le_of_eq hq6.out.symm
        have SU : U.rangeAt G 0 [.slice A n c] ∧ U.rangeAt (G + 2) 0 [.int .i64 l.au, .int .i64 l.sq, .int .i64 l.ep, .slice pA pn pc, .slice bA bn bc] ∧ U.rangeAt q0 0 [.slice V2 vn2 vc2, .int .i64 0] := ⟨range_keep SX.1 PU.out (by have := hGX.out; omega), range_keep SX.2.1 PU.out (by have := hGX.out; omega), range_keep SX.2.2 PU.out hqX.out⟩
        refine hK.out _ _ SU ?_
        intro hS
        clear hK K hS
        try simp only [Act.put, List.getElem_toArray, List.getElem_cons_zero, List.getElem_cons_succ, List.setIfInBounds_toArray, List.set_cons_zero, List.set_cons_succ]
        refine wpAnyH_ready (rs := [3, 12]) (by kernel_rfl) (by simp) ?_
        refine AllReadyH.cons rfl (fun K hK => ?_) (AllReadyH.cons rfl (fun K hK => ?_) AllReadyH.nil)
        · have hQc := Lib.hid (HQ3.out.1.to PU.out)
          refine step_app (.tmp 31) (.tmp 33) 28 rfl rfl X.heap.size 127 4 64 _ Try.underlying28 infoK rfl (by decide) (.slice (some ⟨q6, 0, none⟩) 0 0) 0 [] rfl L0.out _ A n c (Qs.flatMap rkC) rfl hQc.out (rkCs_one Qs) (by simp only [maxLen]; omega) (by omega) PU.out.size ?_
          intro A3 c3 V1 o3 g3 _
          simp only [Nat.zero_add, List.nil_append] at o3 ⊢
          have L3 := Lib.hid o3
          have G3 := Lib.hid g3
          have PV1 := Lib.hid (PU.out.trans (⟨g3.os, g3.tape, g3.output, g3.size, fun k hk => g3.block k (Nat.lt_of_lt_of_le hk PU.out.size) (fun e => by simp [Value.ownBlock] at e; have := hq6X.out; omega)⟩ : Below X.heap.size U V1))
          clear o3 g3
          have SV1 : V1.rangeAt G 0 [.slice A n c] ∧ V1.rangeAt (G + 2) 0 [.int .i64 l.au, .int .i64 l.sq, .int .i64 l.ep, .slice pA pn pc, .slice bA bn bc] ∧ V1.rangeAt q0 0 [.slice V2 vn2 vc2, .int .i64 0] := ⟨range_keep SX.1 PV1.out (by have := hGX.out; omega), range_keep SX.2.1 PV1.out (by have := hGX.out; omega), range_keep SX.2.2 PV1.out hqX.out⟩
          refine hK.out _ _ SV1 ?_
          intro hS
          clear hK K hS
          try simp only [Act.put, List.getElem_toArray, List.getElem_cons_zero, List.getElem_cons_succ, List.setIfInBounds_toArray, List.set_cons_zero, List.set_cons_succ]
          refine wpAnyH_ready (rs := [12]) (by kernel_rfl) (by simp) ?_
          refine AllReadyH.cons rfl (fun K hK => ?_) AllReadyH.nil
          go_simp
          obtain ⟨V2w, hV2w⟩ : ∃ W0, Hid (W0 = V1.alloc (.cells #[.int .i64 l.au, .slice D 32 dc, .slice bA bn bc, .int .i64 l.ep] 127)) := ⟨_, Lib.hid rfl⟩
          obtain ⟨q5, hq5⟩ : ∃ q, Hid (q = V1.heap.size) := ⟨_, Lib.hid rfl⟩
          have PV2w : Hid (Below X.heap.size X V2w) := by rw [hV2w.out]; exact PV1.out.alloc PV1.out.size _
          have L5 : Hid (Rd V2w V2w.heap.size 4 (some ⟨q5, 0, none⟩) 1 (rkC (⟨l.au, D, 32, dc, bA, bn, bc, l.ep⟩ : Rk))) := by rw [hV2w.out, hq5.out]; exact (rowK V1 (⟨l.au, D, 32, dc, bA, bn, bc, l.ep⟩ : Rk) 127).more (by rw [szAlloc]; exact Nat.le_refl _)
          have gV2w : Below V1.heap.size V1 V2w := by rw [hV2w.out]; exact (Below.refl _ _).alloc (Nat.le_refl _) _
          rw [← hV2w.out, ← hq5.out]
          replace L3 := Lib.hid (own_to L3.out gV2w)
          have SV2w : V2w.rangeAt G 0 [.slice A n c] ∧ V2w.rangeAt (G + 2) 0 [.int .i64 l.au, .int .i64 l.sq, .int .i64 l.ep, .slice pA pn pc, .slice bA bn bc] ∧ V2w.rangeAt q0 0 [.slice V2 vn2 vc2, .int .i64 0] := ⟨range_keep SX.1 PV2w.out (by have := hGX.out; omega), range_keep SX.2.1 PV2w.out (by have := hGX.out; omega), range_keep SX.2.2 PV2w.out hqX.out⟩
          refine hK.out _ _ SV2w ?_
          intro hS
          clear hK K hS
          try simp only [Act.put, List.getElem_toArray, List.getElem_cons_zero, List.getElem_cons_succ, List.setIfInBounds_toArray, List.set_cons_zero, List.set_cons_succ]
          refine wpAnyH_ready (rs := [13]) (by kernel_rfl) (by simp) ?_
          refine AllReadyH.cons rfl (fun K hK => ?_) AllReadyH.nil
          refine step_app (.tmp 34) (.tmp 43) 28 rfl rfl X.heap.size 127 4 64 _ Try.underlying28 infoK rfl (by decide) (.slice A3 n c3) n _ rfl L3.out _ (some ⟨q5, 0, none⟩) 1 1 (rkC (⟨l.au, D, 32, dc, bA, bn, bc, l.ep⟩ : Rk)) rfl L5.out (rkC_one _) (by simp only [maxLen]; omega) (by omega) PV2w.out.size ?_
          intro A6 c6 V3 o6 g6 _
          have L6 := Lib.hid o6
          have PV3 := Lib.hid (PV2w.out.trans (below_grown g6 (own_block_ge2 L3.out) PV2w.out.size))
          clear o6 g6
          have SV3 : V3.rangeAt G 0 [.slice A n c] ∧ V3.rangeAt (G + 2) 0 [.int .i64 l.au, .int .i64 l.sq, .int .i64 l.ep, .slice pA pn pc, .slice bA bn bc] ∧ V3.rangeAt q0 0 [.slice V2 vn2 vc2, .int .i64 0] := ⟨range_keep SX.1 PV3.out (by have := hGX.out; omega), range_keep SX.2.1 PV3.out (by have := hGX.out; omega), range_keep SX.2.2 PV3.out hqX.out⟩
          refine hK.out _ _ SV3 ?_
          intro hS
          clear hK K hS
          try simp only [Act.put, List.getElem_toArray, List.getElem_cons_zero, List.getElem_cons_succ, List.setIfInBounds_toArray, List.set_cons_zero, List.set_cons_succ]
          have hS : V3.rangeAt G 0 [.slice A n c] ∧ V3.rangeAt (G + 2) 0 [.int .i64 l.au, .int .i64 l.sq, .int .i64 l.ep, .slice pA pn pc, .slice bA bn bc] ∧ V3.rangeAt q0 0 [.slice V2 vn2 vc2, .int .i64 0] := SV3
          refine wpAnyH_take (i := 14) (v := .agg #[.slice A6 (n + 1) c6]) rfl (by kernel_rfl) (by kernel_rfl) (by kernel_rfl) (fun _ _ _ h => h) (Or.inl ⟨by rfl, ?hym14⟩) hS ?restm14
          case hym14 => (intro w' hSw; go_simp; first | done | with_reducible rfl)
          try simp only [Act.put, List.getElem_toArray, List.getElem_cons_zero, List.getElem_cons_succ, List.setIfInBounds_toArray, List.set_cons_zero, List.set_cons_succ]
          have X3 : Hid (V3.heap[G + 3]? = some (.cells #[.slice none 0 0] 30 (0, 0))) := ((PV3.out.block (G + 3) (by have := hGX.out; omega)).trans (BX.out.block (G + 3) (by have := hGz.out; omega))).trans H3.out
          have X4 : Hid (V3.heap[G + 4]? = some (.cells #[.slice none 0 0, .int .i64 0] 33 (0, 0))) := ((PV3.out.block (G + 4) (by have := hGX.out; omega)).trans (BX.out.block (G + 4) (by have := hGz.out; omega))).trans H4.out
          have bXc : Below wc.heap.size wc V3 := dX.trans (PV3.out.mono dX.size)
          have VN := Lib.hid (VY.out.below bXc)
          have KN : Hid (RkN ((G + 1) :: (G + 3) :: (G + 4) :: no) V3 A6 (n + 1) (S ++ [(l.au, knL hs l)])) := by
            refine RkN.snoc (A := A) Qs HQ1.out HQ2.out (fun i q x e1 e2 => (HQ4.out i q x e1 e2).below PV3.out) (q := (⟨l.au, D, 32, dc, bA, bn, bc, l.ep⟩ : Rk)) ⟨rfl, rfl, DY.out.below bXc, D32.out, (HBz.out.below BX.out).below PV3.out, hBC.out⟩ (own_rdN L6.out (fun k hk => Nat.lt_of_lt_of_le (NOz.out k hk) BX.out.size))
          have BwC : Hid (Below w.heap.size w V3) := (Bwz.out.trans (BX.out.mono Bwz.out.size)).trans (PV3.out.mono (Nat.le_trans Bwz.out.size BX.out.size))
          refine wpAnyH_ready (rs := [16]) (by kernel_rfl) (by simp) ?_
          refine AllReadyH.cons rfl (fun K hK => ?_) AllReadyH.nil
          refine step_store_row 30 (.tmp 6) (.tmp 45) rfl rfl (G + 3) #[.slice A6 (n + 1) c6] rfl (by first | rfl | kernel_rfl) _ _ X3.out (by kernel_rfl) rfl (by kernel_rfl) ?_
          obtain ⟨Y1, hY1⟩ : ∃ W0, Hid (W0 = V3.setRow (G + 3) #[.slice A6 (n + 1) c6]) := ⟨_, Lib.hid rfl⟩
          rw [← hY1.out]
          have FY1 : Hid (Fr [G + 3] V3 Y1 [G + 3]) := by rw [hY1.out]; exact setRow_fr _ _ _
          have Y13 : Hid (Y1.heap[G + 3]? = some (.cells #[.slice A6 (n + 1) c6] 30 (0, 0))) := by unfold Hid; rw [hY1.out]; exact setRow_heap _ _ _ _ _ _ X3.out
          have Y14 : Hid (Y1.heap[G + 4]? = some (.cells #[.slice none 0 0, .int .i64 0] 33 (0, 0))) := by unfold Hid; rw [hY1.out, setRow_other _ _ _ _ (by omega)]; exact X4.out
          have SY1 : Y1.rangeAt G 0 [.slice A n c] ∧ Y1.rangeAt (G + 2) 0 [.int .i64 l.au, .int .i64 l.sq, .int .i64 l.ep, .slice pA pn pc, .slice bA bn bc] ∧ Y1.rangeAt q0 0 [.slice V2 vn2 vc2, .int .i64 0] := by rw [hY1.out]; exact ⟨range_row _ SV3.1 (by omega), range_row _ SV3.2.1 (by omega), range_row _ SV3.2.2 (by have h1 := hqz.out; have h2 := hGz.out; omega)⟩
          refine hK.out _ _ SY1 ?_
          intro hS
          clear hK K hS
          try simp only [Act.put, List.getElem_toArray, List.getElem_cons_zero, List.getElem_cons_succ, List.setIfInBounds_toArray, List.set_cons_zero, List.set_cons_succ]
          refine wpAnyH_ready (rs := [17]) (by kernel_rfl) (by simp) ?_
          refine AllReadyH.cons rfl (fun K hK => ?_) AllReadyH.nil
          refine step_store_row 33 (.tmp 7) (.tmp 46) rfl rfl (G + 4) #[.slice V2 vn2 vc2, .int .i64 0] rfl (by first | rfl | kernel_rfl) _ _ Y14.out (by kernel_rfl) rfl (by kernel_rfl) ?_
          obtain ⟨Y2, hY2⟩ : ∃ W0, Hid (W0 = Y1.setRow (G + 4) #[.slice V2 vn2 vc2, .int .i64 0]) := ⟨_, Lib.hid rfl⟩
          rw [← hY2.out]
          have FY2 : Hid (Fr [G + 4] Y1 Y2 [G + 4]) := by rw [hY2.out]; exact setRow_fr _ _ _
          have Y24 : Hid (Y2.heap[G + 4]? = some (.cells #[.slice V2 vn2 vc2, .int .i64 0] 33 (0, 0))) := by unfold Hid; rw [hY2.out]; exact setRow_heap _ _ _ _ _ _ Y14.out
          have Y23 : Hid (Y2.heap[G + 3]? = some (.cells #[.slice A6 (n + 1) c6] 30 (0, 0))) := by unfold Hid; rw [hY2.out, setRow_other _ _ _ _ (by omega)]; exact Y13.out
          have SY2 : Y2.rangeAt G 0 [.slice A n c] ∧ Y2.rangeAt (G + 2) 0 [.int .i64 l.au, .int .i64 l.sq, .int .i64 l.ep, .slice pA pn pc, .slice bA bn bc] ∧ Y2.rangeAt q0 0 [.slice V2 vn2 vc2, .int .i64 0] := by rw [hY2.out]; exact ⟨range_row _ SY1.1 (by omega), range_row _ SY1.2.1 (by omega), range_row _ SY1.2.2 (by have h1 := hqz.out; have h2 := hGz.out; omega)⟩
          refine hK.out _ _ SY2 ?_
          intro hS
          clear hK K hS
          try simp only [Act.put, List.getElem_toArray, List.getElem_cons_zero, List.getElem_cons_succ, List.setIfInBounds_toArray, List.set_cons_zero, List.set_cons_succ]
          have hS : Y2.rangeAt G 0 [.slice A n c] ∧ Y2.rangeAt (G + 2) 0 [.int .i64 l.au, .int .i64 l.sq, .int .i64 l.ep, .slice pA pn pc, .slice bA bn bc] ∧ Y2.rangeAt q0 0 [.slice V2 vn2 vc2, .int .i64 0] := SY2
          refine wpAnyH_take (i := 18) (v := ?vms18) rfl (by kernel_rfl) (by kernel_rfl) (by kernel_rfl) (fun _ _ _ h => h) (Or.inl ⟨by rfl, ?hyms18⟩) hS ?restms18
          case hyms18 => (intro w' hSw; go_simp; first | done | with_reducible rfl)
          try simp only [Act.put, List.getElem_toArray, List.getElem_cons_zero, List.getElem_cons_succ, List.setIfInBounds_toArray, List.set_cons_zero, List.set_cons_succ]
          refine wpAnyH_done (by kernel_rfl) (NoPanic.normal ?_) _
          go_wp2_with fail
          refine bodyPost_ret (v := .tuple #[.agg #[.slice A6 (n + 1) c6], .agg #[.slice V2 vn2 vc2, .int .i64 0], .int .i64 (checkE S hs l)]) ?_ rfl ?_
          · rw [hEf.out]
            exact results_ccv Try.results55 rfl rfl (run_loadVar_mid (P := Try.prog) Y2 (G + 3) 0 30 _ _ (range_of Y23.out) Try.underlying30 rfl (by kernel_rfl)) (run_loadVar_mid (P := Try.prog) Y2 (G + 4) 0 33 _ _ (range_of Y24.out) Try.underlying33 rfl (by kernel_rfl))
          · refine ⟨_, _, _, _, _, _, rfl, ?_, VCF.out, ?_, ?_⟩
            · rw [hT.out.2]; exact (KN.out.fr (no' := ((G + 1) :: (G + 3) :: (G + 4) :: no)) FY1.out (fun k hk => by simp at hk; simp [hk]) (fun k hk => Or.inl hk)).fr FY2.out (fun k hk => by simp at hk; simp [hk]) (fun k hk => Or.inl (by simp [hk]))
            · rw [hT.out.1]; exact (VN.out.fr (no' := ((G + 1) :: (G + 3) :: (G + 4) :: no)) FY1.out (fun k hk => by simp at hk; simp [hk]) (fun k hk => Or.inl hk)).fr FY2.out (fun k hk => by simp at hk; simp [hk]) (fun k hk => Or.inl (by simp [hk]))
            · rw [hY2.out]; refine below_setRow ?_ (by have := hG.out; omega) _; rw [hY1.out]; exact below_setRow BwC.out (by have := hG.out; omega) _
        · go_simp
          obtain ⟨V1, hV1⟩ : ∃ W0, Hid (W0 = U.alloc (.cells #[.int .i64 l.au, .slice D 32 dc, .slice bA bn bc, .int .i64 l.ep] 127)) := ⟨_, Lib.hid rfl⟩
          obtain ⟨q5, hq5⟩ : ∃ q, Hid (q = U.heap.size) := ⟨_, Lib.hid rfl⟩
          have PV1 : Hid (Below X.heap.size X V1) := by rw [hV1.out]; exact PU.out.alloc PU.out.size _
          have L5 : Hid (Rd V1 V1.heap.size 4 (some ⟨q5, 0, none⟩) 1 (rkC (⟨l.au, D, 32, dc, bA, bn, bc, l.ep⟩ : Rk))) := by rw [hV1.out, hq5.out]; exact (rowK U (⟨l.au, D, 32, dc, bA, bn, bc, l.ep⟩ : Rk) 127).more (by rw [szAlloc]; exact Nat.le_refl _)
          have gV1 : Below U.heap.size U V1 := by rw [hV1.out]; exact (Below.refl _ _).alloc (Nat.le_refl _) _
          rw [← hV1.out, ← hq5.out]
          replace L0 := Lib.hid (own_to L0.out gV1)
          have hq5c : Hid (q5 < V1.heap.size) := by unfold Hid; rw [hq5.out, hV1.out, szAlloc]; exact Nat.lt_succ_self _
          have hq05 : Hid (¬ q5 = q6) := by unfold Hid; have h1 := hq5.out; have h2 := hq6.out; have h3 : U.heap.size = X.heap.size + 1 := (by rw [hU.out, szAlloc]); omega
          have SV1 : V1.rangeAt G 0 [.slice A n c] ∧ V1.rangeAt (G + 2) 0 [.int .i64 l.au, .int .i64 l.sq, .int .i64 l.ep, .slice pA pn pc, .slice bA bn bc] ∧ V1.rangeAt q0 0 [.slice V2 vn2 vc2, .int .i64 0] := ⟨range_keep SX.1 PV1.out (by have := hGX.out; omega), range_keep SX.2.1 PV1.out (by have := hGX.out; omega), range_keep SX.2.2 PV1.out hqX.out⟩
          refine hK.out _ _ SV1 ?_
          intro hS
          clear hK K hS
          try simp only [Act.put, List.getElem_toArray, List.getElem_cons_zero, List.getElem_cons_succ, List.setIfInBounds_toArray, List.set_cons_zero, List.set_cons_succ]
          refine wpAnyH_ready (rs := [3]) (by kernel_rfl) (by simp) ?_
          refine AllReadyH.cons rfl (fun K hK => ?_) AllReadyH.nil
          have hQc := Lib.hid (HQ3.out.1.to PV1.out)
          refine step_app (.tmp 31) (.tmp 33) 28 rfl rfl X.heap.size 127 4 64 _ Try.underlying28 infoK rfl (by decide) (.slice (some ⟨q6, 0, none⟩) 0 0) 0 [] rfl L0.out _ A n c (Qs.flatMap rkC) rfl hQc.out (rkCs_one Qs) (by simp only [maxLen]; omega) (by omega) PV1.out.size ?_
          intro A3 c3 V2w o3 g3 _
          simp only [Nat.zero_add, List.nil_append] at o3 ⊢
          have L3 := Lib.hid o3
          have G3 := Lib.hid g3
          have PV2w := Lib.hid (PV1.out.trans (⟨g3.os, g3.tape, g3.output, g3.size, fun k hk => g3.block k (Nat.lt_of_lt_of_le hk PV1.out.size) (fun e => by simp [Value.ownBlock] at e; have := hq6X.out; omega)⟩ : Below X.heap.size V1 V2w))
          clear o3 g3
          replace L5 := Lib.hid ((L5.out.same (fun b' o' _ e' => G3.out.block b' (by injection e' with e'; injection e' with e1; rw [← e1]; exact hq5c.out) (by simp [Value.ownBlock]; injection e' with e'; injection e' with e1; rw [← e1]; exact hq05.out))).more G3.out.size)
          have SV2w : V2w.rangeAt G 0 [.slice A n c] ∧ V2w.rangeAt (G + 2) 0 [.int .i64 l.au, .int .i64 l.sq, .int .i64 l.ep, .slice pA pn pc, .slice bA bn bc] ∧ V2w.rangeAt q0 0 [.slice V2 vn2 vc2, .int .i64 0] := ⟨range_keep SX.1 PV2w.out (by have := hGX.out; omega), range_keep SX.2.1 PV2w.out (by have := hGX.out; omega), range_keep SX.2.2 PV2w.out hqX.out⟩
          refine hK.out _ _ SV2w ?_
          intro hS
          clear hK K hS
          try simp only [Act.put, List.getElem_toArray, List.getElem_cons_zero, List.getElem_cons_succ, List.setIfInBounds_toArray, List.set_cons_zero, List.set_cons_succ]
          refine wpAnyH_ready (rs := [13]) (by kernel_rfl) (by simp) ?_
          refine AllReadyH.cons rfl (fun K hK => ?_) AllReadyH.nil
          refine step_app (.tmp 34) (.tmp 43) 28 rfl rfl X.heap.size 127 4 64 _ Try.underlying28 infoK rfl (by decide) (.slice A3 n c3) n _ rfl L3.out _ (some ⟨q5, 0, none⟩) 1 1 (rkC (⟨l.au, D, 32, dc, bA, bn, bc, l.ep⟩ : Rk)) rfl L5.out (rkC_one _) (by simp only [maxLen]; omega) (by omega) PV2w.out.size ?_
          intro A6 c6 V3 o6 g6 _
          have L6 := Lib.hid o6
          have PV3 := Lib.hid (PV2w.out.trans (below_grown g6 (own_block_ge2 L3.out) PV2w.out.size))
          clear o6 g6
          have SV3 : V3.rangeAt G 0 [.slice A n c] ∧ V3.rangeAt (G + 2) 0 [.int .i64 l.au, .int .i64 l.sq, .int .i64 l.ep, .slice pA pn pc, .slice bA bn bc] ∧ V3.rangeAt q0 0 [.slice V2 vn2 vc2, .int .i64 0] := ⟨range_keep SX.1 PV3.out (by have := hGX.out; omega), range_keep SX.2.1 PV3.out (by have := hGX.out; omega), range_keep SX.2.2 PV3.out hqX.out⟩
          refine hK.out _ _ SV3 ?_
          intro hS
          clear hK K hS
          try simp only [Act.put, List.getElem_toArray, List.getElem_cons_zero, List.getElem_cons_succ, List.setIfInBounds_toArray, List.set_cons_zero, List.set_cons_succ]
          have hS : V3.rangeAt G 0 [.slice A n c] ∧ V3.rangeAt (G + 2) 0 [.int .i64 l.au, .int .i64 l.sq, .int .i64 l.ep, .slice pA pn pc, .slice bA bn bc] ∧ V3.rangeAt q0 0 [.slice V2 vn2 vc2, .int .i64 0] := SV3
          refine wpAnyH_take (i := 14) (v := .agg #[.slice A6 (n + 1) c6]) rfl (by kernel_rfl) (by kernel_rfl) (by kernel_rfl) (fun _ _ _ h => h) (Or.inl ⟨by rfl, ?hyn14⟩) hS ?restn14
          case hyn14 => (intro w' hSw; go_simp; first | done | with_reducible rfl)
          try simp only [Act.put, List.getElem_toArray, List.getElem_cons_zero, List.getElem_cons_succ, List.setIfInBounds_toArray, List.set_cons_zero, List.set_cons_succ]
          have X3 : Hid (V3.heap[G + 3]? = some (.cells #[.slice none 0 0] 30 (0, 0))) := ((PV3.out.block (G + 3) (by have := hGX.out; omega)).trans (BX.out.block (G + 3) (by have := hGz.out; omega))).trans H3.out
          have X4 : Hid (V3.heap[G + 4]? = some (.cells #[.slice none 0 0, .int .i64 0] 33 (0, 0))) := ((PV3.out.block (G + 4) (by have := hGX.out; omega)).trans (BX.out.block (G + 4) (by have := hGz.out; omega))).trans H4.out
          have bXc : Below wc.heap.size wc V3 := dX.trans (PV3.out.mono dX.size)
          have VN := Lib.hid (VY.out.below bXc)
          have KN : Hid (RkN ((G + 1) :: (G + 3) :: (G + 4) :: no) V3 A6 (n + 1) (S ++ [(l.au, knL hs l)])) := by
            refine RkN.snoc (A := A) Qs HQ1.out HQ2.out (fun i q x e1 e2 => (HQ4.out i q x e1 e2).below PV3.out) (q := (⟨l.au, D, 32, dc, bA, bn, bc, l.ep⟩ : Rk)) ⟨rfl, rfl, DY.out.below bXc, D32.out, (HBz.out.below BX.out).below PV3.out, hBC.out⟩ (own_rdN L6.out (fun k hk => Nat.lt_of_lt_of_le (NOz.out k hk) BX.out.size))
          have BwC : Hid (Below w.heap.size w V3) := (Bwz.out.trans (BX.out.mono Bwz.out.size)).trans (PV3.out.mono (Nat.le_trans Bwz.out.size BX.out.size))
          refine wpAnyH_ready (rs := [16]) (by kernel_rfl) (by simp) ?_
          refine AllReadyH.cons rfl (fun K hK => ?_) AllReadyH.nil
          refine step_store_row 30 (.tmp 6) (.tmp 45) rfl rfl (G + 3) #[.slice A6 (n + 1) c6] rfl (by first | rfl | kernel_rfl) _ _ X3.out (by kernel_rfl) rfl (by kernel_rfl) ?_
          obtain ⟨Y1, hY1⟩ : ∃ W0, Hid (W0 = V3.setRow (G + 3) #[.slice A6 (n + 1) c6]) := ⟨_, Lib.hid rfl⟩
          rw [← hY1.out]
          have FY1 : Hid (Fr [G + 3] V3 Y1 [G + 3]) := by rw [hY1.out]; exact setRow_fr _ _ _
          have Y13 : Hid (Y1.heap[G + 3]? = some (.cells #[.slice A6 (n + 1) c6] 30 (0, 0))) := by unfold Hid; rw [hY1.out]; exact setRow_heap _ _ _ _ _ _ X3.out
          have Y14 : Hid (Y1.heap[G + 4]? = some (.cells #[.slice none 0 0, .int .i64 0] 33 (0, 0))) := by unfold Hid; rw [hY1.out, setRow_other _ _ _ _ (by omega)]; exact X4.out
          have SY1 : Y1.rangeAt G 0 [.slice A n c] ∧ Y1.rangeAt (G + 2) 0 [.int .i64 l.au, .int .i64 l.sq, .int .i64 l.ep, .slice pA pn pc, .slice bA bn bc] ∧ Y1.rangeAt q0 0 [.slice V2 vn2 vc2, .int .i64 0] := by rw [hY1.out]; exact ⟨range_row _ SV3.1 (by omega), range_row _ SV3.2.1 (by omega), range_row _ SV3.2.2 (by have h1 := hqz.out; have h2 := hGz.out; omega)⟩
          refine hK.out _ _ SY1 ?_
          intro hS
          clear hK K hS
          try simp only [Act.put, List.getElem_toArray, List.getElem_cons_zero, List.getElem_cons_succ, List.setIfInBounds_toArray, List.set_cons_zero, List.set_cons_succ]
          refine wpAnyH_ready (rs := [17]) (by kernel_rfl) (by simp) ?_
          refine AllReadyH.cons rfl (fun K hK => ?_) AllReadyH.nil
          refine step_store_row 33 (.tmp 7) (.tmp 46) rfl rfl (G + 4) #[.slice V2 vn2 vc2, .int .i64 0] rfl (by first | rfl | kernel_rfl) _ _ Y14.out (by kernel_rfl) rfl (by kernel_rfl) ?_
          obtain ⟨Y2, hY2⟩ : ∃ W0, Hid (W0 = Y1.setRow (G + 4) #[.slice V2 vn2 vc2, .int .i64 0]) := ⟨_, Lib.hid rfl⟩
          rw [← hY2.out]
          have FY2 : Hid (Fr [G + 4] Y1 Y2 [G + 4]) := by rw [hY2.out]; exact setRow_fr _ _ _
          have Y24 : Hid (Y2.heap[G + 4]? = some (.cells #[.slice V2 vn2 vc2, .int .i64 0] 33 (0, 0))) := by unfold Hid; rw [hY2.out]; exact setRow_heap _ _ _ _ _ _ Y14.out
          have Y23 : Hid (Y2.heap[G + 3]? = some (.cells #[.slice A6 (n + 1) c6] 30 (0, 0))) := by unfold Hid; rw [hY2.out, setRow_other _ _ _ _ (by omega)]; exact Y13.out
          have SY2 : Y2.rangeAt G 0 [.slice A n c] ∧ Y2.rangeAt (G + 2) 0 [.int .i64 l.au, .int .i64 l.sq, .int .i64 l.ep, .slice pA pn pc, .slice bA bn bc] ∧ Y2.rangeAt q0 0 [.slice V2 vn2 vc2, .int .i64 0] := by rw [hY2.out]; exact ⟨range_row _ SY1.1 (by omega), range_row _ SY1.2.1 (by omega), range_row _ SY1.2.2 (by have h1 := hqz.out; have h2 := hGz.out; omega)⟩
          refine hK.out _ _ SY2 ?_
          intro hS
          clear hK K hS
          try simp only [Act.put, List.getElem_toArray, List.getElem_cons_zero, List.getElem_cons_succ, List.setIfInBounds_toArray, List.set_cons_zero, List.set_cons_succ]
          have hS : Y2.rangeAt G 0 [.slice A n c] ∧ Y2.rangeAt (G + 2) 0 [.int .i64 l.au, .int .i64 l.sq, .int .i64 l.ep, .slice pA pn pc, .slice bA bn bc] ∧ Y2.rangeAt q0 0 [.slice V2 vn2 vc2, .int .i64 0] := SY2
          refine wpAnyH_take (i := 18) (v := ?vns18) rfl (by kernel_rfl) (by kernel_rfl) (by kernel_rfl) (fun _ _ _ h => h) (Or.inl ⟨by rfl, ?hyns18⟩) hS ?restns18
          case hyns18 => (intro w' hSw; go_simp; first | done | with_reducible rfl)
          try simp only [Act.put, List.getElem_toArray, List.getElem_cons_zero, List.getElem_cons_succ, List.setIfInBounds_toArray, List.set_cons_zero, List.set_cons_succ]
          refine wpAnyH_done (by kernel_rfl) (NoPanic.normal ?_) _
          go_wp2_with fail
          refine bodyPost_ret (v := .tuple #[.agg #[.slice A6 (n + 1) c6], .agg #[.slice V2 vn2 vc2, .int .i64 0], .int .i64 (checkE S hs l)]) ?_ rfl ?_
          · rw [hEf.out]
            exact results_ccv Try.results55 rfl rfl (run_loadVar_mid (P := Try.prog) Y2 (G + 3) 0 30 _ _ (range_of Y23.out) Try.underlying30 rfl (by kernel_rfl)) (run_loadVar_mid (P := Try.prog) Y2 (G + 4) 0 33 _ _ (range_of Y24.out) Try.underlying33 rfl (by kernel_rfl))
          · refine ⟨_, _, _, _, _, _, rfl, ?_, VCF.out, ?_, ?_⟩
            · rw [hT.out.2]; exact (KN.out.fr (no' := ((G + 1) :: (G + 3) :: (G + 4) :: no)) FY1.out (fun k hk => by simp at hk; simp [hk]) (fun k hk => Or.inl hk)).fr FY2.out (fun k hk => by simp at hk; simp [hk]) (fun k hk => Or.inl (by simp [hk]))
            · rw [hT.out.1]; exact (VN.out.fr (no' := ((G + 1) :: (G + 3) :: (G + 4) :: no)) FY1.out (fun k hk => by simp at hk; simp [hk]) (fun k hk => Or.inl hk)).fr FY2.out (fun k hk => by simp at hk; simp [hk]) (fun k hk => Or.inl (by simp [hk]))
            · rw [hY2.out]; refine below_setRow ?_ (by have := hG.out; omega) _; rw [hY1.out]; exact below_setRow BwC.out (by have := hG.out; omega) _
      · go_simp
        obtain ⟨U, hU⟩ : ∃ W0, Hid (W0 = X.alloc (.cells #[.int .i64 l.au, .slice D 32 dc, .slice bA bn bc, .int .i64 l.ep] 127)) := ⟨_, Lib.hid rfl⟩
        obtain ⟨q5, hq5⟩ : ∃ q, Hid (q = X.heap.size) := ⟨_, Lib.hid rfl⟩
        have PU : Hid (Below X.heap.size X U) := by rw [hU.out]; exact PX.out.alloc PX.out.size _
        have L5 : Hid (Rd U U.heap.size 4 (some ⟨q5, 0, none⟩) 1 (rkC (⟨l.au, D, 32, dc, bA, bn, bc, l.ep⟩ : Rk))) := by rw [hU.out, hq5.out]; exact (rowK X (⟨l.au, D, 32, dc, bA, bn, bc, l.ep⟩ : Rk) 127).more (by rw [szAlloc]; exact Nat.le_refl _)
        have gU : Below X.heap.size X U := by rw [hU.out]; exact (Below.refl _ _).alloc (Nat.le_refl _) _
        rw [← hU.out, ← hq5.out]
        have SU : U.rangeAt G 0 [.slice A n c] ∧ U.rangeAt (G + 2) 0 [.int .i64 l.au, .int .i64 l.sq, .int .i64 l.ep, .slice pA pn pc, .slice bA bn bc] ∧ U.rangeAt q0 0 [.slice V2 vn2 vc2, .int .i64 0] := ⟨range_keep SX.1 PU.out (by have := hGX.out; omega), range_keep SX.2.1 PU.out (by have := hGX.out; omega), range_keep SX.2.2 PU.out hqX.out⟩
        refine hK.out _ _ SU ?_
        intro hS
        clear hK K hS
        try simp only [Act.put, List.getElem_toArray, List.getElem_cons_zero, List.getElem_cons_succ, List.setIfInBounds_toArray, List.set_cons_zero, List.set_cons_succ]
        refine wpAnyH_ready (rs := [0]) (by kernel_rfl) (by simp) ?_
        refine AllReadyH.cons rfl (fun K hK => ?_) AllReadyH.nil
        go_simp
        obtain ⟨V1, hV1⟩ : ∃ W0, Hid (W0 = U.alloc (.cells #[] 127)) := ⟨_, Lib.hid rfl⟩
        obtain ⟨q6, hq6⟩ : ∃ q, Hid (q = U.heap.size) := ⟨_, Lib.hid rfl⟩
        have PV1 : Hid (Below X.heap.size X V1) := by rw [hV1.out]; exact PU.out.alloc PU.out.size _
        have L0 : Hid (V1.ownsRow X.heap.size 127 4 (.slice (some ⟨q6, 0, none⟩) 0 0) 0 []) := by rw [hV1.out, hq6.out]; exact own_mono (World.ownsRow_lit U #[] 0 (Nat.le_refl _) (by simp [maxLen]) rfl) PU.out.size
        have gV1 : Below U.heap.size U V1 := by rw [hV1.out]; exact (Below.refl _ _).alloc (Nat.le_refl _) _
        rw [← hV1.out, ← hq6.out]
        replace L5 := Lib.hid (L5.out.to gV1)
        have hq6X : Hid (X.heap.size ≤ q6) := by unfold Hid; rw [hq6.out]; exact PU.out.size
        have hq5c : Hid (q5 < V1.heap.size) := by unfold Hid; have h1 := hq5.out; have h2 : U.heap.size = X.heap.size + 1 := (by rw [hU.out, szAlloc]); have h3 := gV1.size; omega
        have hq05 : Hid (¬ q5 = q6) := by unfold Hid; have h1 := hq5.out; have h2 := hq6.out; have h3 : U.heap.size = X.heap.size + 1 := (by rw [hU.out, szAlloc]); omega
        have SV1 : V1.rangeAt G 0 [.slice A n c] ∧ V1.rangeAt (G + 2) 0 [.int .i64 l.au, .int .i64 l.sq, .int .i64 l.ep, .slice pA pn pc, .slice bA bn bc] ∧ V1.rangeAt q0 0 [.slice V2 vn2 vc2, .int .i64 0] := ⟨range_keep SX.1 PV1.out (by have := hGX.out; omega), range_keep SX.2.1 PV1.out (by have := hGX.out; omega), range_keep SX.2.2 PV1.out hqX.out⟩
        refine hK.out _ _ SV1 ?_
        intro hS
        clear hK K hS
        try simp only [Act.put, List.getElem_toArray, List.getElem_cons_zero, List.getElem_cons_succ, List.setIfInBounds_toArray, List.set_cons_zero, List.set_cons_succ]
        refine wpAnyH_ready (rs := [3]) (by kernel_rfl) (by simp) ?_
        refine AllReadyH.cons rfl (fun K hK => ?_) AllReadyH.nil
        have hQc := Lib.hid (HQ3.out.1.to PV1.out)
        refine step_app (.tmp 31) (.tmp 33) 28 rfl rfl X.heap.size 127 4 64 _ Try.underlying28 infoK rfl (by decide) (.slice (some ⟨q6, 0, none⟩) 0 0) 0 [] rfl L0.out _ A n c (Qs.flatMap rkC) rfl hQc.out (rkCs_one Qs) (by simp only [maxLen]; omega) (by omega) PV1.out.size ?_
        intro A3 c3 V2w o3 g3 _
        simp only [Nat.zero_add, List.nil_append] at o3 ⊢
        have L3 := Lib.hid o3
        have G3 := Lib.hid g3
        have PV2w := Lib.hid (PV1.out.trans (⟨g3.os, g3.tape, g3.output, g3.size, fun k hk => g3.block k (Nat.lt_of_lt_of_le hk PV1.out.size) (fun e => by simp [Value.ownBlock] at e; have := hq6X.out; omega)⟩ : Below X.heap.size V1 V2w))
        clear o3 g3
        replace L5 := Lib.hid ((L5.out.same (fun b' o' _ e' => G3.out.block b' (by injection e' with e'; injection e' with e1; rw [← e1]; exact hq5c.out) (by simp [Value.ownBlock]; injection e' with e'; injection e' with e1; rw [← e1]; exact hq05.out))).more G3.out.size)
        have SV2w : V2w.rangeAt G 0 [.slice A n c] ∧ V2w.rangeAt (G + 2) 0 [.int .i64 l.au, .int .i64 l.sq, .int .i64 l.ep, .slice pA pn pc, .slice bA bn bc] ∧ V2w.rangeAt q0 0 [.slice V2 vn2 vc2, .int .i64 0] := ⟨range_keep SX.1 PV2w.out (by have := hGX.out; omega), range_keep SX.2.1 PV2w.out (by have := hGX.out; omega), range_keep SX.2.2 PV2w.out hqX.out⟩
        refine hK.out _ _ SV2w ?_
        intro hS
        clear hK K hS
        try simp only [Act.put, List.getElem_toArray, List.getElem_cons_zero, List.getElem_cons_succ, List.setIfInBounds_toArray, List.set_cons_zero, List.set_cons_succ]
        refine wpAnyH_ready (rs := [13]) (by kernel_rfl) (by simp) ?_
        refine AllReadyH.cons rfl (fun K hK => ?_) AllReadyH.nil
        refine step_app (.tmp 34) (.tmp 43) 28 rfl rfl X.heap.size 127 4 64 _ Try.underlying28 infoK rfl (by decide) (.slice A3 n c3) n _ rfl L3.out _ (some ⟨q5, 0, none⟩) 1 1 (rkC (⟨l.au, D, 32, dc, bA, bn, bc, l.ep⟩ : Rk)) rfl L5.out (rkC_one _) (by simp only [maxLen]; omega) (by omega) PV2w.out.size ?_
        intro A6 c6 V3 o6 g6 _
        have L6 := Lib.hid o6
        have PV3 := Lib.hid (PV2w.out.trans (below_grown g6 (own_block_ge2 L3.out) PV2w.out.size))
        clear o6 g6
        have SV3 : V3.rangeAt G 0 [.slice A n c] ∧ V3.rangeAt (G + 2) 0 [.int .i64 l.au, .int .i64 l.sq, .int .i64 l.ep, .slice pA pn pc, .slice bA bn bc] ∧ V3.rangeAt q0 0 [.slice V2 vn2 vc2, .int .i64 0] := ⟨range_keep SX.1 PV3.out (by have := hGX.out; omega), range_keep SX.2.1 PV3.out (by have := hGX.out; omega), range_keep SX.2.2 PV3.out hqX.out⟩
        refine hK.out _ _ SV3 ?_
        intro hS
        clear hK K hS
        try simp only [Act.put, List.getElem_toArray, List.getElem_cons_zero, List.getElem_cons_succ, List.setIfInBounds_toArray, List.set_cons_zero, List.set_cons_succ]
        have hS : V3.rangeAt G 0 [.slice A n c] ∧ V3.rangeAt (G + 2) 0 [.int .i64 l.au, .int .i64 l.sq, .int .i64 l.ep, .slice pA pn pc, .slice bA bn bc] ∧ V3.rangeAt q0 0 [.slice V2 vn2 vc2, .int .i64 0] := SV3
        refine wpAnyH_take (i := 14) (v := .agg #[.slice A6 (n + 1) c6]) rfl (by kernel_rfl) (by kernel_rfl) (by kernel_rfl) (fun _ _ _ h => h) (Or.inl ⟨by rfl, ?hyp14⟩) hS ?restp14
        case hyp14 => (intro w' hSw; go_simp; first | done | with_reducible rfl)
        try simp only [Act.put, List.getElem_toArray, List.getElem_cons_zero, List.getElem_cons_succ, List.setIfInBounds_toArray, List.set_cons_zero, List.set_cons_succ]
        have X3 : Hid (V3.heap[G + 3]? = some (.cells #[.slice none 0 0] 30 (0, 0))) := ((PV3.out.block (G + 3) (by have := hGX.out; omega)).trans (BX.out.block (G + 3) (by have := hGz.out; omega))).trans H3.out
        have X4 : Hid (V3.heap[G + 4]? = some (.cells #[.slice none 0 0, .int .i64 0] 33 (0, 0))) := ((PV3.out.block (G + 4) (by have := hGX.out; omega)).trans (BX.out.block (G + 4) (by have := hGz.out; omega))).trans H4.out
        have bXc : Below wc.heap.size wc V3 := dX.trans (PV3.out.mono dX.size)
        have VN := Lib.hid (VY.out.below bXc)
        have KN : Hid (RkN ((G + 1) :: (G + 3) :: (G + 4) :: no) V3 A6 (n + 1) (S ++ [(l.au, knL hs l)])) := by
          refine RkN.snoc (A := A) Qs HQ1.out HQ2.out (fun i q x e1 e2 => (HQ4.out i q x e1 e2).below PV3.out) (q := (⟨l.au, D, 32, dc, bA, bn, bc, l.ep⟩ : Rk)) ⟨rfl, rfl, DY.out.below bXc, D32.out, (HBz.out.below BX.out).below PV3.out, hBC.out⟩ (own_rdN L6.out (fun k hk => Nat.lt_of_lt_of_le (NOz.out k hk) BX.out.size))
        have BwC : Hid (Below w.heap.size w V3) := (Bwz.out.trans (BX.out.mono Bwz.out.size)).trans (PV3.out.mono (Nat.le_trans Bwz.out.size BX.out.size))
        refine wpAnyH_ready (rs := [16]) (by kernel_rfl) (by simp) ?_
        refine AllReadyH.cons rfl (fun K hK => ?_) AllReadyH.nil
        refine step_store_row 30 (.tmp 6) (.tmp 45) rfl rfl (G + 3) #[.slice A6 (n + 1) c6] rfl (by first | rfl | kernel_rfl) _ _ X3.out (by kernel_rfl) rfl (by kernel_rfl) ?_
        obtain ⟨Y1, hY1⟩ : ∃ W0, Hid (W0 = V3.setRow (G + 3) #[.slice A6 (n + 1) c6]) := ⟨_, Lib.hid rfl⟩
        rw [← hY1.out]
        have FY1 : Hid (Fr [G + 3] V3 Y1 [G + 3]) := by rw [hY1.out]; exact setRow_fr _ _ _
        have Y13 : Hid (Y1.heap[G + 3]? = some (.cells #[.slice A6 (n + 1) c6] 30 (0, 0))) := by unfold Hid; rw [hY1.out]; exact setRow_heap _ _ _ _ _ _ X3.out
        have Y14 : Hid (Y1.heap[G + 4]? = some (.cells #[.slice none 0 0, .int .i64 0] 33 (0, 0))) := by unfold Hid; rw [hY1.out, setRow_other _ _ _ _ (by omega)]; exact X4.out
        have SY1 : Y1.rangeAt G 0 [.slice A n c] ∧ Y1.rangeAt (G + 2) 0 [.int .i64 l.au, .int .i64 l.sq, .int .i64 l.ep, .slice pA pn pc, .slice bA bn bc] ∧ Y1.rangeAt q0 0 [.slice V2 vn2 vc2, .int .i64 0] := by rw [hY1.out]; exact ⟨range_row _ SV3.1 (by omega), range_row _ SV3.2.1 (by omega), range_row _ SV3.2.2 (by have h1 := hqz.out; have h2 := hGz.out; omega)⟩
        refine hK.out _ _ SY1 ?_
        intro hS
        clear hK K hS
        try simp only [Act.put, List.getElem_toArray, List.getElem_cons_zero, List.getElem_cons_succ, List.setIfInBounds_toArray, List.set_cons_zero, List.set_cons_succ]
        refine wpAnyH_ready (rs := [17]) (by kernel_rfl) (by simp) ?_
        refine AllReadyH.cons rfl (fun K hK => ?_) AllReadyH.nil
        refine step_store_row 33 (.tmp 7) (.tmp 46) rfl rfl (G + 4) #[.slice V2 vn2 vc2, .int .i64 0] rfl (by first | rfl | kernel_rfl) _ _ Y14.out (by kernel_rfl) rfl (by kernel_rfl) ?_
        obtain ⟨Y2, hY2⟩ : ∃ W0, Hid (W0 = Y1.setRow (G + 4) #[.slice V2 vn2 vc2, .int .i64 0]) := ⟨_, Lib.hid rfl⟩
        rw [← hY2.out]
        have FY2 : Hid (Fr [G + 4] Y1 Y2 [G + 4]) := by rw [hY2.out]; exact setRow_fr _ _ _
        have Y24 : Hid (Y2.heap[G + 4]? = some (.cells #[.slice V2 vn2 vc2, .int .i64 0] 33 (0, 0))) := by unfold Hid; rw [hY2.out]; exact setRow_heap _ _ _ _ _ _ Y14.out
        have Y23 : Hid (Y2.heap[G + 3]? = some (.cells #[.slice A6 (n + 1) c6] 30 (0, 0))) := by unfold Hid; rw [hY2.out, setRow_other _ _ _ _ (by omega)]; exact Y13.out
        have SY2 : Y2.rangeAt G 0 [.slice A n c] ∧ Y2.rangeAt (G + 2) 0 [.int .i64 l.au, .int .i64 l.sq, .int .i64 l.ep, .slice pA pn pc, .slice bA bn bc] ∧ Y2.rangeAt q0 0 [.slice V2 vn2 vc2, .int .i64 0] := by rw [hY2.out]; exact ⟨range_row _ SY1.1 (by omega), range_row _ SY1.2.1 (by omega), range_row _ SY1.2.2 (by have h1 := hqz.out; have h2 := hGz.out; omega)⟩
        refine hK.out _ _ SY2 ?_
        intro hS
        clear hK K hS
        try simp only [Act.put, List.getElem_toArray, List.getElem_cons_zero, List.getElem_cons_succ, List.setIfInBounds_toArray, List.set_cons_zero, List.set_cons_succ]
        have hS : Y2.rangeAt G 0 [.slice A n c] ∧ Y2.rangeAt (G + 2) 0 [.int .i64 l.au, .int .i64 l.sq, .int .i64 l.ep, .slice pA pn pc, .slice bA bn bc] ∧ Y2.rangeAt q0 0 [.slice V2 vn2 vc2, .int .i64 0] := SY2
        refine wpAnyH_take (i := 18) (v := ?vps18) rfl (by kernel_rfl) (by kernel_rfl) (by kernel_rfl) (fun _ _ _ h => h) (Or.inl ⟨by rfl, ?hyps18⟩) hS ?restps18
        case hyps18 => (intro w' hSw; go_simp; first | done | with_reducible rfl)
        try simp only [Act.put, List.getElem_toArray, List.getElem_cons_zero, List.getElem_cons_succ, List.setIfInBounds_toArray, List.set_cons_zero, List.set_cons_succ]
        refine wpAnyH_done (by kernel_rfl) (NoPanic.normal ?_) _
        go_wp2_with fail
        refine bodyPost_ret (v := .tuple #[.agg #[.slice A6 (n + 1) c6], .agg #[.slice V2 vn2 vc2, .int .i64 0], .int .i64 (checkE S hs l)]) ?_ rfl ?_
        · rw [hEf.out]
          exact results_ccv Try.results55 rfl rfl (run_loadVar_mid (P := Try.prog) Y2 (G + 3) 0 30 _ _ (range_of Y23.out) Try.underlying30 rfl (by kernel_rfl)) (run_loadVar_mid (P := Try.prog) Y2 (G + 4) 0 33 _ _ (range_of Y24.out) Try.underlying33 rfl (by kernel_rfl))
        · refine ⟨_, _, _, _, _, _, rfl, ?_, VCF.out, ?_, ?_⟩
          · rw [hT.out.2]; exact (KN.out.fr (no' := ((G + 1) :: (G + 3) :: (G + 4) :: no)) FY1.out (fun k hk => by simp at hk; simp [hk]) (fun k hk => Or.inl hk)).fr FY2.out (fun k hk => by simp at hk; simp [hk]) (fun k hk => Or.inl (by simp [hk]))
          · rw [hT.out.1]; exact (VN.out.fr (no' := ((G + 1) :: (G + 3) :: (G + 4) :: no)) FY1.out (fun k hk => by simp at hk; simp [hk]) (fun k hk => Or.inl hk)).fr FY2.out (fun k hk => by simp at hk; simp [hk]) (fun k hk => Or.inl (by simp [hk]))
          · rw [hY2.out]; refine below_setRow ?_ (by have := hG.out; omega) _; rw [hY1.out]; exact below_setRow BwC.out (by have := hG.out; omega) _
  · have hT : Hid (takeH S hs l = checkH S hs l ∧ takeS S hs l = S) := ⟨if_neg (by rw [← hE.out]; exact h0), if_neg (by rw [← hE.out]; exact h0)⟩
    have h0' : (E != 0) = true := by simp [h0]
    have hEf : Hid (checkE S hs l = E) := hE.out.symm
    clear hE
    go_wp2_with (refine wpList_store_row rfl 33 (.tmp 4) (.tmp 17) rfl (G + 1) #[.slice V' vn' vc', .int .i64 0] rfl (by first | rfl | kernel_rfl) _ _ h1u (by kernel_rfl) rfl (by kernel_rfl) ?_)
    generalize hQ : World.setRow _ _ _ = z
    have hz1 : Hid (z.heap[G + 1]? = some (.cells #[.slice V' vn' vc', .int .i64 0] 33 (0, 0))) := by rw [← hQ]; exact setRow_heap _ _ _ _ _ _ h1u
    have Fz : Hid (Fr [G + 1] u z [G + 1]) := by rw [← hQ]; exact setRow_fr _ _ _
    have Bwz : Hid (Below w.heap.size w z) := by rw [← hQ]; exact below_setRow (BW.out.trans (BU.out.mono BW.out.size)) (by have := hG.out; omega) _
    have hzs : Hid (W.heap.size ≤ z.heap.size) := by unfold Hid; rw [← hQ, setRow_size]; exact BU.out.size
    have oz : ∀ k, k < W.heap.size → k ≠ G + 1 → z.heap[k]? = W.heap[k]? := fun k hk hne => by rw [← hQ, setRow_other _ _ _ _ hne]; exact BU.out.block k hk
    have Rz0 : Hid (z.rangeAt G 0 [.slice A n c]) := fun j v hj => (World.cell?_of_block (a := ⟨G, 0 + j, none⟩) (oz G (by have := hWs.out; omega) (by omega))).trans (R0.out j v hj)
    have Rz2 : Hid (z.rangeAt (G + 2) 0 [.int .i64 l.au, .int .i64 l.sq, .int .i64 l.ep, .slice pA pn pc, .slice bA bn bc]) := fun j v hj => (World.cell?_of_block (a := ⟨G + 2, 0 + j, none⟩) (oz (G + 2) (by have := hWs.out; omega) (by omega))).trans (R2.out j v hj)
    have Rz1 : Hid (z.rangeAt (G + 1) 0 [.slice V' vn' vc', .int .i64 0]) := range_of hz1.out
    have H3 : Hid (z.heap[G + 3]? = some (.cells #[.slice none 0 0] 30 (0, 0))) := (oz (G + 3) (by have := hWs.out; omega) (by omega)).trans R3.out
    have H4 : Hid (z.heap[G + 4]? = some (.cells #[.slice none 0 0, .int .i64 0] 33 (0, 0))) := (oz (G + 4) (by have := hWs.out; omega) (by omega)).trans R4.out
    have HKz : Hid (RkN ((G + 1) :: (G + 3) :: (G + 4) :: no) z A n S) := (HK.out.below BU.out).fr Fz.out (fun k hk => by simp at hk; simp [hk]) (fun k hk => Or.inl hk)
    have HVz : Hid (VtN ((G + 1) :: (G + 3) :: (G + 4) :: no) z V' vn' (checkH S hs l)) := VU.out.fr Fz.out (fun k hk => by simp at hk; simp [hk]) (fun k hk => Or.inl hk)
    have HPz : Hid (RdN ((G + 1) :: (G + 3) :: (G + 4) :: no) z 1 pA pn (l.pv.map B8)) := (HP.out.below BU.out).fr Fz.out (fun k hk => by simp at hk; simp [hk]) (fun k hk => Or.inl hk)
    have HBz : Hid (RdN ((G + 1) :: (G + 3) :: (G + 4) :: no) z 1 bA bn (l.bd.map B8)) := (HB.out.below BU.out).fr Fz.out (fun k hk => by simp at hk; simp [hk]) (fun k hk => Or.inl hk)
    have hGz : Hid (G + 5 ≤ z.heap.size) := by have h1 := hWs.out; have h2 := hzs.out; unfold Hid; omega
    have NOz : Hid (∀ k, k ∈ ((G + 1) :: (G + 3) :: (G + 4) :: no) → k < z.heap.size) := fun k hk => Nat.lt_of_lt_of_le (HNO.out k hk) hzs.out
    clear hQ h1u oz
    clear h0'
    obtain ⟨X, hX⟩ : ∃ W, Hid (W = z.drew) := ⟨_, Lib.hid rfl⟩
    have dX : Below z.heap.size z X := by rw [hX.out]; exact below_drew (Below.refl _ _)
    have SX : X.rangeAt G 0 [.slice A n c] ∧ X.rangeAt (G + 1) 0 [.slice V' vn' vc', .int .i64 0] := ⟨range_keep Rz0.out dX (by have := hGz.out; omega), range_keep Rz1.out dX (by have := hGz.out; omega)⟩
    have KN := Lib.hid (HKz.out.below dX)
    have VN := Lib.hid (HVz.out.below dX)
    have VCF := VCU
    have BwC := Lib.hid (Bwz.out.trans (dX.mono Bwz.out.size))
    have X3 : Hid (X.heap[G + 3]? = some (.cells #[.slice none 0 0] 30 (0, 0))) := (dX.block (G + 3) (by have := hGz.out; omega)).trans H3.out
    have X4 : Hid (X.heap[G + 4]? = some (.cells #[.slice none 0 0, .int .i64 0] 33 (0, 0))) := (dX.block (G + 4) (by have := hGz.out; omega)).trans H4.out
    refine wp_region_noPanic ?_
    refine wp_region_held_drew (S := fun w' => w'.rangeAt G 0 [.slice A n c] ∧ w'.rangeAt (G + 1) 0 [.slice V' vn' vc', .int .i64 0]) (by kernel_rfl) (by rw [← hX.out]; exact SX) (fun hS => ?_)
    rw [← hX.out]
    clear hS
    have hS : X.rangeAt G 0 [.slice A n c] ∧ X.rangeAt (G + 1) 0 [.slice V' vn' vc', .int .i64 0] := SX
    refine wpAnyH_take (i := 0) (v := .agg #[.slice A n c]) rfl (by kernel_rfl) (by kernel_rfl) (by kernel_rfl) (fun _ _ _ h => h) (Or.inl ⟨by rfl, ?hyya0⟩) hS ?restya0
    case hyya0 => (intro w' hSw; have c0 := hSw.1 0 _ rfl; go_simp; first | done | with_reducible rfl)
    try simp only [Act.put, List.getElem_toArray, List.getElem_cons_zero, List.getElem_cons_succ, List.setIfInBounds_toArray, List.set_cons_zero, List.set_cons_succ]
    refine wpAnyH_take (i := 1) (v := .agg #[.slice V' vn' vc', .int .i64 0]) rfl (by kernel_rfl) (by kernel_rfl) (by kernel_rfl) (fun _ _ _ h => h) (Or.inl ⟨by rfl, ?hyya1⟩) hS ?restya1
    case hyya1 => (intro w' hSw; have c0 := hSw.2 0 _ rfl; have c1 := hSw.2 1 _ rfl; go_simp; first | done | with_reducible rfl)
    try simp only [Act.put, List.getElem_toArray, List.getElem_cons_zero, List.getElem_cons_succ, List.setIfInBounds_toArray, List.set_cons_zero, List.set_cons_succ]
    refine wpAnyH_take (i := 2) (v := .int .i64 E) rfl (by kernel_rfl) (by kernel_rfl) (by kernel_rfl) (fun _ _ _ h => h) (Or.inl ⟨by rfl, ?hyya2⟩) hS ?restya2
    case hyya2 => (intro w' hSw; go_simp; first | done | with_reducible rfl)
    try simp only [Act.put, List.getElem_toArray, List.getElem_cons_zero, List.getElem_cons_succ, List.setIfInBounds_toArray, List.set_cons_zero, List.set_cons_succ]
    refine wpAnyH_ready (rs := [3]) (by kernel_rfl) (by simp) ?_
    refine AllReadyH.cons rfl (fun K hK => ?_) AllReadyH.nil
    refine step_store_row 30 (.tmp 6) (.tmp 21) rfl rfl (G + 3) #[.slice A n c] rfl (by first | rfl | kernel_rfl) _ _ X3.out (by kernel_rfl) rfl (by kernel_rfl) ?_
    obtain ⟨Y1, hY1⟩ : ∃ W0, Hid (W0 = X.setRow (G + 3) #[.slice A n c]) := ⟨_, Lib.hid rfl⟩
    rw [← hY1.out]
    have FY1 : Hid (Fr [G + 3] X Y1 [G + 3]) := by rw [hY1.out]; exact setRow_fr _ _ _
    have Y13 : Hid (Y1.heap[G + 3]? = some (.cells #[.slice A n c] 30 (0, 0))) := by unfold Hid; rw [hY1.out]; exact setRow_heap _ _ _ _ _ _ X3.out
    have Y14 : Hid (Y1.heap[G + 4]? = some (.cells #[.slice none 0 0, .int .i64 0] 33 (0, 0))) := by unfold Hid; rw [hY1.out, setRow_other _ _ _ _ (by omega)]; exact X4.out
    have SY1 : Y1.rangeAt G 0 [.slice A n c] ∧ Y1.rangeAt (G + 1) 0 [.slice V' vn' vc', .int .i64 0] := by rw [hY1.out]; exact ⟨range_row _ SX.1 (by omega), range_row _ SX.2 (by omega)⟩
    refine hK.out _ _ SY1 ?_
    intro hS
    clear hK K hS
    try simp only [Act.put, List.getElem_toArray, List.getElem_cons_zero, List.getElem_cons_succ, List.setIfInBounds_toArray, List.set_cons_zero, List.set_cons_succ]
    refine wpAnyH_ready (rs := [4]) (by kernel_rfl) (by simp) ?_
    refine AllReadyH.cons rfl (fun K hK => ?_) AllReadyH.nil
    refine step_store_row 33 (.tmp 7) (.tmp 22) rfl rfl (G + 4) #[.slice V' vn' vc', .int .i64 0] rfl (by first | rfl | kernel_rfl) _ _ Y14.out (by kernel_rfl) rfl (by kernel_rfl) ?_
    obtain ⟨Y2, hY2⟩ : ∃ W0, Hid (W0 = Y1.setRow (G + 4) #[.slice V' vn' vc', .int .i64 0]) := ⟨_, Lib.hid rfl⟩
    rw [← hY2.out]
    have FY2 : Hid (Fr [G + 4] Y1 Y2 [G + 4]) := by rw [hY2.out]; exact setRow_fr _ _ _
    have Y24 : Hid (Y2.heap[G + 4]? = some (.cells #[.slice V' vn' vc', .int .i64 0] 33 (0, 0))) := by unfold Hid; rw [hY2.out]; exact setRow_heap _ _ _ _ _ _ Y14.out
    have Y23 : Hid (Y2.heap[G + 3]? = some (.cells #[.slice A n c] 30 (0, 0))) := by unfold Hid; rw [hY2.out, setRow_other _ _ _ _ (by omega)]; exact Y13.out
    have SY2 : Y2.rangeAt G 0 [.slice A n c] ∧ Y2.rangeAt (G + 1) 0 [.slice V' vn' vc', .int .i64 0] := by rw [hY2.out]; exact ⟨range_row _ SY1.1 (by omega), range_row _ SY1.2 (by omega)⟩
    refine hK.out _ _ SY2 ?_
    intro hS
    clear hK K hS
    try simp only [Act.put, List.getElem_toArray, List.getElem_cons_zero, List.getElem_cons_succ, List.setIfInBounds_toArray, List.set_cons_zero, List.set_cons_succ]
    have hS : Y2.rangeAt G 0 [.slice A n c] ∧ Y2.rangeAt (G + 1) 0 [.slice V' vn' vc', .int .i64 0] := SY2
    refine wpAnyH_take (i := 5) (v := ?vyb5) rfl (by kernel_rfl) (by kernel_rfl) (by kernel_rfl) (fun _ _ _ h => h) (Or.inl ⟨by rfl, ?hyyb5⟩) hS ?restyb5
    case hyyb5 => (intro w' hSw; go_simp; first | done | with_reducible rfl)
    try simp only [Act.put, List.getElem_toArray, List.getElem_cons_zero, List.getElem_cons_succ, List.setIfInBounds_toArray, List.set_cons_zero, List.set_cons_succ]
    refine wpAnyH_done (by kernel_rfl) (NoPanic.normal ?_) _
    go_wp2_with fail
    refine bodyPost_ret (v := .tuple #[.agg #[.slice A n c], .agg #[.slice V' vn' vc', .int .i64 0], .int .i64 (checkE S hs l)]) ?_ rfl ?_
    · rw [hEf.out]
      exact results_ccv Try.results55 rfl rfl (run_loadVar_mid (P := Try.prog) Y2 (G + 3) 0 30 _ _ (range_of Y23.out) Try.underlying30 rfl (by kernel_rfl)) (run_loadVar_mid (P := Try.prog) Y2 (G + 4) 0 33 _ _ (range_of Y24.out) Try.underlying33 rfl (by kernel_rfl))
    · refine ⟨_, _, _, _, _, _, rfl, ?_, VCF.out, ?_, ?_⟩
      · rw [hT.out.2]; exact (KN.out.fr (no' := ((G + 1) :: (G + 3) :: (G + 4) :: no)) FY1.out (fun k hk => by simp at hk; simp [hk]) (fun k hk => Or.inl hk)).fr FY2.out (fun k hk => by simp at hk; simp [hk]) (fun k hk => Or.inl (by simp [hk]))
      · rw [hT.out.1]; exact (VN.out.fr (no' := ((G + 1) :: (G + 3) :: (G + 4) :: no)) FY1.out (fun k hk => by simp at hk; simp [hk]) (fun k hk => Or.inl hk)).fr FY2.out (fun k hk => by simp at hk; simp [hk]) (fun k hk => Or.inl (by simp [hk]))
      · rw [hY2.out]; refine below_setRow ?_ (by have := hG.out; omega) _; rw [hY1.out]; exact below_setRow BwC.out (by have := hG.out; omega) _
end Go.Proofs.Ytabcbpcfleociaa
