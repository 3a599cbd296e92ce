/- The document's book: Check. (Printed by gen_rbc.py.) -/
import Derived.Test.YtabcbpcfleociaaMRba
namespace Go.Proofs.Ytabcbpcfleociaa
open Go.RowKit
attribute [local go_sem ↓] Go.wp_at_zero Go.wp_at_succ
set_option linter.unusedSimpArgs false
set_option linter.unusedVariables false
theorem RdN.below {no : List Nat} {w w' : World} {size n : Nat} {A : Option Addr} {xs : List Value} (h : RdN no w size A n xs) (hb : Below w.heap.size w w') : RdN no w' size A n xs :=
  h.fr (own := []) (own' := []) (Fr.below hb) (fun _ h => absurd h (by simp)) (fun _ h => Or.inl h)
theorem RkX.below {no : List Nat} {w w' : World} {q : Rk} {x : Int × Kn} (H : RkX no w q x) (hb : Below w.heap.size w w') : RkX no w' q x :=
  H.fr (own := []) (own' := []) (Fr.below hb) (fun _ h => absurd h (by simp)) (fun _ h => Or.inl h)
theorem setRow_fr (w : World) (g : Nat) (cs : Array Value) : Fr [g] w (w.setRow g cs) [g] :=
  ⟨rfl, rfl, rfl, by rw [setRow_size]; exact Nat.le_refl _, fun k _ hn => setRow_other _ _ _ _ (by simpa using hn), fun k hk => Or.inl hk⟩
theorem own_rdN {w : World} {base n c size : Nat} {A : Option Addr} {xs : List Value} {e : TypeId} (h : w.ownsRow base e size (.slice A n c) n xs) {no : List Nat} (hno : ∀ k, k ∈ no → k < base) : RdN no w size A n xs := by
  refine ⟨Rd.of_own h, fun b o h0 e1 hm => ?_⟩
  obtain ⟨g, e2, h3, _⟩ := own_addr h h0
  rw [e1] at e2; injection e2 with e2; injection e2 with e3
  have := hno b hm
  omega
set_option maxRecDepth 20000 in
set_option maxHeartbeats 8000000 in
theorem refCheck_ (A : Option Addr) (n c : Nat) (V : Option Addr) (vn vc : Nat) (l : Ln) (pA : Option Addr) (pn pc : Nat) (bA : Option Addr) (bn bc : Nat) (S : Bk) (hs : List (List UInt8)) (no : List Nat) (w : World)
    (hk : RkN no w A n S) (hv : VtN no w V vn hs) (hp : RdN no w 1 pA pn (l.pv.map B8)) (hb : RdN no w 1 bA bn (l.bd.map B8)) (hn : n ≤ 100000) (hvn : vn ≤ 1000000) (hvc : vn ≤ vc) (hno : ∀ k, k ∈ no → k < w.heap.size) :
    Calls Try.prog 54 #[.agg #[.slice A n c], .agg #[.slice V vn vc, .int .i64 0], lnV l pA pn pc bA bn bc] w fun e w' => ∃ V' vn' vc', e = .returned (.tuple #[.agg #[.slice V' vn' vc', .int .i64 0], .int .i64 (checkE S hs l)]) ∧ vn' ≤ vc' ∧ VtN no w' V' vn' (checkH S hs l) ∧ Below w.heap.size w w' := by
  have hA : Hid (l.pv.length = pn) := by unfold Hid; simpa using hp.1.len
  have hBm : Hid (l.bd.length = bn) := by unfold Hid; simpa using hb.1.len
  obtain ⟨W, hW⟩ : ∃ W, Hid (W = (((w.alloc (.cells #[.slice A n c] 30)).alloc (.cells #[.slice V vn vc, .int .i64 0] 33)).alloc (.cells #[.int .i64 l.au, .int .i64 l.sq, .int .i64 l.ep, .slice pA pn pc, .slice bA bn bc] 40)).alloc (.cells #[.slice none 0 0, .int .i64 0] 33)) := ⟨_, Lib.hid rfl⟩
  have hs1 : (w.alloc (.cells #[.slice A n c] 30)).heap.size = w.heap.size + 1 := szAlloc _ _
  have hs2 : ((w.alloc (.cells #[.slice A n c] 30)).alloc (.cells #[.slice V vn vc, .int .i64 0] 33)).heap.size = w.heap.size + 2 := by rw [szAlloc, hs1]
  have hs3 : (((w.alloc (.cells #[.slice A n c] 30)).alloc (.cells #[.slice V vn vc, .int .i64 0] 33)).alloc (.cells #[.int .i64 l.au, .int .i64 l.sq, .int .i64 l.ep, .slice pA pn pc, .slice bA bn bc] 40)).heap.size = w.heap.size + 3 := by rw [szAlloc, hs2]
  obtain ⟨G, hG⟩ : ∃ g, Hid (g = w.heap.size) := ⟨_, Lib.hid rfl⟩
  have hWs : Hid (W.heap.size = G + 4) := by unfold Hid; rw [hW.out, szAlloc, hs3, hG.out]
  have BW : Hid (Below w.heap.size w W) := by rw [hW.out]; exact ((((Below.refl _ _).alloc (Nat.le_refl _) _).alloc (by rw [hs1]; omega) _).alloc (by rw [hs2]; omega) _).alloc (by rw [hs3]; omega) _
  have R0 : Hid (W.rangeAt G 0 [.slice A n c]) := by rw [hW.out, hG.out]; exact fun j v hj => (World.cell?_alloc_lt _ _ _ (by rw [hs3]; show w.heap.size < _; omega)).trans ((World.cell?_alloc_lt _ _ _ (by rw [hs2]; show w.heap.size < _; omega)).trans ((World.cell?_alloc_lt _ _ _ (by rw [hs1]; exact Nat.lt_succ_self _)).trans (rangeNew w _ _ j v hj)))
  have R1 : Hid (W.rangeAt (G + 1) 0 [.slice V vn vc, .int .i64 0]) := by rw [hW.out, hG.out, ← hs1]; exact fun j v hj => (World.cell?_alloc_lt _ _ _ (by rw [hs3, hs1]; show w.heap.size + 1 < _; omega)).trans ((World.cell?_alloc_lt _ _ _ (by rw [hs2, hs1]; exact Nat.lt_succ_self _)).trans (rangeNew _ _ _ j v hj))
  have R2 : Hid (W.rangeAt (G + 2) 0 [.int .i64 l.au, .int .i64 l.sq, .int .i64 l.ep, .slice pA pn pc, .slice bA bn bc]) := by rw [hW.out, hG.out, ← hs2]; exact fun j v hj => (World.cell?_alloc_lt _ _ _ (by rw [hs3, hs2]; exact Nat.lt_succ_self _)).trans (rangeNew _ _ _ j v hj)
  have R3 : Hid (W.heap[G + 3]? = some (.cells #[.slice none 0 0, .int .i64 0] 33 (0, 0))) := by unfold Hid; rw [hW.out, hG.out, ← hs3]; exact heap_alloc_new _ _
  have up : ∀ k, k ∈ (G + 3) :: no → k ∈ no ∨ w.heap.size ≤ k := fun k hk => by rcases List.mem_cons.1 hk with h | h; exact Or.inr (by rw [h, hG.out]; omega); exact Or.inl h
  have HK := Lib.hid (hk.fr (own := []) (own' := []) (Fr.below BW.out) (fun _ h => absurd h (by simp)) up)
  have HV := Lib.hid (hv.fr (own := []) (own' := []) (Fr.below BW.out) (fun _ h => absurd h (by simp)) up)
  have HP := Lib.hid (hp.fr (own := []) (own' := []) (Fr.below BW.out) (fun _ h => absurd h (by simp)) up)
  have HB := Lib.hid (hb.fr (own := []) (own' := []) (Fr.below BW.out) (fun _ h => absurd h (by simp)) up)
  have HNO : Hid (∀ k, k ∈ (G + 3) :: no → k < W.heap.size) := fun k hk => by
    rcases List.mem_cons.1 hk with h | h
    · have := hWs.out; omega
    · exact Nat.lt_of_lt_of_le (hno k h) BW.out.size
  have hlen : Hid (S.length = n) := hk.len
  have f0 := R2.out 0 _ rfl
  have f1 := R2.out 1 _ rfl
  have f2 := R2.out 2 _ rfl
  have f3 := R2.out 3 _ rfl
  have f4 := R2.out 4 _ rfl
  rw [hW.out, hG.out] at f0 f1 f2 f3 f4
  clear hk hv hp hb hno hs1 hs2 hs3 up
  go_enter Try.func54, Try.ntmps54
  unfold lnV
  go_wp2_with fail
  rw [← hW.out, ← hG.out]
  clear f0 f1 f2 f3 f4
  refine (refRight_ l.au l.sq l.ep pA pn pc bA bn bc W).mono ?_
  rintro e z ⟨he, bz⟩
  have BZ := Lib.hid bz
  clear bz
  by_cases hr : rightL l
  · have hrN : decide (rightN l.au l.sq l.ep pn bn) = true := by rw [decide_eq_true_iff, ← hA.out, ← hBm.out]; exact (rightL_N l).1 hr
    rw [hrN] at he
    subst he
    have Hr := Lib.hid hr
    clear hr hrN
    have r0 := range_keep R0.out BZ.out (by have := hWs.out; omega)
    have r1 := range_keep R1.out BZ.out (by have := hWs.out; omega)
    have r2 := range_keep R2.out BZ.out (by have := hWs.out; omega)
    have a0 := r0 0 _ rfl
    have v0 := r1 0 _ rfl
    have v1 := r1 1 _ rfl
    have l0 := r2 0 _ rfl
    have l1 := r2 1 _ rfl
    have l2 := r2 2 _ rfl
    have l3 := r2 3 _ rfl
    have l4 := r2 4 _ rfl
    have hh : z.heap[G + 3]? = some (.cells #[.slice none 0 0, .int .i64 0] 33 (0, 0)) := (BZ.out.block (G + 3) (by have := hWs.out; omega)).trans R3.out
    go_wp2_with fail
    clear a0 v0 v1 l0 l1 l2 l3 l4 hh
    refine (refOf_ A n c S l.au ((G + 3) :: no) z (HK.out.below BZ.out) (by omega) (fun k hk => Nat.lt_of_lt_of_le (HNO.out k hk) BZ.out.size)).mono ?_
    rintro e u ⟨A', n', c', rfl, hc', hr', b⟩
    have BU := Lib.hid (BZ.out.trans (b.mono BZ.out.size))
    have HO := Lib.hid hr'
    have hl : Hid ((ofA S l.au).length = n') := by unfold Hid; rw [← selA_len]; exact hr'.len
    have hnb : n' ≤ 100000 := by have h1 := selA_le S l.au; rw [hr'.len] at h1; have h2 := hlen.out; omega
    have hsq : Hid (1 ≤ l.sq ∧ l.sq ≤ 1048576) := ⟨Hr.out.1.2.2.1, Hr.out.1.2.2.2.1⟩
    clear b hr' hc' r0 r1 r2
    have r0 := range_keep R0.out BU.out (by have := hWs.out; omega)
    have r1 := range_keep R1.out BU.out (by have := hWs.out; omega)
    have r2 := range_keep R2.out BU.out (by have := hWs.out; omega)
    have a0 := r0 0 _ rfl
    have v0 := r1 0 _ rfl
    have v1 := r1 1 _ rfl
    have l0 := r2 0 _ rfl
    have l1 := r2 1 _ rfl
    have l2 := r2 2 _ rfl
    have l3 := r2 3 _ rfl
    have l4 := r2 4 _ rfl
    have hh : u.heap[G + 3]? = some (.cells #[.slice none 0 0, .int .i64 0] 33 (0, 0)) := (BU.out.block (G + 3) (by have := hWs.out; omega)).trans R3.out
    by_cases hle : l.sq ≤ (n' : Int)
    · obtain ⟨i, hi⟩ : ∃ i, Hid ((l.sq - 1).toNat = i) := ⟨_, Lib.hid rfl⟩
      have hi2 : i < n' := by have := hi.out; have := hsq.out; omega
      have hi0 : (0 : Int) ≤ (i : Int) := by omega
      have hi1 : (i : Int) < (n' : Int) := by omega
      have hidx : IntKind.i64.wrap (l.sq - 1) = (i : Int) := by rw [IntWalk.i64_in _ (by have := hsq.out; omega)]; have := hi.out; have := hsq.out; omega
      obtain ⟨k, hk⟩ : ∃ k, (ofA S l.au)[i]? = some k := ⟨_, List.getElem?_eq_getElem (by rw [hl.out]; exact hi2)⟩
      have hEk : Hid (checkE S hs l = if k.dg = digL hs l then 16 else 18) := checkE_old Hr.out (by rw [hl.out]; exact hle) (by rw [hi.out]; exact hk)
      have hHk : Hid (checkH S hs l = note hs (bytesL l)) := checkH_old Hr.out (by rw [hl.out]; exact hle)
      obtain ⟨x, hx, hxk⟩ := sel_get hk
      obtain ⟨rb, ro, y, rfl, hrb, hrn, hrg, hrx⟩ := HO.out.at_ hx
      have HRG := Lib.hid hrg
      have HRX := Lib.hid hrx
      have HRB := Lib.hid hrb
      have HXK := Lib.hid hxk
      obtain ⟨bb, hbb⟩ : ∃ b, Hid (decide (digL hs l = k.dg) = b) := ⟨_, Lib.hid rfl⟩
      clear hk hx hxk hrg hrx hrb
      go_wp2_with fail
      clear a0 v0 v1 l0 l1 l2 l3 l4 hh
      obtain ⟨X, hX⟩ : ∃ W, Hid (W = u.drew) := ⟨_, Lib.hid rfl⟩
      have dX : Below u.heap.size u X := by rw [hX.out]; exact below_drew (Below.refl _ _)
      have BX := Lib.hid (BU.out.trans (dX.mono BU.out.size))
      have SX : X.rangeAt (G + 1) 0 [.slice V vn vc, .int .i64 0] ∧ X.rangeAt (G + 2) 0 [.int .i64 l.au, .int .i64 l.sq, .int .i64 l.ep, .slice pA pn pc, .slice bA bn bc] := ⟨range_keep R1.out BX.out (by have := hWs.out; omega), range_keep R2.out BX.out (by have := hWs.out; omega)⟩
      have PX : Hid (Below X.heap.size X X) := Below.refl _ _
      refine wp_region_noPanic ?_
      refine wp_region_held_drew (S := fun w' => w'.rangeAt (G + 1) 0 [.slice V vn vc, .int .i64 0] ∧ w'.rangeAt (G + 2) 0 [.int .i64 l.au, .int .i64 l.sq, .int .i64 l.ep, .slice pA pn pc, .slice bA bn bc]) (by kernel_rfl) (by rw [← hX.out]; exact SX) (fun hS => ?_)
      rw [← hX.out]
      clear hS
      have hS : X.rangeAt (G + 1) 0 [.slice V vn vc, .int .i64 0] ∧ X.rangeAt (G + 2) 0 [.int .i64 l.au, .int .i64 l.sq, .int .i64 l.ep, .slice pA pn pc, .slice bA bn bc] := SX
      refine wpAnyH_take (i := 0) (v := .agg #[.slice V vn vc, .int .i64 0]) rfl (by kernel_rfl) (by kernel_rfl) (by kernel_rfl) (fun _ _ _ h => h) (Or.inl ⟨by rfl, ?hya0⟩) hS ?resta0
      case hya0 => (intro w' hSw; have c0 := hSw.1 0 _ rfl; have c1 := hSw.1 1 _ rfl; go_simp; first | done | with_reducible rfl)
      try simp only [Act.put, List.getElem_toArray, List.getElem_cons_zero, List.getElem_cons_succ, List.setIfInBounds_toArray, List.set_cons_zero, List.set_cons_succ]
      refine wpAnyH_take (i := 1) (v := .agg #[.int .i64 l.au, .int .i64 l.sq, .int .i64 l.ep, .slice pA pn pc, .slice bA bn bc]) rfl (by kernel_rfl) (by kernel_rfl) (by kernel_rfl) (fun _ _ _ h => h) (Or.inl ⟨by rfl, ?hya1⟩) hS ?resta1
      case hya1 => (intro w' hSw; have c0 := hSw.2 0 _ rfl; have c1 := hSw.2 1 _ rfl; have c2 := hSw.2 2 _ rfl; have c3 := hSw.2 3 _ rfl; have c4 := hSw.2 4 _ rfl; go_simp; first | done | with_reducible rfl)
      try simp only [Act.put, List.getElem_toArray, List.getElem_cons_zero, List.getElem_cons_succ, List.setIfInBounds_toArray, List.set_cons_zero, List.set_cons_succ]
      have buX : Below X.heap.size X X := Below.refl _ _
      have huX : Hid (u.heap.size ≤ X.heap.size) := dX.size
      refine wpAnyH_ready (rs := [2, 7]) (by kernel_rfl) (by simp) ?_
      refine AllReadyH.cons rfl (fun K hK => ?_) (AllReadyH.cons rfl (fun K hK => ?_) AllReadyH.nil)
      · go_simp
        refine (refBytes_ l pA pn pc bA bn bc X (HP.out.below BX.out).1 (HB.out.below BX.out).1 Hr.out).mono ?_
        rintro e U ⟨A7, m7, c7, rfl, hm7, hl7, o7, b⟩
        have BU := Lib.hid (BX.out.trans (b.mono BX.out.size))
        have P7 : Hid (RdN ((G + 3) :: no) U 1 A7 m7 ((bytesL l).map B8)) := own_rdN o7 (fun k hk => by exact Nat.lt_of_lt_of_le (HNO.out k hk) BX.out.size)
        have gU := b
        clear b o7 hl7
        go_wp2_with fail
        have SU : U.rangeAt (G + 1) 0 [.slice V vn vc, .int .i64 0] ∧ U.rangeAt (G + 2) 0 [.int .i64 l.au, .int .i64 l.sq, .int .i64 l.ep, .slice pA pn pc, .slice bA bn bc] := ⟨range_keep R1.out BU.out (by have := hWs.out; omega), range_keep R2.out BU.out (by have := hWs.out; omega)⟩
        refine hK.out _ _ SU ?_
        intro hS
        clear hK K hS
        try simp only [Act.put, List.getElem_toArray, List.getElem_cons_zero, List.getElem_cons_succ, List.setIfInBounds_toArray, List.set_cons_zero, List.set_cons_succ]
        have buU := buX.trans (gU.mono buX.size)
        refine wpAnyH_ready (rs := [3, 7]) (by kernel_rfl) (by simp) ?_
        refine AllReadyH.cons rfl (fun K hK => ?_) (AllReadyH.cons rfl (fun K hK => ?_) AllReadyH.nil)
        · go_simp
          refine (refHashN_ V vn vc 0 A7 m7 c7 hs (bytesL l) ((G + 3) :: no) U (HV.out.fr (own := []) (own' := []) (Fr.below BU.out) (fun _ h => absurd h (by simp)) (fun k hk => Or.inl hk)) P7.out hvn hvc (fun k hk => by exact Nat.lt_of_lt_of_le (HNO.out k hk) BU.out.size)).mono ?_
          rintro e V1 ⟨V', vn', vc', D, dc, rfl, hvc', hv8, o8, b⟩
          have BV1 := Lib.hid (BU.out.trans (b.mono BU.out.size))
          have V8 : Hid (VtN ((G + 3) :: no) V1 V' vn' (note hs (bytesL l))) := hv8
          have D8 : Hid (RdN ((G + 3) :: no) V1 1 D 32 ((digL hs l).map B8)) := o8.rdNo (fun k hk => by exact Nat.lt_of_lt_of_le (HNO.out k hk) BU.out.size)
          have gV1 := b
          clear b o8 hv8
          go_wp2_with fail
          have SV1 : V1.rangeAt (G + 1) 0 [.slice V vn vc, .int .i64 0] ∧ V1.rangeAt (G + 2) 0 [.int .i64 l.au, .int .i64 l.sq, .int .i64 l.ep, .slice pA pn pc, .slice bA bn bc] := ⟨range_keep R1.out BV1.out (by have := hWs.out; omega), range_keep R2.out BV1.out (by have := hWs.out; omega)⟩
          refine hK.out _ _ SV1 ?_
          intro hS
          clear hK K hS
          try simp only [Act.put, List.getElem_toArray, List.getElem_cons_zero, List.getElem_cons_succ, List.setIfInBounds_toArray, List.set_cons_zero, List.set_cons_succ]
          have buV1 := buU.trans (gV1.mono buU.size)
          have hS : V1.rangeAt (G + 1) 0 [.slice V vn vc, .int .i64 0] ∧ V1.rangeAt (G + 2) 0 [.int .i64 l.au, .int .i64 l.sq, .int .i64 l.ep, .slice pA pn pc, .slice bA bn bc] := SV1
          refine wpAnyH_take (i := 4) (v := ?vf4) rfl (by kernel_rfl) (by kernel_rfl) (by kernel_rfl) (fun _ _ _ h => h) (Or.inl ⟨by rfl, ?hyf4⟩) hS ?restf4
          case hyf4 => (intro w' hSw; go_simp; first | done | with_reducible rfl)
          try simp only [Act.put, List.getElem_toArray, List.getElem_cons_zero, List.getElem_cons_succ, List.setIfInBounds_toArray, List.set_cons_zero, List.set_cons_succ]
          refine wpAnyH_take (i := 5) (v := .agg #[.slice V' vn' vc', .int .i64 0]) rfl (by kernel_rfl) (by kernel_rfl) (by kernel_rfl) (fun _ _ _ h => h) (Or.inl ⟨by rfl, ?hyf5⟩) hS ?restf5
          case hyf5 => (intro w' hSw; go_simp; first | done | with_reducible rfl)
          try simp only [Act.put, List.getElem_toArray, List.getElem_cons_zero, List.getElem_cons_succ, List.setIfInBounds_toArray, List.set_cons_zero, List.set_cons_succ]
          refine wpAnyH_take (i := 6) (v := .slice D 32 dc) rfl (by kernel_rfl) (by kernel_rfl) (by kernel_rfl) (fun _ _ _ h => h) (Or.inl ⟨by rfl, ?hyf6⟩) hS ?restf6
          case hyf6 => (intro w' hSw; go_simp; first | done | with_reducible rfl)
          try simp only [Act.put, List.getElem_toArray, List.getElem_cons_zero, List.getElem_cons_succ, List.setIfInBounds_toArray, List.set_cons_zero, List.set_cons_succ]
          refine wpAnyH_ready (rs := [7]) (by kernel_rfl) (by simp) ?_
          refine AllReadyH.cons rfl (fun K hK => ?_) AllReadyH.nil
          go_simp
          obtain ⟨V2, hV2⟩ : ∃ W0, Hid (W0 = V1.alloc (.cells #[.slice none 0 0, .int .i64 0] 33)) := ⟨_, Lib.hid rfl⟩
          obtain ⟨q0, hq0⟩ : ∃ q, Hid (q = V1.heap.size) := ⟨_, Lib.hid rfl⟩
          have gV2 : Below V1.heap.size V1 V2 := by rw [hV2.out]; exact (Below.refl _ _).alloc (Nat.le_refl _) _
          have BV2 := Lib.hid (BV1.out.trans (gV2.mono BV1.out.size))
          have Q0 : Hid (V2.heap[q0]? = some (.cells #[.slice none 0 0, .int .i64 0] 33 (0, 0))) := by unfold Hid; rw [hV2.out, hq0.out]; exact heap_alloc_new _ _
          have hqG : Hid (G + 4 ≤ q0) := by unfold Hid; rw [hq0.out, ← hWs.out]; exact BV1.out.size
          have hqlV2 : Hid (q0 < V2.heap.size) := lt_of_blk Q0.out
          rw [← hV2.out, ← hq0.out]
          have SV2 : V2.rangeAt (G + 1) 0 [.slice V vn vc, .int .i64 0] ∧ V2.rangeAt (G + 2) 0 [.int .i64 l.au, .int .i64 l.sq, .int .i64 l.ep, .slice pA pn pc, .slice bA bn bc] := ⟨range_keep R1.out BV2.out (by have := hWs.out; omega), range_keep R2.out BV2.out (by have := hWs.out; omega)⟩
          refine hK.out _ _ SV2 ?_
          intro hS
          clear hK K hS
          try simp only [Act.put, List.getElem_toArray, List.getElem_cons_zero, List.getElem_cons_succ, List.setIfInBounds_toArray, List.set_cons_zero, List.set_cons_succ]
          have hqu : Hid (u.heap.size ≤ q0) := by unfold Hid; rw [hq0.out]; exact Nat.le_trans huX.out buV1.size
          have buV2 := buV1.trans (gV2.mono buV1.size)
          replace V8 : Hid (VtN (q0 :: (G + 3) :: no) V2 V' vn' (note hs (bytesL l))) := V8.out.fr (own := []) (own' := []) (Fr.below gV2) (fun _ h => absurd h (by simp)) (fun k hk => by rcases List.mem_cons.1 hk with h | h; exact Or.inr (by rw [h, hq0.out]; exact Nat.le_refl _); exact Or.inl h)
          replace D8 : Hid (RdN (q0 :: (G + 3) :: no) V2 1 D 32 ((digL hs l).map B8)) := D8.out.fr (own := []) (own' := []) (Fr.below gV2) (fun _ h => absurd h (by simp)) (fun k hk => by rcases List.mem_cons.1 hk with h | h; exact Or.inr (by rw [h, hq0.out]; exact Nat.le_refl _); exact Or.inl h)
          have hS : V2.rangeAt (G + 1) 0 [.slice V vn vc, .int .i64 0] ∧ V2.rangeAt (G + 2) 0 [.int .i64 l.au, .int .i64 l.sq, .int .i64 l.ep, .slice pA pn pc, .slice bA bn bc] := SV2
          refine wpAnyH_ready (rs := [8]) (by kernel_rfl) (by simp) ?_
          refine AllReadyH.cons rfl (fun K hK => ?_) AllReadyH.nil
          refine step_store_row 33 (.tmp 9) (.tmp 30) rfl rfl q0 #[.slice V' vn' vc', .int .i64 0] rfl rfl _ _ Q0.out (by kernel_rfl) rfl (by kernel_rfl) ?_
          obtain ⟨Y, hY⟩ : ∃ W0, Hid (W0 = V2.setRow q0 #[.slice V' vn' vc', .int .i64 0]) := ⟨_, Lib.hid rfl⟩
          have FY : Fr [q0] V2 Y [q0] := by rw [hY.out]; exact setRow_fr _ _ _
          have QY : Hid (Y.heap[q0]? = some (.cells #[.slice V' vn' vc', .int .i64 0] 33 (0, 0))) := by unfold Hid; rw [hY.out]; exact setRow_heap _ _ _ _ _ _ Q0.out
          rw [← hY.out]
          have VY : Hid (VtN ((G + 3) :: no) Y V' vn' (note hs (bytesL l))) := V8.out.fr FY (fun k hk => by simp at hk; simp [hk]) (fun k hk => Or.inl (List.mem_cons_of_mem _ hk))
          have DY : Hid (RdN ((G + 3) :: no) Y 1 D 32 ((digL hs l).map B8)) := D8.out.fr FY (fun k hk => by simp at hk; simp [hk]) (fun k hk => Or.inl (List.mem_cons_of_mem _ hk))
          have BY : Hid (Below W.heap.size W Y) := by unfold Hid; rw [hY.out]; exact below_setRow BV2.out (by have := hqG.out; have := hWs.out; omega) _
          have SY : Y.rangeAt (G + 1) 0 [.slice V vn vc, .int .i64 0] ∧ Y.rangeAt (G + 2) 0 [.int .i64 l.au, .int .i64 l.sq, .int .i64 l.ep, .slice pA pn pc, .slice bA bn bc] := ⟨range_keep R1.out BY.out (by have := hWs.out; omega), range_keep R2.out BY.out (by have := hWs.out; omega)⟩
          have XY : Hid (RkX ((G + 3) :: no) Y y x) := by
            have hb2 : Below u.heap.size u Y := by rw [hY.out]; exact below_setRow (dX.trans (buV2.mono dX.size)) (by have h1 := hqu.out; omega) _
            exact HRX.out.below hb2
          have RY : Hid (Y.rangeAt rb (ro + i * 4) (rkC y)) := by
            have hb2 : Below u.heap.size u Y := by rw [hY.out]; exact below_setRow (dX.trans (buV2.mono dX.size)) (by have h1 := hqu.out; omega) _
            exact fun j v hj => (World.cell?_of_block (a := ⟨rb, ro + i * 4 + j, none⟩) (hb2.block rb HRB.out)).trans (HRG.out j v hj)
          refine hK.out _ _ SY ?_
          intro hS
          clear hK K hS
          try simp only [Act.put, List.getElem_toArray, List.getElem_cons_zero, List.getElem_cons_succ, List.setIfInBounds_toArray, List.set_cons_zero, List.set_cons_succ]
          have hS : Y.rangeAt (G + 1) 0 [.slice V vn vc, .int .i64 0] ∧ Y.rangeAt (G + 2) 0 [.int .i64 l.au, .int .i64 l.sq, .int .i64 l.ep, .slice pA pn pc, .slice bA bn bc] := SY
          refine wpAnyH_take (i := 9) (v := ?vg9) rfl (by kernel_rfl) (by kernel_rfl) (by kernel_rfl) (fun _ _ _ h => h) (Or.inl ⟨by rfl, ?hyg9⟩) hS ?restg9
          case hyg9 => (intro w' hSw; go_simp; first | done | with_reducible rfl)
          try simp only [Act.put, List.getElem_toArray, List.getElem_cons_zero, List.getElem_cons_succ, List.setIfInBounds_toArray, List.set_cons_zero, List.set_cons_succ]
          refine wpAnyH_done (by kernel_rfl) (NoPanic.normal ?_) _
          go_wp2_with fail
          obtain ⟨Z, hZ⟩ : ∃ W, Hid (W = Y.drew) := ⟨_, Lib.hid rfl⟩
          have dZ : Below Y.heap.size Y Z := by rw [hZ.out]; exact below_drew (Below.refl _ _)
          have BZz := Lib.hid (BY.out.trans (dZ.mono BY.out.size))
          have z2 := range_keep R2.out BZz.out (by have := hWs.out; omega)
          have l1 := z2 1 _ rfl
          have hbY : Hid (rb < Y.heap.size) := World.block_lt_of_cell? _ _ (RY.out 0 _ rfl)
          have e1 : Z.cell? ⟨rb, ro + i * 4 + 1, none⟩ = some (.slice y.dA y.dn y.dc) := (World.cell?_of_block (a := ⟨rb, ro + i * 4 + 1, none⟩) (dZ.block rb hbY.out)).trans (RY.out 1 _ rfl)
          have cv1 := conv8 Z D 32 dc _ (DY.out.1.to dZ)
          have cv2 := conv8 Z y.dA y.dn y.dc _ (XY.out.dg.1.to dZ)
          rw [HXK.out] at cv2
          have QZ : Hid (Z.heap[q0]? = some (.cells #[.slice V' vn' vc', .int .i64 0] 33 (0, 0))) := (dZ.block q0 (lt_of_blk QY.out)).trans QY.out
          have VZ := Lib.hid (VY.out.below dZ)
          refine wp_region_noPanic ?_
          refine wp_region_held_drew (S := fun w' => w' = Z) (by kernel_rfl) hZ.out.symm (fun hS => ?_)
          rw [← hZ.out]
          clear hS
          have hS : Z = Z := rfl
          refine wpAnyH_take (i := 0) (v := ?vh0) rfl (by kernel_rfl) (by kernel_rfl) (by kernel_rfl) (fun _ _ _ h => h) (Or.inl ⟨by rfl, ?hyh0⟩) hS ?resth0
          case hyh0 => ((intro w' hSw; subst hSw; go_simp; first | done | with_reducible rfl))
          try simp only [Act.put, List.getElem_toArray, List.getElem_cons_zero, List.getElem_cons_succ, List.setIfInBounds_toArray, List.set_cons_zero, List.set_cons_succ]
          refine wpAnyH_take (i := 1) (v := .string (str (digL hs l))) rfl (by kernel_rfl) (by kernel_rfl) (by kernel_rfl) (fun _ _ _ h => h) (Or.inl ⟨by rfl, ?hyh1⟩) hS ?resth1
          case hyh1 => ((intro w' hSw; subst hSw; go_simp; first | done | with_reducible rfl))
          try simp only [Act.put, List.getElem_toArray, List.getElem_cons_zero, List.getElem_cons_succ, List.setIfInBounds_toArray, List.set_cons_zero, List.set_cons_succ]
          refine wpAnyH_take (i := 2) (v := ?vh2) rfl (by kernel_rfl) (by kernel_rfl) (by kernel_rfl) (fun _ _ _ h => h) (Or.inl ⟨by rfl, ?hyh2⟩) hS ?resth2
          case hyh2 => ((intro w' hSw; subst hSw; go_simp; first | done | with_reducible rfl))
          try simp only [Act.put, List.getElem_toArray, List.getElem_cons_zero, List.getElem_cons_succ, List.setIfInBounds_toArray, List.set_cons_zero, List.set_cons_succ]
          refine wpAnyH_take (i := 3) (v := ?vh3) rfl (by kernel_rfl) (by kernel_rfl) (by kernel_rfl) (fun _ _ _ h => h) (Or.inl ⟨by rfl, ?hyh3⟩) hS ?resth3
          case hyh3 => ((intro w' hSw; subst hSw; go_simp; first | done | with_reducible rfl))
          try simp only [Act.put, List.getElem_toArray, List.getElem_cons_zero, List.getElem_cons_succ, List.setIfInBounds_toArray, List.set_cons_zero, List.set_cons_succ]
          refine wpAnyH_take (i := 4) (v := .int .i64 l.sq) rfl (by kernel_rfl) (by kernel_rfl) (by kernel_rfl) (fun _ _ _ h => h) (Or.inl ⟨by rfl, ?hyh4⟩) hS ?resth4
          case hyh4 => ((intro w' hSw; subst hSw; go_simp; first | done | with_reducible rfl))
          try simp only [Act.put, List.getElem_toArray, List.getElem_cons_zero, List.getElem_cons_succ, List.setIfInBounds_toArray, List.set_cons_zero, List.set_cons_succ]
          refine wpAnyH_take (i := 5) (v := .int .i64 (i : Int)) rfl (by kernel_rfl) (by kernel_rfl) (by kernel_rfl) (fun _ _ _ h => h) (Or.inl ⟨by rfl, ?hyh5⟩) hS ?resth5
          case hyh5 => ((intro w' hSw; subst hSw; go_simp; first | done | with_reducible rfl))
          try simp only [Act.put, List.getElem_toArray, List.getElem_cons_zero, List.getElem_cons_succ, List.setIfInBounds_toArray, List.set_cons_zero, List.set_cons_succ]
          refine wpAnyH_take (i := 6) (v := .pointer (some ⟨rb, ro + i * 4, none⟩)) rfl (by kernel_rfl) (by kernel_rfl) (by kernel_rfl) (fun _ _ _ h => h) (Or.inl ⟨by rfl, ?hyh6⟩) hS ?resth6
          case hyh6 => ((intro w' hSw; subst hSw; go_simp; first | done | with_reducible rfl))
          try simp only [Act.put, List.getElem_toArray, List.getElem_cons_zero, List.getElem_cons_succ, List.setIfInBounds_toArray, List.set_cons_zero, List.set_cons_succ]
          refine wpAnyH_take (i := 7) (v := .pointer (some ⟨rb, ro + i * 4 + 1, none⟩)) rfl (by kernel_rfl) (by kernel_rfl) (by kernel_rfl) (fun _ _ _ h => h) (Or.inl ⟨by rfl, ?hyh7⟩) hS ?resth7
          case hyh7 => ((intro w' hSw; subst hSw; go_simp; first | done | with_reducible rfl))
          try simp only [Act.put, List.getElem_toArray, List.getElem_cons_zero, List.getElem_cons_succ, List.setIfInBounds_toArray, List.set_cons_zero, List.set_cons_succ]
          refine wpAnyH_take (i := 8) (v := .slice y.dA y.dn y.dc) rfl (by kernel_rfl) (by kernel_rfl) (by kernel_rfl) (fun _ _ _ h => h) (Or.inl ⟨by rfl, ?hyh8⟩) hS ?resth8
          case hyh8 => ((intro w' hSw; subst hSw; go_simp; first | done | with_reducible rfl))
          try simp only [Act.put, List.getElem_toArray, List.getElem_cons_zero, List.getElem_cons_succ, List.setIfInBounds_toArray, List.set_cons_zero, List.set_cons_succ]
          refine wpAnyH_take (i := 9) (v := .string (str k.dg)) rfl (by kernel_rfl) (by kernel_rfl) (by kernel_rfl) (fun _ _ _ h => h) (Or.inl ⟨by rfl, ?hyh9⟩) hS ?resth9
          case hyh9 => ((intro w' hSw; subst hSw; go_simp; first | done | with_reducible rfl))
          try simp only [Act.put, List.getElem_toArray, List.getElem_cons_zero, List.getElem_cons_succ, List.setIfInBounds_toArray, List.set_cons_zero, List.set_cons_succ]
          refine wpAnyH_take (i := 10) (v := .bool (decide (digL hs l = k.dg))) rfl (by kernel_rfl) (by kernel_rfl) (by kernel_rfl) (fun _ _ _ h => h) (Or.inl ⟨by rfl, ?hyh10⟩) hS ?resth10
          case hyh10 => ((intro w' hSw; subst hSw; go_simp; first | done | with_reducible rfl | exact eq_str _ _))
          try simp only [Act.put, List.getElem_toArray, List.getElem_cons_zero, List.getElem_cons_succ, List.setIfInBounds_toArray, List.set_cons_zero, List.set_cons_succ]
          refine wpAnyH_done (by kernel_rfl) (NoPanic.normal ?_) _
          rw [hbb.out]
          clear l1 e1 cv1 cv2 hS
          have q1 := cell_blk QZ.out 0 rfl
          have q2 := cell_blk QZ.out 1 rfl
          have hh : Z.heap[G + 3]? = some (.cells #[.slice none 0 0, .int .i64 0] 33 (0, 0)) := (BZz.out.block (G + 3) (by have := hWs.out; omega)).trans R3.out
          cases bb
          · have hE : Hid (checkE S hs l = 18) := by unfold Hid; rw [hEk.out]; exact if_neg (fun h => of_decide_eq_false hbb.out h.symm)
            go_wp2_with (refine wpList_store_row rfl 33 (.tmp 6) (.tmp 44) rfl (G + 3) #[.slice V' vn' vc', .int .i64 0] rfl (by first | rfl | kernel_rfl) _ _ hh (by kernel_rfl) rfl (by kernel_rfl) ?_)
            generalize hQ : World.setRow _ _ _ = Qz
            have hQg : Qz.heap[G + 3]? = some (.cells #[.slice V' vn' vc', .int .i64 0] 33 (0, 0)) := by rw [← hQ]; exact setRow_heap _ _ _ _ _ _ hh
            have hQf : Fr [G + 3] Z Qz [G + 3] := by rw [← hQ]; exact setRow_fr _ _ _
            have hQb : Below w.heap.size w Qz := by rw [← hQ]; exact below_setRow (BW.out.trans (BZz.out.mono BW.out.size)) (by have := hG.out; omega) _
            first | done | skip
            refine bodyPost_ret (v := .tuple #[.agg #[.slice V' vn' vc', .int .i64 0], .int .i64 (checkE S hs l)]) ?_ rfl ?_
            · rw [hE.out]
              exact results_cell_tmp Try.results54 rfl (run_loadVar_mid (P := Try.prog) Qz (G + 3) 0 33 _ _ (range_of hQg) Try.underlying33 rfl (by kernel_rfl))
            · refine ⟨V', vn', vc', rfl, hvc', ?_, hQb⟩
              rw [hHk.out]
              exact (VZ.out).fr hQf (fun k hk => by simp at hk; simp [hk]) (fun k hk => Or.inl (List.mem_cons_of_mem _ hk))
          · have hE : Hid (checkE S hs l = 16) := by unfold Hid; rw [hEk.out]; exact if_pos (of_decide_eq_true hbb.out).symm
            go_wp2_with (refine wpList_store_row rfl 33 (.tmp 6) (.tmp 43) rfl (G + 3) #[.slice V' vn' vc', .int .i64 0] rfl (by first | rfl | kernel_rfl) _ _ hh (by kernel_rfl) rfl (by kernel_rfl) ?_)
            generalize hQ : World.setRow _ _ _ = Qz
            have hQg : Qz.heap[G + 3]? = some (.cells #[.slice V' vn' vc', .int .i64 0] 33 (0, 0)) := by rw [← hQ]; exact setRow_heap _ _ _ _ _ _ hh
            have hQf : Fr [G + 3] Z Qz [G + 3] := by rw [← hQ]; exact setRow_fr _ _ _
            have hQb : Below w.heap.size w Qz := by rw [← hQ]; exact below_setRow (BW.out.trans (BZz.out.mono BW.out.size)) (by have := hG.out; omega) _
            first | done | skip
            refine bodyPost_ret (v := .tuple #[.agg #[.slice V' vn' vc', .int .i64 0], .int .i64 (checkE S hs l)]) ?_ rfl ?_
            · rw [hE.out]
              exact results_cell_tmp Try.results54 rfl (run_loadVar_mid (P := Try.prog) Qz (G + 3) 0 33 _ _ (range_of hQg) Try.underlying33 rfl (by kernel_rfl))
            · refine ⟨V', vn', vc', rfl, hvc', ?_, hQb⟩
              rw [hHk.out]
              exact (VZ.out).fr hQf (fun k hk => by simp at hk; simp [hk]) (fun k hk => Or.inl (List.mem_cons_of_mem _ hk))
        · go_simp
          obtain ⟨V1, hV1⟩ : ∃ W0, Hid (W0 = U.alloc (.cells #[.slice none 0 0, .int .i64 0] 33)) := ⟨_, Lib.hid rfl⟩
          obtain ⟨q0, hq0⟩ : ∃ q, Hid (q = U.heap.size) := ⟨_, Lib.hid rfl⟩
          have gV1 : Below U.heap.size U V1 := by rw [hV1.out]; exact (Below.refl _ _).alloc (Nat.le_refl _) _
          have BV1 := Lib.hid (BU.out.trans (gV1.mono BU.out.size))
          have Q0 : Hid (V1.heap[q0]? = some (.cells #[.slice none 0 0, .int .i64 0] 33 (0, 0))) := by unfold Hid; rw [hV1.out, hq0.out]; exact heap_alloc_new _ _
          have hqG : Hid (G + 4 ≤ q0) := by unfold Hid; rw [hq0.out, ← hWs.out]; exact BU.out.size
          have hqlV1 : Hid (q0 < V1.heap.size) := lt_of_blk Q0.out
          rw [← hV1.out, ← hq0.out]
          have SV1 : V1.rangeAt (G + 1) 0 [.slice V vn vc, .int .i64 0] ∧ V1.rangeAt (G + 2) 0 [.int .i64 l.au, .int .i64 l.sq, .int .i64 l.ep, .slice pA pn pc, .slice bA bn bc] := ⟨range_keep R1.out BV1.out (by have := hWs.out; omega), range_keep R2.out BV1.out (by have := hWs.out; omega)⟩
          refine hK.out _ _ SV1 ?_
          intro hS
          clear hK K hS
          try simp only [Act.put, List.getElem_toArray, List.getElem_cons_zero, List.getElem_cons_succ, List.setIfInBounds_toArray, List.set_cons_zero, List.set_cons_succ]
          have hqu : Hid (u.heap.size ≤ q0) := by unfold Hid; rw [hq0.out]; exact Nat.le_trans huX.out buU.size
          have buV1 := buU.trans (gV1.mono buU.size)
          replace P7 : Hid (RdN (q0 :: (G + 3) :: no) V1 1 A7 m7 ((bytesL l).map B8)) := P7.out.fr (own := []) (own' := []) (Fr.below gV1) (fun _ h => absurd h (by simp)) (fun k hk => by rcases List.mem_cons.1 hk with h | h; exact Or.inr (by rw [h, hq0.out]; exact Nat.le_refl _); exact Or.inl h)
          refine wpAnyH_ready (rs := [3]) (by kernel_rfl) (by simp) ?_
          refine AllReadyH.cons rfl (fun K hK => ?_) AllReadyH.nil
          go_simp
          refine (refHashN_ V vn vc 0 A7 m7 c7 hs (bytesL l) (q0 :: (G + 3) :: no) V1 (HV.out.fr (own := []) (own' := []) (Fr.below BV1.out) (fun _ h => absurd h (by simp)) (fun k hk => by rcases List.mem_cons.1 hk with h | h; exact Or.inr (by have := hqG.out; have := hWs.out; omega); exact Or.inl h)) P7.out hvn hvc (fun k hk => by rcases List.mem_cons.1 hk with h | hk; exact h ▸ hqlV1.out; exact Nat.lt_of_lt_of_le (HNO.out k hk) BV1.out.size)).mono ?_
          rintro e V2 ⟨V', vn', vc', D, dc, rfl, hvc', hv8, o8, b⟩
          have BV2 := Lib.hid (BV1.out.trans (b.mono BV1.out.size))
          have V8 : Hid (VtN (q0 :: (G + 3) :: no) V2 V' vn' (note hs (bytesL l))) := hv8
          have D8 : Hid (RdN (q0 :: (G + 3) :: no) V2 1 D 32 ((digL hs l).map B8)) := o8.rdNo (fun k hk => by rcases List.mem_cons.1 hk with h | hk; exact h ▸ hqlV1.out; exact Nat.lt_of_lt_of_le (HNO.out k hk) BV1.out.size)
          have gV2 := b
          clear b o8 hv8
          go_wp2_with fail
          have SV2 : V2.rangeAt (G + 1) 0 [.slice V vn vc, .int .i64 0] ∧ V2.rangeAt (G + 2) 0 [.int .i64 l.au, .int .i64 l.sq, .int .i64 l.ep, .slice pA pn pc, .slice bA bn bc] := ⟨range_keep R1.out BV2.out (by have := hWs.out; omega), range_keep R2.out BV2.out (by have := hWs.out; omega)⟩
          refine hK.out _ _ SV2 ?_
          intro hS
          clear hK K hS
          try simp only [Act.put, List.getElem_toArray, List.getElem_cons_zero, List.getElem_cons_succ, List.setIfInBounds_toArray, List.set_cons_zero, List.set_cons_succ]
          have buV2 := buV1.trans (gV2.mono buV1.size)
          replace Q0 : Hid (V2.heap[q0]? = some (.cells #[.slice none 0 0, .int .i64 0] 33 (0, 0))) := (gV2.block q0 hqlV1.out).trans Q0.out
          have hqlV2 : Hid (q0 < V2.heap.size) := lt_of_blk Q0.out
          have hS : V2.rangeAt (G + 1) 0 [.slice V vn vc, .int .i64 0] ∧ V2.rangeAt (G + 2) 0 [.int .i64 l.au, .int .i64 l.sq, .int .i64 l.ep, .slice pA pn pc, .slice bA bn bc] := SV2
          refine wpAnyH_take (i := 4) (v := ?vd4) rfl (by kernel_rfl) (by kernel_rfl) (by kernel_rfl) (fun _ _ _ h => h) (Or.inl ⟨by rfl, ?hyd4⟩) hS ?restd4
          case hyd4 => (intro w' hSw; go_simp; first | done | with_reducible rfl)
          try simp only [Act.put, List.getElem_toArray, List.getElem_cons_zero, List.getElem_cons_succ, List.setIfInBounds_toArray, List.set_cons_zero, List.set_cons_succ]
          refine wpAnyH_take (i := 5) (v := .agg #[.slice V' vn' vc', .int .i64 0]) rfl (by kernel_rfl) (by kernel_rfl) (by kernel_rfl) (fun _ _ _ h => h) (Or.inl ⟨by rfl, ?hyd5⟩) hS ?restd5
          case hyd5 => (intro w' hSw; go_simp; first | done | with_reducible rfl)
          try simp only [Act.put, List.getElem_toArray, List.getElem_cons_zero, List.getElem_cons_succ, List.setIfInBounds_toArray, List.set_cons_zero, List.set_cons_succ]
          refine wpAnyH_take (i := 6) (v := .slice D 32 dc) rfl (by kernel_rfl) (by kernel_rfl) (by kernel_rfl) (fun _ _ _ h => h) (Or.inl ⟨by rfl, ?hyd6⟩) hS ?restd6
          case hyd6 => (intro w' hSw; go_simp; first | done | with_reducible rfl)
          try simp only [Act.put, List.getElem_toArray, List.getElem_cons_zero, List.getElem_cons_succ, List.setIfInBounds_toArray, List.set_cons_zero, List.set_cons_succ]
          refine wpAnyH_ready (rs := [8]) (by kernel_rfl) (by simp) ?_
          refine AllReadyH.cons rfl (fun K hK => ?_) AllReadyH.nil
          refine step_store_row 33 (.tmp 9) (.tmp 30) rfl rfl q0 #[.slice V' vn' vc', .int .i64 0] rfl rfl _ _ Q0.out (by kernel_rfl) rfl (by kernel_rfl) ?_
          obtain ⟨Y, hY⟩ : ∃ W0, Hid (W0 = V2.setRow q0 #[.slice V' vn' vc', .int .i64 0]) := ⟨_, Lib.hid rfl⟩
          have FY : Fr [q0] V2 Y [q0] := by rw [hY.out]; exact setRow_fr _ _ _
          have QY : Hid (Y.heap[q0]? = some (.cells #[.slice V' vn' vc', .int .i64 0] 33 (0, 0))) := by unfold Hid; rw [hY.out]; exact setRow_heap _ _ _ _ _ _ Q0.out
          rw [← hY.out]
          have VY : Hid (VtN ((G + 3) :: no) Y V' vn' (note hs (bytesL l))) := V8.out.fr FY (fun k hk => by simp at hk; simp [hk]) (fun k hk => Or.inl (List.mem_cons_of_mem _ hk))
          have DY : Hid (RdN ((G + 3) :: no) Y 1 D 32 ((digL hs l).map B8)) := D8.out.fr FY (fun k hk => by simp at hk; simp [hk]) (fun k hk => Or.inl (List.mem_cons_of_mem _ hk))
          have BY : Hid (Below W.heap.size W Y) := by unfold Hid; rw [hY.out]; exact below_setRow BV2.out (by have := hqG.out; have := hWs.out; omega) _
          have SY : Y.rangeAt (G + 1) 0 [.slice V vn vc, .int .i64 0] ∧ Y.rangeAt (G + 2) 0 [.int .i64 l.au, .int .i64 l.sq, .int .i64 l.ep, .slice pA pn pc, .slice bA bn bc] := ⟨range_keep R1.out BY.out (by have := hWs.out; omega), range_keep R2.out BY.out (by have := hWs.out; omega)⟩
          have XY : Hid (RkX ((G + 3) :: no) Y y x) := by
            have hb2 : Below u.heap.size u Y := by rw [hY.out]; exact below_setRow (dX.trans (buV2.mono dX.size)) (by have h1 := hqu.out; omega) _
            exact HRX.out.below hb2
          have RY : Hid (Y.rangeAt rb (ro + i * 4) (rkC y)) := by
            have hb2 : Below u.heap.size u Y := by rw [hY.out]; exact below_setRow (dX.trans (buV2.mono dX.size)) (by have h1 := hqu.out; omega) _
            exact fun j v hj => (World.cell?_of_block (a := ⟨rb, ro + i * 4 + j, none⟩) (hb2.block rb HRB.out)).trans (HRG.out j v hj)
          refine hK.out _ _ SY ?_
          intro hS
          clear hK K hS
          try simp only [Act.put, List.getElem_toArray, List.getElem_cons_zero, List.getElem_cons_succ, List.setIfInBounds_toArray, List.set_cons_zero, List.set_cons_succ]
          have hS : Y.rangeAt (G + 1) 0 [.slice V vn vc, .int .i64 0] ∧ Y.rangeAt (G + 2) 0 [.int .i64 l.au, .int .i64 l.sq, .int .i64 l.ep, .slice pA pn pc, .slice bA bn bc] := SY
          refine wpAnyH_take (i := 9) (v := ?vd9) rfl (by kernel_rfl) (by kernel_rfl) (by kernel_rfl) (fun _ _ _ h => h) (Or.inl ⟨by rfl, ?hyd9⟩) hS ?restd9
          case hyd9 => (intro w' hSw; go_simp; first | done | with_reducible rfl)
          try simp only [Act.put, List.getElem_toArray, List.getElem_cons_zero, List.getElem_cons_succ, List.setIfInBounds_toArray, List.set_cons_zero, List.set_cons_succ]
          refine wpAnyH_done (by kernel_rfl) (NoPanic.normal ?_) _
          go_wp2_with fail
          obtain ⟨Z, hZ⟩ : ∃ W, Hid (W = Y.drew) := ⟨_, Lib.hid rfl⟩
          have dZ : Below Y.heap.size Y Z := by rw [hZ.out]; exact below_drew (Below.refl _ _)
          have BZz := Lib.hid (BY.out.trans (dZ.mono BY.out.size))
          have z2 := range_keep R2.out BZz.out (by have := hWs.out; omega)
          have l1 := z2 1 _ rfl
          have hbY : Hid (rb < Y.heap.size) := World.block_lt_of_cell? _ _ (RY.out 0 _ rfl)
          have e1 : Z.cell? ⟨rb, ro + i * 4 + 1, none⟩ = some (.slice y.dA y.dn y.dc) := (World.cell?_of_block (a := ⟨rb, ro + i * 4 + 1, none⟩) (dZ.block rb hbY.out)).trans (RY.out 1 _ rfl)
          have cv1 := conv8 Z D 32 dc _ (DY.out.1.to dZ)
          have cv2 := conv8 Z y.dA y.dn y.dc _ (XY.out.dg.1.to dZ)
          rw [HXK.out] at cv2
          have QZ : Hid (Z.heap[q0]? = some (.cells #[.slice V' vn' vc', .int .i64 0] 33 (0, 0))) := (dZ.block q0 (lt_of_blk QY.out)).trans QY.out
          have VZ := Lib.hid (VY.out.below dZ)
          refine wp_region_noPanic ?_
          refine wp_region_held_drew (S := fun w' => w' = Z) (by kernel_rfl) hZ.out.symm (fun hS => ?_)
          rw [← hZ.out]
          clear hS
          have hS : Z = Z := rfl
          refine wpAnyH_take (i := 0) (v := ?ve0) rfl (by kernel_rfl) (by kernel_rfl) (by kernel_rfl) (fun _ _ _ h => h) (Or.inl ⟨by rfl, ?hye0⟩) hS ?reste0
          case hye0 => ((intro w' hSw; subst hSw; go_simp; first | done | with_reducible rfl))
          try simp only [Act.put, List.getElem_toArray, List.getElem_cons_zero, List.getElem_cons_succ, List.setIfInBounds_toArray, List.set_cons_zero, List.set_cons_succ]
          refine wpAnyH_take (i := 1) (v := .string (str (digL hs l))) rfl (by kernel_rfl) (by kernel_rfl) (by kernel_rfl) (fun _ _ _ h => h) (Or.inl ⟨by rfl, ?hye1⟩) hS ?reste1
          case hye1 => ((intro w' hSw; subst hSw; go_simp; first | done | with_reducible rfl))
          try simp only [Act.put, List.getElem_toArray, List.getElem_cons_zero, List.getElem_cons_succ, List.setIfInBounds_toArray, List.set_cons_zero, List.set_cons_succ]
          refine wpAnyH_take (i := 2) (v := ?ve2) rfl (by kernel_rfl) (by kernel_rfl) (by kernel_rfl) (fun _ _ _ h => h) (Or.inl ⟨by rfl, ?hye2⟩) hS ?reste2
          case hye2 => ((intro w' hSw; subst hSw; go_simp; first | done | with_reducible rfl))
          try simp only [Act.put, List.getElem_toArray, List.getElem_cons_zero, List.getElem_cons_succ, List.setIfInBounds_toArray, List.set_cons_zero, List.set_cons_succ]
          refine wpAnyH_take (i := 3) (v := ?ve3) rfl (by kernel_rfl) (by kernel_rfl) (by kernel_rfl) (fun _ _ _ h => h) (Or.inl ⟨by rfl, ?hye3⟩) hS ?reste3
          case hye3 => ((intro w' hSw; subst hSw; go_simp; first | done | with_reducible rfl))
          try simp only [Act.put, List.getElem_toArray, List.getElem_cons_zero, List.getElem_cons_succ, List.setIfInBounds_toArray, List.set_cons_zero, List.set_cons_succ]
          refine wpAnyH_take (i := 4) (v := .int .i64 l.sq) rfl (by kernel_rfl) (by kernel_rfl) (by kernel_rfl) (fun _ _ _ h => h) (Or.inl ⟨by rfl, ?hye4⟩) hS ?reste4
          case hye4 => ((intro w' hSw; subst hSw; go_simp; first | done | with_reducible rfl))
          try simp only [Act.put, List.getElem_toArray, List.getElem_cons_zero, List.getElem_cons_succ, List.setIfInBounds_toArray, List.set_cons_zero, List.set_cons_succ]
          refine wpAnyH_take (i := 5) (v := .int .i64 (i : Int)) rfl (by kernel_rfl) (by kernel_rfl) (by kernel_rfl) (fun _ _ _ h => h) (Or.inl ⟨by rfl, ?hye5⟩) hS ?reste5
          case hye5 => ((intro w' hSw; subst hSw; go_simp; first | done | with_reducible rfl))
          try simp only [Act.put, List.getElem_toArray, List.getElem_cons_zero, List.getElem_cons_succ, List.setIfInBounds_toArray, List.set_cons_zero, List.set_cons_succ]
          refine wpAnyH_take (i := 6) (v := .pointer (some ⟨rb, ro + i * 4, none⟩)) rfl (by kernel_rfl) (by kernel_rfl) (by kernel_rfl) (fun _ _ _ h => h) (Or.inl ⟨by rfl, ?hye6⟩) hS ?reste6
          case hye6 => ((intro w' hSw; subst hSw; go_simp; first | done | with_reducible rfl))
          try simp only [Act.put, List.getElem_toArray, List.getElem_cons_zero, List.getElem_cons_succ, List.setIfInBounds_toArray, List.set_cons_zero, List.set_cons_succ]
          refine wpAnyH_take (i := 7) (v := .pointer (some ⟨rb, ro + i * 4 + 1, none⟩)) rfl (by kernel_rfl) (by kernel_rfl) (by kernel_rfl) (fun _ _ _ h => h) (Or.inl ⟨by rfl, ?hye7⟩) hS ?reste7
          case hye7 => ((intro w' hSw; subst hSw; go_simp; first | done | with_reducible rfl))
          try simp only [Act.put, List.getElem_toArray, List.getElem_cons_zero, List.getElem_cons_succ, List.setIfInBounds_toArray, List.set_cons_zero, List.set_cons_succ]
          refine wpAnyH_take (i := 8) (v := .slice y.dA y.dn y.dc) rfl (by kernel_rfl) (by kernel_rfl) (by kernel_rfl) (fun _ _ _ h => h) (Or.inl ⟨by rfl, ?hye8⟩) hS ?reste8
          case hye8 => ((intro w' hSw; subst hSw; go_simp; first | done | with_reducible rfl))
          try simp only [Act.put, List.getElem_toArray, List.getElem_cons_zero, List.getElem_cons_succ, List.setIfInBounds_toArray, List.set_cons_zero, List.set_cons_succ]
          refine wpAnyH_take (i := 9) (v := .string (str k.dg)) rfl (by kernel_rfl) (by kernel_rfl) (by kernel_rfl) (fun _ _ _ h => h) (Or.inl ⟨by rfl, ?hye9⟩) hS ?reste9
          case hye9 => ((intro w' hSw; subst hSw; go_simp; first | done | with_reducible rfl))
          try simp only [Act.put, List.getElem_toArray, List.getElem_cons_zero, List.getElem_cons_succ, List.setIfInBounds_toArray, List.set_cons_zero, List.set_cons_succ]
          refine wpAnyH_take (i := 10) (v := .bool (decide (digL hs l = k.dg))) rfl (by kernel_rfl) (by kernel_rfl) (by kernel_rfl) (fun _ _ _ h => h) (Or.inl ⟨by rfl, ?hye10⟩) hS ?reste10
          case hye10 => ((intro w' hSw; subst hSw; go_simp; first | done | with_reducible rfl | exact eq_str _ _))
          try simp only [Act.put, List.getElem_toArray, List.getElem_cons_zero, List.getElem_cons_succ, List.setIfInBounds_toArray, List.set_cons_zero, List.set_cons_succ]
          refine wpAnyH_done (by kernel_rfl) (NoPanic.normal ?_) _
          rw [hbb.out]
          clear l1 e1 cv1 cv2 hS
          have q1 := cell_blk QZ.out 0 rfl
          have q2 := cell_blk QZ.out 1 rfl
          have hh : Z.heap[G + 3]? = some (.cells #[.slice none 0 0, .int .i64 0] 33 (0, 0)) := (BZz.out.block (G + 3) (by have := hWs.out; omega)).trans R3.out
          cases bb
          · have hE : Hid (checkE S hs l = 18) := by unfold Hid; rw [hEk.out]; exact if_neg (fun h => of_decide_eq_false hbb.out h.symm)
            go_wp2_with (refine wpList_store_row rfl 33 (.tmp 6) (.tmp 44) rfl (G + 3) #[.slice V' vn' vc', .int .i64 0] rfl (by first | rfl | kernel_rfl) _ _ hh (by kernel_rfl) rfl (by kernel_rfl) ?_)
            generalize hQ : World.setRow _ _ _ = Qz
            have hQg : Qz.heap[G + 3]? = some (.cells #[.slice V' vn' vc', .int .i64 0] 33 (0, 0)) := by rw [← hQ]; exact setRow_heap _ _ _ _ _ _ hh
            have hQf : Fr [G + 3] Z Qz [G + 3] := by rw [← hQ]; exact setRow_fr _ _ _
            have hQb : Below w.heap.size w Qz := by rw [← hQ]; exact below_setRow (BW.out.trans (BZz.out.mono BW.out.size)) (by have := hG.out; omega) _
            first | done | skip
            refine bodyPost_ret (v := .tuple #[.agg #[.slice V' vn' vc', .int .i64 0], .int .i64 (checkE S hs l)]) ?_ rfl ?_
            · rw [hE.out]
              exact results_cell_tmp Try.results54 rfl (run_loadVar_mid (P := Try.prog) Qz (G + 3) 0 33 _ _ (range_of hQg) Try.underlying33 rfl (by kernel_rfl))
            · refine ⟨V', vn', vc', rfl, hvc', ?_, hQb⟩
              rw [hHk.out]
              exact (VZ.out).fr hQf (fun k hk => by simp at hk; simp [hk]) (fun k hk => Or.inl (List.mem_cons_of_mem _ hk))
          · have hE : Hid (checkE S hs l = 16) := by unfold Hid; rw [hEk.out]; exact if_pos (of_decide_eq_true hbb.out).symm
            go_wp2_with (refine wpList_store_row rfl 33 (.tmp 6) (.tmp 43) rfl (G + 3) #[.slice V' vn' vc', .int .i64 0] rfl (by first | rfl | kernel_rfl) _ _ hh (by kernel_rfl) rfl (by kernel_rfl) ?_)
            generalize hQ : World.setRow _ _ _ = Qz
            have hQg : Qz.heap[G + 3]? = some (.cells #[.slice V' vn' vc', .int .i64 0] 33 (0, 0)) := by rw [← hQ]; exact setRow_heap _ _ _ _ _ _ hh
            have hQf : Fr [G + 3] Z Qz [G + 3] := by rw [← hQ]; exact setRow_fr _ _ _
            have hQb : Below w.heap.size w Qz := by rw [← hQ]; exact below_setRow (BW.out.trans (BZz.out.mono BW.out.size)) (by have := hG.out; omega) _
            first | done | skip
            refine bodyPost_ret (v := .tuple #[.agg #[.slice V' vn' vc', .int .i64 0], .int .i64 (checkE S hs l)]) ?_ rfl ?_
            · rw [hE.out]
              exact results_cell_tmp Try.results54 rfl (run_loadVar_mid (P := Try.prog) Qz (G + 3) 0 33 _ _ (range_of hQg) Try.underlying33 rfl (by kernel_rfl))
            · refine ⟨V', vn', vc', rfl, hvc', ?_, hQb⟩
              rw [hHk.out]
              exact (VZ.out).fr hQf (fun k hk => by simp at hk; simp [hk]) (fun k hk => Or.inl (List.mem_cons_of_mem _ hk))
      · go_simp
        obtain ⟨U, hU⟩ : ∃ W0, Hid (W0 = X.alloc (.cells #[.slice none 0 0, .int .i64 0] 33)) := ⟨_, Lib.hid rfl⟩
        obtain ⟨q0, hq0⟩ : ∃ q, Hid (q = X.heap.size) := ⟨_, Lib.hid rfl⟩
        have gU : Below X.heap.size X U := by rw [hU.out]; exact (Below.refl _ _).alloc (Nat.le_refl _) _
        have BU := Lib.hid (BX.out.trans (gU.mono BX.out.size))
        have Q0 : Hid (U.heap[q0]? = some (.cells #[.slice none 0 0, .int .i64 0] 33 (0, 0))) := by unfold Hid; rw [hU.out, hq0.out]; exact heap_alloc_new _ _
        have hqG : Hid (G + 4 ≤ q0) := by unfold Hid; rw [hq0.out, ← hWs.out]; exact BX.out.size
        have hqlU : Hid (q0 < U.heap.size) := lt_of_blk Q0.out
        rw [← hU.out, ← hq0.out]
        have SU : U.rangeAt (G + 1) 0 [.slice V vn vc, .int .i64 0] ∧ U.rangeAt (G + 2) 0 [.int .i64 l.au, .int .i64 l.sq, .int .i64 l.ep, .slice pA pn pc, .slice bA bn bc] := ⟨range_keep R1.out BU.out (by have := hWs.out; omega), range_keep R2.out BU.out (by have := hWs.out; omega)⟩
        refine hK.out _ _ SU ?_
        intro hS
        clear hK K hS
        try simp only [Act.put, List.getElem_toArray, List.getElem_cons_zero, List.getElem_cons_succ, List.setIfInBounds_toArray, List.set_cons_zero, List.set_cons_succ]
        have hqu : Hid (u.heap.size ≤ q0) := by unfold Hid; rw [hq0.out]; exact Nat.le_trans huX.out buX.size
        have buU := buX.trans (gU.mono buX.size)
        refine wpAnyH_ready (rs := [2]) (by kernel_rfl) (by simp) ?_
        refine AllReadyH.cons rfl (fun K hK => ?_) AllReadyH.nil
        go_simp
        refine (refBytes_ l pA pn pc bA bn bc U (HP.out.below BU.out).1 (HB.out.below BU.out).1 Hr.out).mono ?_
        rintro e V1 ⟨A7, m7, c7, rfl, hm7, hl7, o7, b⟩
        have BV1 := Lib.hid (BU.out.trans (b.mono BU.out.size))
        have P7 : Hid (RdN (q0 :: (G + 3) :: no) V1 1 A7 m7 ((bytesL l).map B8)) := own_rdN o7 (fun k hk => by rcases List.mem_cons.1 hk with h | hk; exact h ▸ hqlU.out; exact Nat.lt_of_lt_of_le (HNO.out k hk) BU.out.size)
        have gV1 := b
        clear b o7 hl7
        go_wp2_with fail
        have SV1 : V1.rangeAt (G + 1) 0 [.slice V vn vc, .int .i64 0] ∧ V1.rangeAt (G + 2) 0 [.int .i64 l.au, .int .i64 l.sq, .int .i64 l.ep, .slice pA pn pc, .slice bA bn bc] := ⟨range_keep R1.out BV1.out (by have := hWs.out; omega), range_keep R2.out BV1.out (by have := hWs.out; omega)⟩
        refine hK.out _ _ SV1 ?_
        intro hS
        clear hK K hS
        try simp only [Act.put, List.getElem_toArray, List.getElem_cons_zero, List.getElem_cons_succ, List.setIfInBounds_toArray, List.set_cons_zero, List.set_cons_succ]
        have buV1 := buU.trans (gV1.mono buU.size)
        replace Q0 : Hid (V1.heap[q0]? = some (.cells #[.slice none 0 0, .int .i64 0] 33 (0, 0))) := (gV1.block q0 hqlU.out).trans Q0.out
        have hqlV1 : Hid (q0 < V1.heap.size) := lt_of_blk Q0.out
        refine wpAnyH_ready (rs := [3]) (by kernel_rfl) (by simp) ?_
        refine AllReadyH.cons rfl (fun K hK => ?_) AllReadyH.nil
        go_simp
        refine (refHashN_ V vn vc 0 A7 m7 c7 hs (bytesL l) (q0 :: (G + 3) :: no) V1 (HV.out.fr (own := []) (own' := []) (Fr.below BV1.out) (fun _ h => absurd h (by simp)) (fun k hk => by rcases List.mem_cons.1 hk with h | h; exact Or.inr (by have := hqG.out; have := hWs.out; omega); exact Or.inl h)) P7.out hvn hvc (fun k hk => by rcases List.mem_cons.1 hk with h | hk; exact h ▸ hqlV1.out; exact Nat.lt_of_lt_of_le (HNO.out k hk) BV1.out.size)).mono ?_
        rintro e V2 ⟨V', vn', vc', D, dc, rfl, hvc', hv8, o8, b⟩
        have BV2 := Lib.hid (BV1.out.trans (b.mono BV1.out.size))
        have V8 : Hid (VtN (q0 :: (G + 3) :: no) V2 V' vn' (note hs (bytesL l))) := hv8
        have D8 : Hid (RdN (q0 :: (G + 3) :: no) V2 1 D 32 ((digL hs l).map B8)) := o8.rdNo (fun k hk => by rcases List.mem_cons.1 hk with h | hk; exact h ▸ hqlV1.out; exact Nat.lt_of_lt_of_le (HNO.out k hk) BV1.out.size)
        have gV2 := b
        clear b o8 hv8
        go_wp2_with fail
        have SV2 : V2.rangeAt (G + 1) 0 [.slice V vn vc, .int .i64 0] ∧ V2.rangeAt (G + 2) 0 [.int .i64 l.au, .int .i64 l.sq, .int .i64 l.ep, .slice pA pn pc, .slice bA bn bc] := ⟨range_keep R1.out BV2.out (by have := hWs.out; omega), range_keep R2.out BV2.out (by have := hWs.out; omega)⟩
        refine hK.out _ _ SV2 ?_
        intro hS
        clear hK K hS
        try simp only [Act.put, List.getElem_toArray, List.getElem_cons_zero, List.getElem_cons_succ, List.setIfInBounds_toArray, List.set_cons_zero, List.set_cons_succ]
        have buV2 := buV1.trans (gV2.mono buV1.size)
        replace Q0 : Hid (V2.heap[q0]? = some (.cells #[.slice none 0 0, .int .i64 0] 33 (0, 0))) := (gV2.block q0 hqlV1.out).trans Q0.out
        have hqlV2 : Hid (q0 < V2.heap.size) := lt_of_blk Q0.out
        have hS : V2.rangeAt (G + 1) 0 [.slice V vn vc, .int .i64 0] ∧ V2.rangeAt (G + 2) 0 [.int .i64 l.au, .int .i64 l.sq, .int .i64 l.ep, .slice pA pn pc, .slice bA bn bc] := SV2
        refine wpAnyH_take (i := 4) (v := ?vb4) rfl (by kernel_rfl) (by kernel_rfl) (by kernel_rfl) (fun _ _ _ h => h) (Or.inl ⟨by rfl, ?hyb4⟩) hS ?restb4
        case hyb4 => (intro w' hSw; go_simp; first | done | with_reducible rfl)
        try simp only [Act.put, List.getElem_toArray, List.getElem_cons_zero, List.getElem_cons_succ, List.setIfInBounds_toArray, List.set_cons_zero, List.set_cons_succ]
        refine wpAnyH_take (i := 5) (v := .agg #[.slice V' vn' vc', .int .i64 0]) rfl (by kernel_rfl) (by kernel_rfl) (by kernel_rfl) (fun _ _ _ h => h) (Or.inl ⟨by rfl, ?hyb5⟩) hS ?restb5
        case hyb5 => (intro w' hSw; go_simp; first | done | with_reducible rfl)
        try simp only [Act.put, List.getElem_toArray, List.getElem_cons_zero, List.getElem_cons_succ, List.setIfInBounds_toArray, List.set_cons_zero, List.set_cons_succ]
        refine wpAnyH_take (i := 6) (v := .slice D 32 dc) rfl (by kernel_rfl) (by kernel_rfl) (by kernel_rfl) (fun _ _ _ h => h) (Or.inl ⟨by rfl, ?hyb6⟩) hS ?restb6
        case hyb6 => (intro w' hSw; go_simp; first | done | with_reducible rfl)
        try simp only [Act.put, List.getElem_toArray, List.getElem_cons_zero, List.getElem_cons_succ, List.setIfInBounds_toArray, List.set_cons_zero, List.set_cons_succ]
        refine wpAnyH_ready (rs := [8]) (by kernel_rfl) (by simp) ?_
        refine AllReadyH.cons rfl (fun K hK => ?_) AllReadyH.nil
        refine step_store_row 33 (.tmp 9) (.tmp 30) rfl rfl q0 #[.slice V' vn' vc', .int .i64 0] rfl rfl _ _ Q0.out (by kernel_rfl) rfl (by kernel_rfl) ?_
        obtain ⟨Y, hY⟩ : ∃ W0, Hid (W0 = V2.setRow q0 #[.slice V' vn' vc', .int .i64 0]) := ⟨_, Lib.hid rfl⟩
        have FY : Fr [q0] V2 Y [q0] := by rw [hY.out]; exact setRow_fr _ _ _
        have QY : Hid (Y.heap[q0]? = some (.cells #[.slice V' vn' vc', .int .i64 0] 33 (0, 0))) := by unfold Hid; rw [hY.out]; exact setRow_heap _ _ _ _ _ _ Q0.out
        rw [← hY.out]
        have VY : Hid (VtN ((G + 3) :: no) Y V' vn' (note hs (bytesL l))) := V8.out.fr FY (fun k hk => by simp at hk; simp [hk]) (fun k hk => Or.inl (List.mem_cons_of_mem _ hk))
        have DY : Hid (RdN ((G + 3) :: no) Y 1 D 32 ((digL hs l).map B8)) := D8.out.fr FY (fun k hk => by simp at hk; simp [hk]) (fun k hk => Or.inl (List.mem_cons_of_mem _ hk))
        have BY : Hid (Below W.heap.size W Y) := by unfold Hid; rw [hY.out]; exact below_setRow BV2.out (by have := hqG.out; have := hWs.out; omega) _
        have SY : Y.rangeAt (G + 1) 0 [.slice V vn vc, .int .i64 0] ∧ Y.rangeAt (G + 2) 0 [.int .i64 l.au, .int .i64 l.sq, .int .i64 l.ep, .slice pA pn pc, .slice bA bn bc] := ⟨range_keep R1.out BY.out (by have := hWs.out; omega), range_keep R2.out BY.out (by have := hWs.out; omega)⟩
        have XY : Hid (RkX ((G + 3) :: no) Y y x) := by
          have hb2 : Below u.heap.size u Y := by rw [hY.out]; exact below_setRow (dX.trans (buV2.mono dX.size)) (by have h1 := hqu.out; omega) _
          exact HRX.out.below hb2
        have RY : Hid (Y.rangeAt rb (ro + i * 4) (rkC y)) := by
          have hb2 : Below u.heap.size u Y := by rw [hY.out]; exact below_setRow (dX.trans (buV2.mono dX.size)) (by have h1 := hqu.out; omega) _
          exact fun j v hj => (World.cell?_of_block (a := ⟨rb, ro + i * 4 + j, none⟩) (hb2.block rb HRB.out)).trans (HRG.out j v hj)
        refine hK.out _ _ SY ?_
        intro hS
        clear hK K hS
        try simp only [Act.put, List.getElem_toArray, List.getElem_cons_zero, List.getElem_cons_succ, List.setIfInBounds_toArray, List.set_cons_zero, List.set_cons_succ]
        have hS : Y.rangeAt (G + 1) 0 [.slice V vn vc, .int .i64 0] ∧ Y.rangeAt (G + 2) 0 [.int .i64 l.au, .int .i64 l.sq, .int .i64 l.ep, .slice pA pn pc, .slice bA bn bc] := SY
        refine wpAnyH_take (i := 9) (v := ?vb9) rfl (by kernel_rfl) (by kernel_rfl) (by kernel_rfl) (fun _ _ _ h => h) (Or.inl ⟨by rfl, ?hyb9⟩) hS ?restb9
        case hyb9 => (intro w' hSw; go_simp; first | done | with_reducible rfl)
        try simp only [Act.put, List.getElem_toArray, List.getElem_cons_zero, List.getElem_cons_succ, List.setIfInBounds_toArray, List.set_cons_zero, List.set_cons_succ]
        refine wpAnyH_done (by kernel_rfl) (NoPanic.normal ?_) _
        go_wp2_with fail
        obtain ⟨Z, hZ⟩ : ∃ W, Hid (W = Y.drew) := ⟨_, Lib.hid rfl⟩
        have dZ : Below Y.heap.size Y Z := by rw [hZ.out]; exact below_drew (Below.refl _ _)
        have BZz := Lib.hid (BY.out.trans (dZ.mono BY.out.size))
        have z2 := range_keep R2.out BZz.out (by have := hWs.out; omega)
        have l1 := z2 1 _ rfl
        have hbY : Hid (rb < Y.heap.size) := World.block_lt_of_cell? _ _ (RY.out 0 _ rfl)
        have e1 : Z.cell? ⟨rb, ro + i * 4 + 1, none⟩ = some (.slice y.dA y.dn y.dc) := (World.cell?_of_block (a := ⟨rb, ro + i * 4 + 1, none⟩) (dZ.block rb hbY.out)).trans (RY.out 1 _ rfl)
        have cv1 := conv8 Z D 32 dc _ (DY.out.1.to dZ)
        have cv2 := conv8 Z y.dA y.dn y.dc _ (XY.out.dg.1.to dZ)
        rw [HXK.out] at cv2
        have QZ : Hid (Z.heap[q0]? = some (.cells #[.slice V' vn' vc', .int .i64 0] 33 (0, 0))) := (dZ.block q0 (lt_of_blk QY.out)).trans QY.out
        have VZ := Lib.hid (VY.out.below dZ)
        refine wp_region_noPanic ?_
        refine wp_region_held_drew (S := fun w' => w' = Z) (by kernel_rfl) hZ.out.symm (fun hS => ?_)
        rw [← hZ.out]
        clear hS
        have hS : Z = Z := rfl
        refine wpAnyH_take (i := 0) (v := ?vc0) rfl (by kernel_rfl) (by kernel_rfl) (by kernel_rfl) (fun _ _ _ h => h) (Or.inl ⟨by rfl, ?hyc0⟩) hS ?restc0
        case hyc0 => ((intro w' hSw; subst hSw; go_simp; first | done | with_reducible rfl))
        try simp only [Act.put, List.getElem_toArray, List.getElem_cons_zero, List.getElem_cons_succ, List.setIfInBounds_toArray, List.set_cons_zero, List.set_cons_succ]
        refine wpAnyH_take (i := 1) (v := .string (str (digL hs l))) rfl (by kernel_rfl) (by kernel_rfl) (by kernel_rfl) (fun _ _ _ h => h) (Or.inl ⟨by rfl, ?hyc1⟩) hS ?restc1
        case hyc1 => ((intro w' hSw; subst hSw; go_simp; first | done | with_reducible rfl))
        try simp only [Act.put, List.getElem_toArray, List.getElem_cons_zero, List.getElem_cons_succ, List.setIfInBounds_toArray, List.set_cons_zero, List.set_cons_succ]
        refine wpAnyH_take (i := 2) (v := ?vc2) rfl (by kernel_rfl) (by kernel_rfl) (by kernel_rfl) (fun _ _ _ h => h) (Or.inl ⟨by rfl, ?hyc2⟩) hS ?restc2
        case hyc2 => ((intro w' hSw; subst hSw; go_simp; first | done | with_reducible rfl))
        try simp only [Act.put, List.getElem_toArray, List.getElem_cons_zero, List.getElem_cons_succ, List.setIfInBounds_toArray, List.set_cons_zero, List.set_cons_succ]
        refine wpAnyH_take (i := 3) (v := ?vc3) rfl (by kernel_rfl) (by kernel_rfl) (by kernel_rfl) (fun _ _ _ h => h) (Or.inl ⟨by rfl, ?hyc3⟩) hS ?restc3
        case hyc3 => ((intro w' hSw; subst hSw; go_simp; first | done | with_reducible rfl))
        try simp only [Act.put, List.getElem_toArray, List.getElem_cons_zero, List.getElem_cons_succ, List.setIfInBounds_toArray, List.set_cons_zero, List.set_cons_succ]
        refine wpAnyH_take (i := 4) (v := .int .i64 l.sq) rfl (by kernel_rfl) (by kernel_rfl) (by kernel_rfl) (fun _ _ _ h => h) (Or.inl ⟨by rfl, ?hyc4⟩) hS ?restc4
        case hyc4 => ((intro w' hSw; subst hSw; go_simp; first | done | with_reducible rfl))
        try simp only [Act.put, List.getElem_toArray, List.getElem_cons_zero, List.getElem_cons_succ, List.setIfInBounds_toArray, List.set_cons_zero, List.set_cons_succ]
        refine wpAnyH_take (i := 5) (v := .int .i64 (i : Int)) rfl (by kernel_rfl) (by kernel_rfl) (by kernel_rfl) (fun _ _ _ h => h) (Or.inl ⟨by rfl, ?hyc5⟩) hS ?restc5
        case hyc5 => ((intro w' hSw; subst hSw; go_simp; first | done | with_reducible rfl))
        try simp only [Act.put, List.getElem_toArray, List.getElem_cons_zero, List.getElem_cons_succ, List.setIfInBounds_toArray, List.set_cons_zero, List.set_cons_succ]
        refine wpAnyH_take (i := 6) (v := .pointer (some ⟨rb, ro + i * 4, none⟩)) rfl (by kernel_rfl) (by kernel_rfl) (by kernel_rfl) (fun _ _ _ h => h) (Or.inl ⟨by rfl, ?hyc6⟩) hS ?restc6
        case hyc6 => ((intro w' hSw; subst hSw; go_simp; first | done | with_reducible rfl))
        try simp only [Act.put, List.getElem_toArray, List.getElem_cons_zero, List.getElem_cons_succ, List.setIfInBounds_toArray, List.set_cons_zero, List.set_cons_succ]
        refine wpAnyH_take (i := 7) (v := .pointer (some ⟨rb, ro + i * 4 + 1, none⟩)) rfl (by kernel_rfl) (by kernel_rfl) (by kernel_rfl) (fun _ _ _ h => h) (Or.inl ⟨by rfl, ?hyc7⟩) hS ?restc7
        case hyc7 => ((intro w' hSw; subst hSw; go_simp; first | done | with_reducible rfl))
        try simp only [Act.put, List.getElem_toArray, List.getElem_cons_zero, List.getElem_cons_succ, List.setIfInBounds_toArray, List.set_cons_zero, List.set_cons_succ]
        refine wpAnyH_take (i := 8) (v := .slice y.dA y.dn y.dc) rfl (by kernel_rfl) (by kernel_rfl) (by kernel_rfl) (fun _ _ _ h => h) (Or.inl ⟨by rfl, ?hyc8⟩) hS ?restc8
        case hyc8 => ((intro w' hSw; subst hSw; go_simp; first | done | with_reducible rfl))
        try simp only [Act.put, List.getElem_toArray, List.getElem_cons_zero, List.getElem_cons_succ, List.setIfInBounds_toArray, List.set_cons_zero, List.set_cons_succ]
        refine wpAnyH_take (i := 9) (v := .string (str k.dg)) rfl (by kernel_rfl) (by kernel_rfl) (by kernel_rfl) (fun _ _ _ h => h) (Or.inl ⟨by rfl, ?hyc9⟩) hS ?restc9
        case hyc9 => ((intro w' hSw; subst hSw; go_simp; first | done | with_reducible rfl))
        try simp only [Act.put, List.getElem_toArray, List.getElem_cons_zero, List.getElem_cons_succ, List.setIfInBounds_toArray, List.set_cons_zero, List.set_cons_succ]
        refine wpAnyH_take (i := 10) (v := .bool (decide (digL hs l = k.dg))) rfl (by kernel_rfl) (by kernel_rfl) (by kernel_rfl) (fun _ _ _ h => h) (Or.inl ⟨by rfl, ?hyc10⟩) hS ?restc10
        case hyc10 => ((intro w' hSw; subst hSw; go_simp; first | done | with_reducible rfl | exact eq_str _ _))
        try simp only [Act.put, List.getElem_toArray, List.getElem_cons_zero, List.getElem_cons_succ, List.setIfInBounds_toArray, List.set_cons_zero, List.set_cons_succ]
        refine wpAnyH_done (by kernel_rfl) (NoPanic.normal ?_) _
        rw [hbb.out]
        clear l1 e1 cv1 cv2 hS
        have q1 := cell_blk QZ.out 0 rfl
        have q2 := cell_blk QZ.out 1 rfl
        have hh : Z.heap[G + 3]? = some (.cells #[.slice none 0 0, .int .i64 0] 33 (0, 0)) := (BZz.out.block (G + 3) (by have := hWs.out; omega)).trans R3.out
        cases bb
        · have hE : Hid (checkE S hs l = 18) := by unfold Hid; rw [hEk.out]; exact if_neg (fun h => of_decide_eq_false hbb.out h.symm)
          go_wp2_with (refine wpList_store_row rfl 33 (.tmp 6) (.tmp 44) rfl (G + 3) #[.slice V' vn' vc', .int .i64 0] rfl (by first | rfl | kernel_rfl) _ _ hh (by kernel_rfl) rfl (by kernel_rfl) ?_)
          generalize hQ : World.setRow _ _ _ = Qz
          have hQg : Qz.heap[G + 3]? = some (.cells #[.slice V' vn' vc', .int .i64 0] 33 (0, 0)) := by rw [← hQ]; exact setRow_heap _ _ _ _ _ _ hh
          have hQf : Fr [G + 3] Z Qz [G + 3] := by rw [← hQ]; exact setRow_fr _ _ _
          have hQb : Below w.heap.size w Qz := by rw [← hQ]; exact below_setRow (BW.out.trans (BZz.out.mono BW.out.size)) (by have := hG.out; omega) _
          first | done | skip
          refine bodyPost_ret (v := .tuple #[.agg #[.slice V' vn' vc', .int .i64 0], .int .i64 (checkE S hs l)]) ?_ rfl ?_
          · rw [hE.out]
            exact results_cell_tmp Try.results54 rfl (run_loadVar_mid (P := Try.prog) Qz (G + 3) 0 33 _ _ (range_of hQg) Try.underlying33 rfl (by kernel_rfl))
          · refine ⟨V', vn', vc', rfl, hvc', ?_, hQb⟩
            rw [hHk.out]
            exact (VZ.out).fr hQf (fun k hk => by simp at hk; simp [hk]) (fun k hk => Or.inl (List.mem_cons_of_mem _ hk))
        · have hE : Hid (checkE S hs l = 16) := by unfold Hid; rw [hEk.out]; exact if_pos (of_decide_eq_true hbb.out).symm
          go_wp2_with (refine wpList_store_row rfl 33 (.tmp 6) (.tmp 43) rfl (G + 3) #[.slice V' vn' vc', .int .i64 0] rfl (by first | rfl | kernel_rfl) _ _ hh (by kernel_rfl) rfl (by kernel_rfl) ?_)
          generalize hQ : World.setRow _ _ _ = Qz
          have hQg : Qz.heap[G + 3]? = some (.cells #[.slice V' vn' vc', .int .i64 0] 33 (0, 0)) := by rw [← hQ]; exact setRow_heap _ _ _ _ _ _ hh
          have hQf : Fr [G + 3] Z Qz [G + 3] := by rw [← hQ]; exact setRow_fr _ _ _
          have hQb : Below w.heap.size w Qz := by rw [← hQ]; exact below_setRow (BW.out.trans (BZz.out.mono BW.out.size)) (by have := hG.out; omega) _
          first | done | skip
          refine bodyPost_ret (v := .tuple #[.agg #[.slice V' vn' vc', .int .i64 0], .int .i64 (checkE S hs l)]) ?_ rfl ?_
          · rw [hE.out]
            exact results_cell_tmp Try.results54 rfl (run_loadVar_mid (P := Try.prog) Qz (G + 3) 0 33 _ _ (range_of hQg) Try.underlying33 rfl (by kernel_rfl))
          · refine ⟨V', vn', vc', rfl, hvc', ?_, hQb⟩
            rw [hHk.out]
            exact (VZ.out).fr hQf (fun k hk => by simp at hk; simp [hk]) (fun k hk => Or.inl (List.mem_cons_of_mem _ hk))
    · have hHn : Hid (¬ (rightL l ∧ l.sq ≤ (ofA S l.au).length)) := fun h => hle (by rw [← hl.out]; exact h.2)
      have hwr : IntKind.i64.wrap ((n' : Int) + 1) = (n' : Int) + 1 := IntWalk.i64_in _ (by omega)
      by_cases hgap : (n' : Int) + 1 < l.sq
      · have hE : Hid (checkE S hs l = 15) := checkE_gap Hr.out (by rw [hl.out]; exact hgap)
        have hne : (l.sq != (n' : Int) + 1) = true := by rw [bne_iff_ne]; omega
        clear hgap
        go_wp2_with (refine wpList_store_row rfl 33 (.tmp 6) (.tmp 51) rfl (G + 3) #[.slice V vn vc, .int .i64 0] rfl (by first | rfl | kernel_rfl) _ _ hh (by kernel_rfl) rfl (by kernel_rfl) ?_)
        generalize hQ : World.setRow _ _ _ = Qz
        have hQg : Qz.heap[G + 3]? = some (.cells #[.slice V vn vc, .int .i64 0] 33 (0, 0)) := by rw [← hQ]; exact setRow_heap _ _ _ _ _ _ hh
        have hQf : Fr [G + 3] u Qz [G + 3] := by rw [← hQ]; exact setRow_fr _ _ _
        have hQb : Below w.heap.size w Qz := by rw [← hQ]; exact below_setRow (BW.out.trans (BU.out.mono BW.out.size)) (by have := hG.out; omega) _
        first | done | skip
        refine bodyPost_ret (v := .tuple #[.agg #[.slice V vn vc, .int .i64 0], .int .i64 (checkE S hs l)]) ?_ rfl ?_
        · rw [hE.out]
          exact results_cell_tmp Try.results54 rfl (run_loadVar_mid (P := Try.prog) Qz (G + 3) 0 33 _ _ (range_of hQg) Try.underlying33 rfl (by kernel_rfl))
        · refine ⟨V, vn, vc, rfl, hvc, ?_, hQb⟩
          rw [checkH_new hHn.out]
          exact (HV.out.below BU.out).fr hQf (fun k hk => by simp at hk; simp [hk]) (fun k hk => Or.inl (List.mem_cons_of_mem _ hk))
      · have hsqe : l.sq = (n' : Int) + 1 := by omega
        have hEn := Lib.hid (checkE_next (hs := hs) Hr.out (by rw [hl.out]; exact hsqe))
        have hne : (l.sq != (n' : Int) + 1) = false := by rw [bne_eq_false_iff_eq]; exact hsqe
        clear hgap hsqe
        by_cases hz : n' = 0
        · subst hz
          have hnil : ofA S l.au = [] := List.length_eq_zero_iff.1 hl.out
          rw [hnil, show lastDg [] = [] from rfl, show lastEp [] = 0 from rfl] at hEn
          by_cases hpv : pn = 0
          · subst hpv
            have hE : Hid (checkE S hs l = 0) := by unfold Hid; rw [hEn.out, if_pos (List.length_eq_zero_iff.1 hA.out).symm, if_neg (by have := Hr.out.1.2.2.2.2.1; omega)]
            go_wp2_with (refine wpList_store_row rfl 33 (.tmp 6) (.tmp 60) rfl (G + 3) #[.slice V vn vc, .int .i64 0] rfl (by first | rfl | kernel_rfl) _ _ hh (by kernel_rfl) rfl (by kernel_rfl) ?_)
            generalize hQ : World.setRow _ _ _ = Qz
            have hQg : Qz.heap[G + 3]? = some (.cells #[.slice V vn vc, .int .i64 0] 33 (0, 0)) := by rw [← hQ]; exact setRow_heap _ _ _ _ _ _ hh
            have hQf : Fr [G + 3] u Qz [G + 3] := by rw [← hQ]; exact setRow_fr _ _ _
            have hQb : Below w.heap.size w Qz := by rw [← hQ]; exact below_setRow (BW.out.trans (BU.out.mono BW.out.size)) (by have := hG.out; omega) _
            first | done | skip
            refine bodyPost_ret (v := .tuple #[.agg #[.slice V vn vc, .int .i64 0], .int .i64 (checkE S hs l)]) ?_ rfl ?_
            · rw [hE.out]
              exact results_cell_tmp Try.results54 rfl (run_loadVar_mid (P := Try.prog) Qz (G + 3) 0 33 _ _ (range_of hQg) Try.underlying33 rfl (by kernel_rfl))
            · refine ⟨V, vn, vc, rfl, hvc, ?_, hQb⟩
              rw [checkH_new hHn.out]
              exact (HV.out.below BU.out).fr hQf (fun k hk => by simp at hk; simp [hk]) (fun k hk => Or.inl (List.mem_cons_of_mem _ hk))
          · have hpp : 0 < pn := by omega
            have hE : Hid (checkE S hs l = 17) := by unfold Hid; rw [hEn.out, if_neg (fun h => by have := hA.out; rw [← h] at this; simp at this; omega)]
            go_wp2_with (refine wpList_store_row rfl 33 (.tmp 6) (.tmp 59) rfl (G + 3) #[.slice V vn vc, .int .i64 0] rfl (by first | rfl | kernel_rfl) _ _ hh (by kernel_rfl) rfl (by kernel_rfl) ?_)
            generalize hQ : World.setRow _ _ _ = Qz
            have hQg : Qz.heap[G + 3]? = some (.cells #[.slice V vn vc, .int .i64 0] 33 (0, 0)) := by rw [← hQ]; exact setRow_heap _ _ _ _ _ _ hh
            have hQf : Fr [G + 3] u Qz [G + 3] := by rw [← hQ]; exact setRow_fr _ _ _
            have hQb : Below w.heap.size w Qz := by rw [← hQ]; exact below_setRow (BW.out.trans (BU.out.mono BW.out.size)) (by have := hG.out; omega) _
            first | done | skip
            refine bodyPost_ret (v := .tuple #[.agg #[.slice V vn vc, .int .i64 0], .int .i64 (checkE S hs l)]) ?_ rfl ?_
            · rw [hE.out]
              exact results_cell_tmp Try.results54 rfl (run_loadVar_mid (P := Try.prog) Qz (G + 3) 0 33 _ _ (range_of hQg) Try.underlying33 rfl (by kernel_rfl))
            · refine ⟨V, vn, vc, rfl, hvc, ?_, hQb⟩
              rw [checkH_new hHn.out]
              exact (HV.out.below BU.out).fr hQf (fun k hk => by simp at hk; simp [hk]) (fun k hk => Or.inl (List.mem_cons_of_mem _ hk))
        · have hzi : ¬ ((n' : Int) = 0) := by omega
          obtain ⟨k, hk1, hk2⟩ := last_at (L := ofA S l.au) (fun h => hz (by rw [← hl.out, h]; rfl))
          have hDg : lastDg (ofA S l.au) = k.dg := by rw [lastDg, hk2]; rfl
          have hLe : lastEp (ofA S l.au) = k.ep := by rw [lastEp, hk2]; rfl
          rw [hDg, hLe] at hEn
          obtain ⟨x, hx, hxk⟩ := sel_get hk1
          rw [hl.out] at hx
          obtain ⟨i, hi⟩ : ∃ i, Hid (n' = i + 1) := ⟨n' - 1, by unfold Hid; omega⟩
          rw [show n' - 1 = i by have := hi.out; omega] at hx
          obtain ⟨rb, ro, y, rfl, hrb, hrn, hrg, hrx⟩ := HO.out.at_ hx
          have HRX := Lib.hid hrx
          have hye : Hid (y.ep = k.ep) := by unfold Hid; rw [hrx.ep, hxk]
          have hwi : IntKind.i64.wrap ((n' : Int) - 1) = (i : Int) := by rw [IntWalk.i64_in _ (by omega)]; have := hi.out; omega
          have hi0 : (0 : Int) ≤ (i : Int) := by omega
          have hi1 : (i : Int) < (n' : Int) := by have := hi.out; omega
          have hi2 : i < n' := by have := hi.out; omega
          have y0 : u.cell? ⟨rb, ro + i * 4, none⟩ = some (.int .i64 y.au) := hrg 0 _ rfl
          have y1 : u.cell? ⟨rb, ro + i * 4 + 1, none⟩ = some (.slice y.dA y.dn y.dc) := hrg 1 _ rfl
          have y2 : u.cell? ⟨rb, ro + i * 4 + 2, none⟩ = some (.slice y.bA y.bn y.bc) := hrg 2 _ rfl
          have y3 : u.cell? ⟨rb, ro + i * 4 + 3, none⟩ = some (.int .i64 y.ep) := hrg 3 _ rfl
          have hGu : Hid (G + 4 ≤ u.heap.size) := by unfold Hid; rw [← hWs.out]; exact BU.out.size
          have w1 : ∀ o, (u.alloc o).cell? ⟨G + 1, 0, none⟩ = some (.slice V vn vc) := fun o => (World.cell?_alloc_lt u o _ (by have := hGu.out; show G + 1 < _; omega)).trans (r1 0 _ rfl)
          have w2 : ∀ o, (u.alloc o).cell? ⟨G + 1, 1, none⟩ = some (.int .i64 0) := fun o => (World.cell?_alloc_lt u o _ (by have := hGu.out; show G + 1 < _; omega)).trans (r1 1 _ rfl)
          have w3 : ∀ o, (u.alloc o).cell? ⟨G + 2, 2, none⟩ = some (.int .i64 l.ep) := fun o => (World.cell?_alloc_lt u o _ (by have := hGu.out; show G + 2 < _; omega)).trans (r2 2 _ rfl)
          have w4 : ∀ o, (u.alloc o).cell? ⟨G + 2, 3, none⟩ = some (.slice pA pn pc) := fun o => (World.cell?_alloc_lt u o _ (by have := hGu.out; show G + 2 < _; omega)).trans (r2 3 _ rfl)
          have hh2 : ∀ o, (u.alloc o).heap[G + 3]? = some (.cells #[.slice none 0 0, .int .i64 0] 33 (0, 0)) := fun o => (heap_alloc_old u o (by have := hGu.out; omega)).trans hh
          have ba : Below u.heap.size u (u.alloc (.cells #[.int .i64 y.au, .slice y.dA y.dn y.dc, .slice y.bA y.bn y.bc, .int .i64 y.ep] 127)) := (Below.refl _ _).alloc (Nat.le_refl _) _
          have cv1 := conv8 (u.alloc (.cells #[.int .i64 y.au, .slice y.dA y.dn y.dc, .slice y.bA y.bn y.bc, .int .i64 y.ep] 127)) y.dA y.dn y.dc _ (hrx.dg.1.to ba)
          rw [hxk] at cv1
          have cv2 := conv8 (u.alloc (.cells #[.int .i64 y.au, .slice y.dA y.dn y.dc, .slice y.bA y.bn y.bc, .int .i64 y.ep] 127)) pA pn pc _ ((HP.out.below BU.out).1.to ba)
          have BA := Lib.hid (BU.out.trans (ba.mono BU.out.size))
          clear hk1 hk2 hx hrg hrx
          by_cases hpe : k.dg = l.pv
          · have hbe : ((str k.dg).toList != (str l.pv).toList) = false := by rw [neq_str, decide_eq_true hpe]; rfl
            rw [if_pos hpe] at hEn
            by_cases hlt : l.ep < k.ep
            · have hlt2 : l.ep < y.ep := by rw [hye.out]; exact hlt
              have hE : Hid (checkE S hs l = 20) := by unfold Hid; rw [hEn.out, if_pos hlt]
              go_wp2_with (refine wpList_store_row rfl 33 (.tmp 6) (.tmp 80) rfl (G + 3) #[.slice V vn vc, .int .i64 0] rfl (by first | rfl | kernel_rfl) _ _ (hh2 _) (by kernel_rfl) rfl (by kernel_rfl) ?_)
              generalize hQ : World.setRow _ _ _ = Qz
              have hQg : Qz.heap[G + 3]? = some (.cells #[.slice V vn vc, .int .i64 0] 33 (0, 0)) := by rw [← hQ]; exact setRow_heap _ _ _ _ _ _ (hh2 _)
              have hQf : Fr [G + 3] (u.alloc (.cells #[.int .i64 y.au, .slice y.dA y.dn y.dc, .slice y.bA y.bn y.bc, .int .i64 y.ep] 127)) Qz [G + 3] := by rw [← hQ]; exact setRow_fr _ _ _
              have hQb : Below w.heap.size w Qz := by rw [← hQ]; exact below_setRow (BW.out.trans (BA.out.mono BW.out.size)) (by have := hG.out; omega) _
              first | done | skip
              refine bodyPost_ret (v := .tuple #[.agg #[.slice V vn vc, .int .i64 0], .int .i64 (checkE S hs l)]) ?_ rfl ?_
              · rw [hE.out]
                exact results_cell_tmp Try.results54 rfl (run_loadVar_mid (P := Try.prog) Qz (G + 3) 0 33 _ _ (range_of hQg) Try.underlying33 rfl (by kernel_rfl))
              · refine ⟨V, vn, vc, rfl, hvc, ?_, hQb⟩
                rw [checkH_new hHn.out]
                exact (HV.out.below BA.out).fr hQf (fun k hk => by simp at hk; simp [hk]) (fun k hk => Or.inl (List.mem_cons_of_mem _ hk))
            · have hlt2 : ¬ l.ep < y.ep := by rw [hye.out]; exact hlt
              have hE : Hid (checkE S hs l = 0) := by unfold Hid; rw [hEn.out, if_neg hlt]
              go_wp2_with (refine wpList_store_row rfl 33 (.tmp 6) (.tmp 81) rfl (G + 3) #[.slice V vn vc, .int .i64 0] rfl (by first | rfl | kernel_rfl) _ _ (hh2 _) (by kernel_rfl) rfl (by kernel_rfl) ?_)
              generalize hQ : World.setRow _ _ _ = Qz
              have hQg : Qz.heap[G + 3]? = some (.cells #[.slice V vn vc, .int .i64 0] 33 (0, 0)) := by rw [← hQ]; exact setRow_heap _ _ _ _ _ _ (hh2 _)
              have hQf : Fr [G + 3] (u.alloc (.cells #[.int .i64 y.au, .slice y.dA y.dn y.dc, .slice y.bA y.bn y.bc, .int .i64 y.ep] 127)) Qz [G + 3] := by rw [← hQ]; exact setRow_fr _ _ _
              have hQb : Below w.heap.size w Qz := by rw [← hQ]; exact below_setRow (BW.out.trans (BA.out.mono BW.out.size)) (by have := hG.out; omega) _
              first | done | skip
              refine bodyPost_ret (v := .tuple #[.agg #[.slice V vn vc, .int .i64 0], .int .i64 (checkE S hs l)]) ?_ rfl ?_
              · rw [hE.out]
                exact results_cell_tmp Try.results54 rfl (run_loadVar_mid (P := Try.prog) Qz (G + 3) 0 33 _ _ (range_of hQg) Try.underlying33 rfl (by kernel_rfl))
              · refine ⟨V, vn, vc, rfl, hvc, ?_, hQb⟩
                rw [checkH_new hHn.out]
                exact (HV.out.below BA.out).fr hQf (fun k hk => by simp at hk; simp [hk]) (fun k hk => Or.inl (List.mem_cons_of_mem _ hk))
          · have hbe2 : ((str k.dg).toList == (str l.pv).toList) = false := by rw [eq_str, decide_eq_false hpe]
            have hbe : ((str k.dg).toList != (str l.pv).toList) = true := by rw [neq_str, decide_eq_false hpe]; rfl
            have hE : Hid (checkE S hs l = 17) := by unfold Hid; rw [hEn.out, if_neg hpe]
            go_wp2_with (refine wpList_store_row rfl 33 (.tmp 6) (.tmp 74) rfl (G + 3) #[.slice V vn vc, .int .i64 0] rfl (by first | rfl | kernel_rfl) _ _ (hh2 _) (by kernel_rfl) rfl (by kernel_rfl) ?_)
            generalize hQ : World.setRow _ _ _ = Qz
            have hQg : Qz.heap[G + 3]? = some (.cells #[.slice V vn vc, .int .i64 0] 33 (0, 0)) := by rw [← hQ]; exact setRow_heap _ _ _ _ _ _ (hh2 _)
            have hQf : Fr [G + 3] (u.alloc (.cells #[.int .i64 y.au, .slice y.dA y.dn y.dc, .slice y.bA y.bn y.bc, .int .i64 y.ep] 127)) Qz [G + 3] := by rw [← hQ]; exact setRow_fr _ _ _
            have hQb : Below w.heap.size w Qz := by rw [← hQ]; exact below_setRow (BW.out.trans (BA.out.mono BW.out.size)) (by have := hG.out; omega) _
            first | done | skip
            refine bodyPost_ret (v := .tuple #[.agg #[.slice V vn vc, .int .i64 0], .int .i64 (checkE S hs l)]) ?_ rfl ?_
            · rw [hE.out]
              exact results_cell_tmp Try.results54 rfl (run_loadVar_mid (P := Try.prog) Qz (G + 3) 0 33 _ _ (range_of hQg) Try.underlying33 rfl (by kernel_rfl))
            · refine ⟨V, vn, vc, rfl, hvc, ?_, hQb⟩
              rw [checkH_new hHn.out]
              exact (HV.out.below BA.out).fr hQf (fun k hk => by simp at hk; simp [hk]) (fun k hk => Or.inl (List.mem_cons_of_mem _ hk))
  · have hrN : decide (rightN l.au l.sq l.ep pn bn) = false := by rw [decide_eq_false_iff_not, ← hA.out, ← hBm.out]; exact fun h => hr ((rightL_N l).2 h)
    rw [hrN] at he
    subst he
    have hE : Hid (checkE S hs l = 1) := checkE_bad hr
    have hHn : Hid (¬ (rightL l ∧ l.sq ≤ (ofA S l.au).length)) := fun h => hr h.1
    clear hr hrN
    have r0 := range_keep R0.out BZ.out (by have := hWs.out; omega)
    have r1 := range_keep R1.out BZ.out (by have := hWs.out; omega)
    have r2 := range_keep R2.out BZ.out (by have := hWs.out; omega)
    have a0 := r0 0 _ rfl
    have v0 := r1 0 _ rfl
    have v1 := r1 1 _ rfl
    have l0 := r2 0 _ rfl
    have l1 := r2 1 _ rfl
    have l2 := r2 2 _ rfl
    have l3 := r2 3 _ rfl
    have l4 := r2 4 _ rfl
    have hh : z.heap[G + 3]? = some (.cells #[.slice none 0 0, .int .i64 0] 33 (0, 0)) := (BZ.out.block (G + 3) (by have := hWs.out; omega)).trans R3.out
    go_wp2_with (refine wpList_store_row rfl 33 (.tmp 6) (.tmp 15) rfl (G + 3) #[.slice V vn vc, .int .i64 0] rfl (by first | rfl | kernel_rfl) _ _ hh (by kernel_rfl) rfl (by kernel_rfl) ?_)
    generalize hQ : World.setRow _ _ _ = Qz
    have hQg : Qz.heap[G + 3]? = some (.cells #[.slice V vn vc, .int .i64 0] 33 (0, 0)) := by rw [← hQ]; exact setRow_heap _ _ _ _ _ _ hh
    have hQf : Fr [G + 3] z Qz [G + 3] := by rw [← hQ]; exact setRow_fr _ _ _
    have hQb : Below w.heap.size w Qz := by rw [← hQ]; exact below_setRow (BW.out.trans (BZ.out.mono BW.out.size)) (by have := hG.out; omega) _
    first | done | skip
    refine bodyPost_ret (v := .tuple #[.agg #[.slice V vn vc, .int .i64 0], .int .i64 (checkE S hs l)]) ?_ rfl ?_
    · rw [hE.out]
      exact results_cell_tmp Try.results54 rfl (run_loadVar_mid (P := Try.prog) Qz (G + 3) 0 33 _ _ (range_of hQg) Try.underlying33 rfl (by kernel_rfl))
    · refine ⟨V, vn, vc, rfl, hvc, ?_, hQb⟩
      rw [checkH_new hHn.out]
      exact (HV.out.below BZ.out).fr hQf (fun k hk => by simp at hk; simp [hk]) (fun k hk => Or.inl (List.mem_cons_of_mem _ hk))
end Go.Proofs.Ytabcbpcfleociaa
