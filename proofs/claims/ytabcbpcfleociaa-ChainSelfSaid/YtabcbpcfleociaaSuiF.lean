/- The ideal suite's Hash. (Printed by gen_suf.py.) -/
import Derived.Test.YtabcbpcfleociaaSuiE
import Derived.Test.YtabcbpcfleociaaReg
import Derived.WalkSpells
namespace Go.Proofs.Ytabcbpcfleociaa
open Go.RowKit Go.Maps
attribute [local go_sem ↓] Go.wp_at_zero Go.wp_at_succ
set_option linter.unusedSimpArgs false
set_option linter.unusedVariables false
theorem note_lt {own : List Nat} {w : World} {g : Nat} {hs : List (List UInt8)} {R : List Nat} (h : IdealAt w g hs own R) : ∀ k, k ∈ own → k < w.heap.size := by
  obtain ⟨A, c, b, Qs, f, hv⟩ := h
  exact hv.lt
set_option maxRecDepth 20000 in
set_option maxHeartbeats 1000000 in
theorem name_ (g : Nat) (hs : List (List UInt8)) (own R : List Nat) (Q : Option Addr) (qc : Nat) (h : List UInt8) (w : World) (hI : IdealAt w g hs own R) (hp : RdL w w.heap.size Q 1 [h]) (hh : h.length ≤ 1000000)
    (hn : hs.length ≤ 1000000) (hR : ∀ k, k ∈ R → k < w.heap.size) :
    Calls Try.prog 101 #[.pointer (some ⟨g, 0, none⟩), .int .u8 104, .slice Q 1 qc] w fun e w' => ∃ own' A c, e = .returned (.slice A 32 c) ∧ OwnS w' w.heap.size A 32 c ((hname (hs.idxOf h + 1)).map B8) ∧ IdealAt w' g (note hs h) own' R ∧ Fr own w w' own' := by
  obtain ⟨Y, hY⟩ : ∃ Y, Hid (Y = w.alloc (.cells #[.int .u8 104, .slice Q 1 qc] 68)) := ⟨_, Lib.hid rfl⟩
  have HB0 : Hid (Below w.heap.size w Y) := by rw [hY.out]; exact (Below.refl _ _).alloc (Nat.le_refl _) _
  have hsY : Y.heap.size = w.heap.size + 1 := by rw [hY.out]; exact szAlloc _ _
  obtain ⟨G, hG⟩ : ∃ g, Hid (g = w.heap.size) := ⟨_, Lib.hid rfl⟩
  have HRG : Hid (Y.rangeAt G 0 [.int .u8 104, .slice Q 1 qc]) := by
    rw [hY.out, hG.out]
    intro j v hj
    refine cell_blk (heap_alloc_new w _) _ ?_
    rw [Nat.zero_add, ← hj]; simp
  have hGY : Hid (G < Y.heap.size) := by unfold Hid; rw [hG.out, hsY]; exact Nat.lt_succ_self _
  have hGo : Hid (∀ k, k ∈ own → k < G) := by unfold Hid; rw [hG.out]; exact note_lt hI
  have IY := Lib.hid (hI.below HB0.out)
  have HP : Hid (∀ w', Below w.heap.size w w' → RdL w' w'.heap.size Q 1 [h]) := by
    intro w' hb
    refine ⟨hp.1, fun i l hl => ?_⟩
    obtain ⟨b, o, Ai, ci, e, hb', hc, hr, hci⟩ := (hp.to hb).2 i l hl
    have := hb.size
    exact ⟨b, o, Ai, ci, e, by omega, hc, hr.more (by omega), hci⟩
  have HR := Lib.hid hR
  clear hsY hI hp hR
  go_enter Try.func101, Try.ntmps101
  go_wp2_with fail
  rw [← hY.out, ← hG.out]
  obtain ⟨X, hX⟩ : ∃ W, Hid (W = Y.drew) := ⟨_, Lib.hid rfl⟩
  have dX : Below Y.heap.size Y X := by rw [hX.out]; exact below_drew (Below.refl _ _)
  have IX := Lib.hid (IY.out.below dX)
  have HBX := Lib.hid (HB0.out.trans (dX.mono HB0.out.size))
  have RX := Lib.hid (range_keep HRG.out dX hGY.out)
  have PX := Lib.hid (HP.out X HBX.out)
  have hGX := Lib.hid (Nat.lt_of_lt_of_le hGY.out dX.size)
  have FX : Hid (Fr own w X own) := Fr.below HBX.out
  refine wp_region_noPanic ?_
  refine wp_region_held_drew (S := fun w' => w'.rangeAt G 0 [.int .u8 104, .slice Q 1 qc]) (by kernel_rfl) (by rw [← hX.out]; exact RX.out) (fun hS => ?_)
  rw [← hX.out]
  clear hS
  have hS : X.rangeAt G 0 [.int .u8 104, .slice Q 1 qc] := RX.out
  refine wpAnyH_take (i := 0) (v := .agg #[.int .u8 104, .slice Q 1 qc]) rfl (by kernel_rfl) (by kernel_rfl) (by kernel_rfl) (fun _ _ _ h => h) (Or.inl ⟨by rfl, ?hy0⟩) hS ?rest0
  case hy0 => (intro w' hSw; have c0 := hSw 0 _ rfl; have c1 := hSw 1 _ rfl; go_simp; first | done | with_reducible rfl)
  try simp only [Act.put, List.getElem_toArray, List.getElem_cons_zero, List.getElem_cons_succ, List.setIfInBounds_toArray, List.set_cons_zero, List.set_cons_succ]
  refine wpAnyH_take (i := 1) (v := ?v1) rfl (by kernel_rfl) (by kernel_rfl) (by kernel_rfl) (fun _ _ _ h => h) (Or.inl ⟨by rfl, ?hy1⟩) hS ?rest1
  case hy1 => (intro w hSw; go_simp; first | done | with_reducible rfl)
  try simp only [Act.put, List.getElem_toArray, List.getElem_cons_zero, List.getElem_cons_succ, List.setIfInBounds_toArray, List.set_cons_zero, List.set_cons_succ]
  refine wpAnyH_take (i := 2) (v := ?v2) rfl (by kernel_rfl) (by kernel_rfl) (by kernel_rfl) (fun _ _ _ h => h) (Or.inl ⟨by rfl, ?hy2⟩) hS ?rest2
  case hy2 => (intro w hSw; go_simp; first | done | with_reducible rfl)
  try simp only [Act.put, List.getElem_toArray, List.getElem_cons_zero, List.getElem_cons_succ, List.setIfInBounds_toArray, List.set_cons_zero, List.set_cons_succ]
  refine wpAnyH_take (i := 3) (v := ?v3) rfl (by kernel_rfl) (by kernel_rfl) (by kernel_rfl) (fun _ _ _ h => h) (Or.inl ⟨by rfl, ?hy3⟩) hS ?rest3
  case hy3 => (intro w hSw; go_simp; first | done | with_reducible rfl)
  try simp only [Act.put, List.getElem_toArray, List.getElem_cons_zero, List.getElem_cons_succ, List.setIfInBounds_toArray, List.set_cons_zero, List.set_cons_succ]
  refine wpAnyH_take (i := 4) (v := .agg #[.int .u8 104, .slice Q 1 qc]) rfl (by kernel_rfl) (by kernel_rfl) (by kernel_rfl) (fun _ _ _ h => h) (Or.inl ⟨by rfl, ?hy4⟩) hS ?rest4
  case hy4 => (intro w' hSw; have c0 := hSw 0 _ rfl; have c1 := hSw 1 _ rfl; go_simp; first | done | with_reducible rfl)
  try simp only [Act.put, List.getElem_toArray, List.getElem_cons_zero, List.getElem_cons_succ, List.setIfInBounds_toArray, List.set_cons_zero, List.set_cons_succ]
  refine wpAnyH_ready (rs := [5]) (by kernel_rfl) (by simp) ?_
  refine AllReadyH.cons rfl (fun K hK => ?_) AllReadyH.nil
  go_simp
  refine (number_ g hs own R Q qc h X IX.out PX.out hh hn (fun k hk => Nat.lt_of_lt_of_le (HR.out k hk) HBX.out.size)).mono ?_
  rintro e u ⟨own', rfl, iu, fu⟩
  have hSu : u.rangeAt G 0 [.int .u8 104, .slice Q 1 qc] := fun j v hj => (World.cell?_of_block (a := ⟨G, 0 + j, none⟩) (fu.block G hGX.out (fun hm => Nat.lt_irrefl _ (hGo.out G hm)))).trans (RX.out j v hj)
  have IU := Lib.hid iu
  have FU := Lib.hid (FX.out.trans fu)
  have HSU := Lib.hid hSu
  have HNX : Hid (hs.idxOf h + 1 < 4611686018427387904) := by have := List.idxOf_le_length (a := h) (l := hs); unfold Hid; omega
  obtain ⟨k, hk⟩ : ∃ k, Hid (k = hs.idxOf h + 1) := ⟨_, Lib.hid rfl⟩
  rw [← hk.out] at HNX ⊢
  clear iu fu
  go_wp2_with fail
  refine hK.out _ _ hSu ?_
  intro hS2
  clear hK K hS2 hS
  try simp only [Act.put, List.getElem_toArray, List.getElem_cons_zero, List.getElem_cons_succ, List.setIfInBounds_toArray, List.set_cons_zero, List.set_cons_succ]
  refine wpAnyH_ready (rs := [6]) (by kernel_rfl) (by simp) ?_
  refine AllReadyH.cons rfl (fun K hK => ?_) AllReadyH.nil
  go_simp
  refine (called_ Q 1 qc k u HNX.out).mono ?_
  rintro e v ⟨A, c, rfl, o, b⟩
  have hSv : v.rangeAt G 0 [.int .u8 104, .slice Q 1 qc] := range_keep HSU.out b (World.block_lt_of_cell? _ _ (HSU.out 0 _ rfl))
  have IV := Lib.hid (IU.out.below b)
  have FV := Lib.hid (FU.out.trans (Fr.below b))
  have O := Lib.hid (o.mono FU.out.size)
  clear o b
  go_wp2_with fail
  refine hK.out _ _ hSv ?_
  intro hS2
  clear hK K hS2
  try simp only [Act.put, List.getElem_toArray, List.getElem_cons_zero, List.getElem_cons_succ, List.setIfInBounds_toArray, List.set_cons_zero, List.set_cons_succ]
  have hS : v.rangeAt G 0 [.int .u8 104, .slice Q 1 qc] := hSv
  refine wpAnyH_take (i := 7) (v := ?v7) rfl (by kernel_rfl) (by kernel_rfl) (by kernel_rfl) (fun _ _ _ h => h) (Or.inl ⟨by rfl, ?hy7⟩) hS ?rest7
  case hy7 => (intro w hSw; go_simp; first | done | with_reducible rfl)
  try simp only [Act.put, List.getElem_toArray, List.getElem_cons_zero, List.getElem_cons_succ, List.setIfInBounds_toArray, List.set_cons_zero, List.set_cons_succ]
  refine wpAnyH_done (by kernel_rfl) (NoPanic.normal ?_) _
  go_wp2_with fail
  go_ret
  exact ⟨own', A, c, rfl, by rw [← hk.out]; exact O.out, IV.out, FV.out⟩
theorem neq_map {t k e : TypeId} (h : Try.prog.underlying t = some (.map k e)) (b : Nat) (w : World) : (binOp .neq t (.map (some b)) (.map none)).run Try.prog w = .ok (.bool true) w := by
  simp only [binOp]
  simp [Op.equal, Op.maxDepth, run_equalIn_map_nil w 9999 t k e (some b) h]
set_option maxRecDepth 20000 in
set_option maxHeartbeats 1000000 in
theorem made_ (g : Nat) (hs : List (List UInt8)) (own R : List Nat) (w : World) (hI : IdealAt w g hs own R) :
    Calls Try.prog 63 #[.pointer (some ⟨g, 0, none⟩)] w fun e w' => e = .returned (.bool true) ∧ w' = w := by
  obtain ⟨A, c, b, Qs, f, hv⟩ := hI
  have h1 : w.cell? ⟨g, 1, none⟩ = some (.map (some b)) := cell_blk hv.blk 1 rfl
  have h2 := neq_map Try.underlying116 b w
  clear hv
  go_enter Try.func63, Try.ntmps63
  go_wp2_with fail
  go_ret
  exact ⟨rfl, rfl⟩
set_option maxHeartbeats 1000000 in
theorem hash_ (g : Nat) (hs : List (List UInt8)) (own R : List Nat) (A : Option Addr) (n c : Nat) (h : List UInt8) (w : World) (hI : IdealAt w g hs own R) (hr : Rd w w.heap.size 1 A n (h.map B8)) (hnc : n ≤ c) (hh : n ≤ 1000000)
    (hn : hs.length ≤ 1000000) (hR : ∀ k, k ∈ R → k < w.heap.size) :
    Calls Try.prog 100 #[.pointer (some ⟨g, 0, none⟩), .slice A n c] w fun e w' => ∃ own' A' c', e = .returned (.slice A' 32 c') ∧ OwnS w' w.heap.size A' 32 c' ((hname (hs.idxOf h + 1)).map B8) ∧ IdealAt w' g (note hs h) own' R ∧ Fr own w w' own' := by
  have hl : h.length = n := by simpa using hr.len
  obtain ⟨Y, hY⟩ : ∃ Y, Hid (Y = w.alloc (.cells #[.slice A n c] 38)) := ⟨_, Lib.hid rfl⟩
  have HB0 : Hid (Below w.heap.size w Y) := by rw [hY.out]; exact (Below.refl _ _).alloc (Nat.le_refl _) _
  have hsY : Y.heap.size = w.heap.size + 1 := by rw [hY.out]; exact szAlloc _ _
  have IY := Lib.hid (hI.below HB0.out)
  have hP : Hid (RdL Y Y.heap.size (some ⟨w.heap.size, 0, none⟩) 1 [h]) := by
    refine ⟨rfl, fun i l hl' => ?_⟩
    rcases i with _ | i
    · simp at hl'
      subst hl'
      refine ⟨w.heap.size, 0, A, c, rfl, by omega, ?_, ?_, by omega⟩
      · rw [hY.out, hl]; exact cell_blk (heap_alloc_new w _) 0 rfl
      · rw [hl]; exact hr.at0 HB0.out (by omega)
    · simp at hl'
  have HR : Hid (∀ k, k ∈ R → k < Y.heap.size) := fun k hk => Nat.lt_of_lt_of_le (hR k hk) HB0.out.size
  have hlb : h.length ≤ 1000000 := by omega
  have HL := Lib.hid hl
  have HI := Lib.hid hI
  clear hsY hR hr hl hI
  go_enter Try.func100, Try.ntmps100
  go_wp2_with fail
  refine (made_ g hs own R w HI.out).mono ?_
  rintro e w1 ⟨rfl, rfl⟩
  go_wp2_with fail
  rw [← hY.out]
  refine (name_ g hs own R _ 1 h Y IY.out hP.out hlb hn HR.out).mono ?_
  rintro e u ⟨own', A', c', rfl, o, iu, fu⟩
  have O := Lib.hid (o.mono HB0.out.size)
  have IU := Lib.hid iu
  have FU : Hid (Fr own _ u own') := (Fr.below HB0.out).trans fu
  clear o iu fu
  go_wp2_with fail
  go_ret
  exact ⟨own', A', c', rfl, O.out, IU.out, FU.out⟩
theorem ideal_new (w : World) (T : TypeId) : IdealAt ((w.alloc (.map #[] 0)).alloc (.cells #[.slice none 0 0, .map (some w.heap.size), .int .i64 0] 120)) (w.heap.size + 1) [] [w.heap.size + 1, w.heap.size] [] := by
  have h1 : (w.alloc (.map #[] 0)).heap.size = w.heap.size + 1 := szAlloc _ _
  refine ⟨none, 0, w.heap.size, [], fun _ => .int .i64 0, ⟨?_, ?_, fun l => by simp [numb], World.ownsRow_nil _ _ _ _, rfl, fun i q h hq => by simp at hq, by simp, by simp, fun t ht => (by cases ht), fun k hk => ?_⟩⟩
  · have h := heap_alloc_new (w.alloc (.map #[] 0)) (.cells #[.slice none 0 0, .map (some w.heap.size), .int .i64 0] 120)
    rw [h1] at h
    exact h
  · exact (MapV.made Try.prog 9 w (.int .i64 0)).same (heap_alloc_old _ _ (by rw [szAlloc]; exact Nat.lt_succ_self _))
  · rw [szAlloc, h1]
    simp at hk
    omega
set_option maxHeartbeats 1000000 in
theorem newIdeal_ (w : World) : Calls Try.prog 25 #[] w fun e w' => ∃ g own, e = .returned (.pointer (some ⟨g, 0, none⟩)) ∧ IdealAt w' g [] own [] ∧ (∀ k, k ∈ own → w.heap.size ≤ k) ∧ Below w.heap.size w w' := by
  have hmm := @run_makeMap Try.prog
  have HI := Lib.hid (ideal_new w 0)
  have HB : Hid (Below w.heap.size w ((w.alloc (.map #[] 0)).alloc (.cells #[.slice none 0 0, .map (some w.heap.size), .int .i64 0] 120))) := ((Below.refl _ _).alloc (Nat.le_refl _) _).alloc (by rw [szAlloc]; omega) _
  go_enter Try.func25, Try.ntmps25
  go_wp2_with fail
  go_ret
  refine ⟨w.heap.size + 1, [w.heap.size + 1, w.heap.size], ?_, HI.out, fun k hk => ?_, HB.out⟩
  · first | rfl | simp [szAlloc]
  · simp at hk; omega
set_option maxHeartbeats 1000000 in
theorem len_ (g : Nat) (hs : List (List UInt8)) (own R : List Nat) (w : World) (hI : IdealAt w g hs own R) :
    Calls Try.prog 45 #[.pointer (some ⟨g, 0, none⟩)] w fun e w' => e = .returned (.int .i64 hs.length) ∧ w' = w := by
  have HI := Lib.hid hI
  obtain ⟨A, c, b, Qs, f, hv⟩ := hI
  have h0 : w.cell? ⟨g, 0, none⟩ = some (.slice A hs.length c) := cell_blk hv.blk 0 rfl
  clear hv
  go_enter Try.func45, Try.ntmps45
  go_wp2_with fail
  refine (made_ g hs own R w HI.out).mono ?_
  rintro e w1 ⟨rfl, rfl⟩
  go_wp2_with fail
  go_ret
  exact ⟨rfl, rfl⟩
end Go.Proofs.Ytabcbpcfleociaa
