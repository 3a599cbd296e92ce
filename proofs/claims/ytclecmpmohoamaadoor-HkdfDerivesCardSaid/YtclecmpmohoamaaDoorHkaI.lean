/- The walk of the law HkdfDerives. (Printed by gen_hki.py.) -/
import Derived.Test.YtclecmpmohoamaaDoorHkaG
import Derived.Test.YtclecmpmohoamaaDoorFrame
namespace Go.Proofs.YtclecmpmohoamaaDoor
open Go.ChangeShapes Go.WideShapes Go.ChangeAt Go.RowKit
attribute [local go_sem ↓] Go.wp_at_zero Go.wp_at_succ
set_option linter.unusedSimpArgs false
set_option linter.unusedVariables false
theorem field_bytes {H : Type} {enc : TypeId × Value → H} {P : Program} {w : World} {sp : Nat → Bool} {held : Bool} {t e : TypeId} {v : Value} {x : DataW H × List MemPlace} {fuel : Nat}
    (ht : P.underlying t = some (.slice e)) (he : P.underlying e = some (.int .u8)) (hc : P.cellsOf e = 1) (hf : DataW.trod enc P w 0 sp held fuel t [v] = some x) :
    ∃ (A : Option Addr) (n c : Nat) (l : List UInt8), v = .slice A n c ∧ Rd w w.heap.size 1 A n (l.map B8) ∧ n ≤ c := by
  rcases open_ints ht he hc hf with ⟨hcs, _⟩ | ⟨x, len, cap, zs, hcs, _, hl, hm, hz, hx, hcell, hwz⟩
  · simp at hcs
    subst hcs
    exact ⟨none, 0, 0, [], rfl, Rd.nil _ _ _ _, Nat.le_refl _⟩
  · simp at hcs
    subst hcs
    have hzl : len ≤ zs.length := by rw [hz]; split <;> omega
    refine ⟨some x, len, cap, (zs.take len).map fun z => UInt8.ofNat z.toNat, rfl, ⟨by simp; omega, fun h0 => ?_⟩, hl⟩
    obtain ⟨b, off, spot⟩ := x
    have hc0 := hcell 0 (by omega)
    have hspot : spot = none := by simpa [Addr.add] using World.cell?_spot hc0
    subst hspot
    have hb : b < w.heap.size := by
      simp only [Addr.add, if_true] at hc0
      rcases Nat.lt_or_ge b w.heap.size with h | h
      · exact h
      · simp [World.cell?, Array.getElem?_eq_none h] at hc0
    refine ⟨b, off, rfl, hb, fun j u hu => ?_⟩
    rw [List.map_map, List.getElem?_map] at hu
    cases hj : (zs.take len)[j]? with
    | none => rw [hj] at hu; simp at hu
    | some z =>
      rw [hj] at hu
      simp only [Option.map_some, Option.some.injEq] at hu
      subst hu
      have hjn : j < len := by
        rcases Nat.lt_or_ge j len with h | h
        · exact h
        · rw [List.getElem?_eq_none (by simp; omega)] at hj; cases hj
      rw [List.getElem?_take_of_lt hjn] at hj
      have h1 := hcell j (by omega)
      rw [addr_add] at h1
      have hzj : zs.getD j 0 = z := by simp [List.getD, hj]
      rw [h1, hzj]
      have hw := hwz z (List.mem_of_getElem? hj)
      have hb := bounds_u8 hw
      simp only [Function.comp, B8, Option.some.injEq, Value.int.injEq, true_and]
      rw [UInt8.toNat_ofNat']
      omega

set_option maxRecDepth 20000 in
set_option maxHeartbeats 8000000 in
theorem hkdfDerives_walk (A0 : Option Addr) (n0 c0 : Nat) (salt : List UInt8) (A : Option Addr) (n c : Nat) (key : List UInt8) (A' : Option Addr) (n' c' : Nat) (info : List UInt8) (x : Int) (w : World) (hr0 : Rd w w.heap.size 1 A0 n0 (salt.map B8)) (hc0 : n0 ≤ c0) (hr : Rd w w.heap.size 1 A n (key.map B8)) (hc : n ≤ c) (hr' : Rd w w.heap.size 1 A' n' (info.map B8)) (hc' : n' ≤ c') (hx : (Lit.int .i64 x).wf = true) (hL : LayS w) :
    Calls Tryd.prog 14 #[.agg #[.slice A0 n0 c0, .slice A n c, .slice A' n' c', .int .i64 x]] w fun r w' => r = .returned (.bool true) ∧ Below w.heap.size w w' := by
  obtain rfl : salt.length = n0 := by simpa using hr0.len
  obtain rfl : key.length = n := by simpa using hr.len
  obtain rfl : info.length = n' := by simpa using hr'.len
  obtain ⟨W0, hW0⟩ : ∃ W, Hid (W = w.alloc (.cells #[.slice A0 salt.length c0, .slice A key.length c, .slice A' info.length c', .int .i64 x] 44)) := ⟨_, Lib.hid rfl⟩
  have hb0 : Below w.heap.size w W0 := by rw [hW0.out]; exact (Below.refl _ _).alloc (Nat.le_refl _) _
  have hK : Hid (W0.heap[w.heap.size]? = some (.cells #[.slice A0 salt.length c0, .slice A key.length c, .slice A' info.length c', .int .i64 x] 44 (0, 0))) := by rw [hW0.out]; exact heap_alloc_new w _
  have hgl : w.heap.size < W0.heap.size := by rw [hW0.out]; simp
  have k0 : (w.alloc (.cells #[.slice A0 salt.length c0, .slice A key.length c, .slice A' info.length c', .int .i64 x] 44)).cell? ⟨w.heap.size, 0, none⟩ = some (.slice A0 salt.length c0) := cell_blk (heap_alloc_new w _) 0 rfl
  have k1 : (w.alloc (.cells #[.slice A0 salt.length c0, .slice A key.length c, .slice A' info.length c', .int .i64 x] 44)).cell? ⟨w.heap.size, 1, none⟩ = some (.slice A key.length c) := cell_blk (heap_alloc_new w _) 1 rfl
  have k2 : (w.alloc (.cells #[.slice A0 salt.length c0, .slice A key.length c, .slice A' info.length c', .int .i64 x] 44)).cell? ⟨w.heap.size, 2, none⟩ = some (.slice A' info.length c') := cell_blk (heap_alloc_new w _) 2 rfl
  have hL0 := hL.go' hb0
  by_cases h3 : 4000 < salt.length
  · have h3a : (4000 : Int) < salt.length := by omega
    go_enter Tryd.func14, Tryd.ntmps14
    go_wp2_with fail
    rw [← hW0.out]
    refine (awake7_any W0 hL0).mono ?_
    rintro e w1 ⟨rfl, hb⟩
    go_wp2_with fail
    go_ret
    exact ⟨rfl, hb0.trans (hb.mono hb0.size)⟩
  have h3a : ¬ (4000 : Int) < salt.length := by omega
  by_cases h4 : 4000 < key.length
  · have h4a : (4000 : Int) < key.length := by omega
    go_enter Tryd.func14, Tryd.ntmps14
    go_wp2_with fail
    rw [← hW0.out]
    refine (awake7_any W0 hL0).mono ?_
    rintro e w1 ⟨rfl, hb⟩
    go_wp2_with fail
    go_ret
    exact ⟨rfl, hb0.trans (hb.mono hb0.size)⟩
  have h4a : ¬ (4000 : Int) < key.length := by omega
  by_cases h5 : 400 < info.length
  · have h5a : (400 : Int) < info.length := by omega
    go_enter Tryd.func14, Tryd.ntmps14
    go_wp2_with fail
    rw [← hW0.out]
    refine (awake7_any W0 hL0).mono ?_
    rintro e w1 ⟨rfl, hb⟩
    go_wp2_with fail
    go_ret
    exact ⟨rfl, hb0.trans (hb.mono hb0.size)⟩
  have h5a : ¬ (400 : Int) < info.length := by omega
  have HL0 := Lib.hid hL0
  have HR0 := Lib.hid (hr0.to hb0)
  have HR := Lib.hid (hr.to hb0)
  have HR' := Lib.hid (hr'.to hb0)
  have Hb0 := Lib.hid hb0
  clear hL hr hr' hr0 hb0 hL0
  by_cases hxr : x < 0 ∨ 8160 < x
  · go_enter Tryd.func14, Tryd.ntmps14
    go_wp2_with fail
    rw [← hW0.out]
    clear k0 k1 k2
    obtain ⟨X, hX⟩ : ∃ W, Hid (W = W0.drew) := ⟨_, Lib.hid rfl⟩
    have dX : Below W0.heap.size W0 X := by rw [hX.out]; exact below_drew (Below.refl _ _)
    have hBX : Below W0.heap.size W0 X := dX
    have hKX : Hid (∀ w', Below X.heap.size X w' → w'.heap[w.heap.size]? = some (.cells #[.slice A0 salt.length c0, .slice A key.length c, .slice A' info.length c', .int .i64 x] 44 (0, 0))) := fun w' h => (h.block w.heap.size (Nat.lt_of_lt_of_le hgl hBX.size)).trans ((hBX.block w.heap.size hgl).trans hK.out)
    have Q0 := Lib.hid (HR0.out.to hBX)
    have Q1 := Lib.hid (HR.out.to hBX)
    have Q2 := Lib.hid (HR'.out.to hBX)
    have HL := Lib.hid (HL0.out.go' hBX)
    have hB := Lib.hid hBX
    refine wp_region_noPanic ?_
    refine wp_region_held_drew (S := fun w' => Below X.heap.size X w') (by kernel_rfl) (by rw [hX.out]; exact Below.refl _ _) (fun hS => ?_)
    rw [← hX.out]
    clear hS
    have hS : Below X.heap.size X X := Below.refl _ _
    refine wpAnyH_take (i := 0) (v := ?vo0) rfl (by kernel_rfl) (by kernel_rfl) (by kernel_rfl) (fun _ _ _ h => h) (Or.inl ⟨by rfl, ?hyo0⟩) hS ?resto0
    case hyo0 => (intro w hSw; go_simp; first | done | with_reducible rfl)
    try simp only [Act.put, List.getElem_toArray, List.getElem_cons_zero, List.getElem_cons_succ, List.setIfInBounds_toArray, List.set_cons_zero, List.set_cons_succ]
    refine wpAnyH_take (i := 1) (v := ?vo1) rfl (by kernel_rfl) (by kernel_rfl) (by kernel_rfl) (fun _ _ _ h => h) (Or.inl ⟨by rfl, ?hyo1⟩) hS ?resto1
    case hyo1 => (intro w hSw; have hcv := cell_blk (hKX.out w hSw) 0 rfl; go_simp; first | done | with_reducible rfl)
    try simp only [Act.put, List.getElem_toArray, List.getElem_cons_zero, List.getElem_cons_succ, List.setIfInBounds_toArray, List.set_cons_zero, List.set_cons_succ]
    refine wpAnyH_take (i := 3) (v := ?vo3) rfl (by kernel_rfl) (by kernel_rfl) (by kernel_rfl) (fun _ _ _ h => h) (Or.inl ⟨by rfl, ?hyo3⟩) hS ?resto3
    case hyo3 => (intro w hSw; go_simp; first | done | with_reducible rfl)
    try simp only [Act.put, List.getElem_toArray, List.getElem_cons_zero, List.getElem_cons_succ, List.setIfInBounds_toArray, List.set_cons_zero, List.set_cons_succ]
    refine wpAnyH_take (i := 4) (v := ?vo4) rfl (by kernel_rfl) (by kernel_rfl) (by kernel_rfl) (fun _ _ _ h => h) (Or.inl ⟨by rfl, ?hyo4⟩) hS ?resto4
    case hyo4 => (intro w hSw; have hcv := cell_blk (hKX.out w hSw) 1 rfl; go_simp; first | done | with_reducible rfl)
    try simp only [Act.put, List.getElem_toArray, List.getElem_cons_zero, List.getElem_cons_succ, List.setIfInBounds_toArray, List.set_cons_zero, List.set_cons_succ]
    refine wpAnyH_take (i := 6) (v := ?vo6) rfl (by kernel_rfl) (by kernel_rfl) (by kernel_rfl) (fun _ _ _ h => h) (Or.inl ⟨by rfl, ?hyo6⟩) hS ?resto6
    case hyo6 => (intro w hSw; go_simp; first | done | with_reducible rfl)
    try simp only [Act.put, List.getElem_toArray, List.getElem_cons_zero, List.getElem_cons_succ, List.setIfInBounds_toArray, List.set_cons_zero, List.set_cons_succ]
    refine wpAnyH_take (i := 7) (v := ?vo7) rfl (by kernel_rfl) (by kernel_rfl) (by kernel_rfl) (fun _ _ _ h => h) (Or.inl ⟨by rfl, ?hyo7⟩) hS ?resto7
    case hyo7 => (intro w hSw; have hcv := cell_blk (hKX.out w hSw) 2 rfl; go_simp; first | done | with_reducible rfl)
    try simp only [Act.put, List.getElem_toArray, List.getElem_cons_zero, List.getElem_cons_succ, List.setIfInBounds_toArray, List.set_cons_zero, List.set_cons_succ]
    refine wpAnyH_take (i := 9) (v := ?vo9) rfl (by kernel_rfl) (by kernel_rfl) (by kernel_rfl) (fun _ _ _ h => h) (Or.inl ⟨by rfl, ?hyo9⟩) hS ?resto9
    case hyo9 => (intro w hSw; go_simp; first | done | with_reducible rfl)
    try simp only [Act.put, List.getElem_toArray, List.getElem_cons_zero, List.getElem_cons_succ, List.setIfInBounds_toArray, List.set_cons_zero, List.set_cons_succ]
    refine wpAnyH_take (i := 10) (v := ?vo10) rfl (by kernel_rfl) (by kernel_rfl) (by kernel_rfl) (fun _ _ _ h => h) (Or.inl ⟨by rfl, ?hyo10⟩) hS ?resto10
    case hyo10 => (intro w hSw; have hcv := cell_blk (hKX.out w hSw) 3 rfl; go_simp; first | done | with_reducible rfl)
    try simp only [Act.put, List.getElem_toArray, List.getElem_cons_zero, List.getElem_cons_succ, List.setIfInBounds_toArray, List.set_cons_zero, List.set_cons_succ]
    refine wpAnyH_ready (rs := [2]) (by kernel_rfl) (by simp) ?_
    refine AllReadyH.cons rfl (fun K hK => ?_) AllReadyH.nil
    go_simp
    refine (own7_any A0 _ c0 salt _ Q0.out (by omega)).mono ?_
    rintro e u1 ⟨B1, d1, rfl, o1, p11⟩
    have kd1 := own_cap o1
    have Z1 := Lib.hid (Rd.of_own o1)
    clear o1
    replace hKX := (show Hid (∀ w', Below u1.heap.size u1 w' → w'.heap[w.heap.size]? = some (.cells #[.slice A0 salt.length c0, .slice A key.length c, .slice A' info.length c', .int .i64 x] 44 (0, 0))) from fun w' h => hKX.out w' (p11.trans (h.mono p11.size)))
    replace Q1 := Lib.hid (Q1.out.to p11)
    replace Q2 := Lib.hid (Q2.out.to p11)
    replace HL := Lib.hid (HL.out.go p11)
    replace hB := Lib.hid (hB.out.trans (p11.mono hB.out.size))
    go_wp2_with fail
    refine hK.out _ _ p11 ?_
    intro hS
    clear hK K
    try simp only [Act.put, List.getElem_toArray, List.getElem_cons_zero, List.getElem_cons_succ, List.setIfInBounds_toArray, List.set_cons_zero, List.set_cons_succ]
    refine wpAnyH_strong (S2 := fun w' => Below u1.heap.size u1 w') (fun w' h' => p11.trans (h'.mono p11.size)) _ _ _ _ ?_
    clear hS
    have hS : Below u1.heap.size u1 u1 := Below.refl _ _
    refine wpAnyH_ready (rs := [5]) (by kernel_rfl) (by simp) ?_
    refine AllReadyH.cons rfl (fun K hK => ?_) AllReadyH.nil
    go_simp
    refine (own7_any A _ c key _ Q1.out (by omega)).mono ?_
    rintro e u2 ⟨B2, d2, rfl, o2, p12⟩
    have kd2 := own_cap o2
    have Z2 := Lib.hid (Rd.of_own o2)
    clear o2
    replace hKX := (show Hid (∀ w', Below u2.heap.size u2 w' → w'.heap[w.heap.size]? = some (.cells #[.slice A0 salt.length c0, .slice A key.length c, .slice A' info.length c', .int .i64 x] 44 (0, 0))) from fun w' h => hKX.out w' (p12.trans (h.mono p12.size)))
    replace Z1 := Lib.hid (Z1.out.to p12)
    replace Q2 := Lib.hid (Q2.out.to p12)
    replace HL := Lib.hid (HL.out.go p12)
    replace hB := Lib.hid (hB.out.trans (p12.mono hB.out.size))
    go_wp2_with fail
    refine hK.out _ _ p12 ?_
    intro hS
    clear hK K
    try simp only [Act.put, List.getElem_toArray, List.getElem_cons_zero, List.getElem_cons_succ, List.setIfInBounds_toArray, List.set_cons_zero, List.set_cons_succ]
    refine wpAnyH_strong (S2 := fun w' => Below u2.heap.size u2 w') (fun w' h' => p12.trans (h'.mono p12.size)) _ _ _ _ ?_
    clear hS
    have hS : Below u2.heap.size u2 u2 := Below.refl _ _
    refine wpAnyH_ready (rs := [8]) (by kernel_rfl) (by simp) ?_
    refine AllReadyH.cons rfl (fun K hK => ?_) AllReadyH.nil
    go_simp
    refine (own7_any A' _ c' info _ Q2.out (by omega)).mono ?_
    rintro e u3 ⟨B3, d3, rfl, o3, p13⟩
    have kd3 := own_cap o3
    have Z3 := Lib.hid (Rd.of_own o3)
    clear o3
    replace hKX := (show Hid (∀ w', Below u3.heap.size u3 w' → w'.heap[w.heap.size]? = some (.cells #[.slice A0 salt.length c0, .slice A key.length c, .slice A' info.length c', .int .i64 x] 44 (0, 0))) from fun w' h => hKX.out w' (p13.trans (h.mono p13.size)))
    replace Z1 := Lib.hid (Z1.out.to p13)
    replace Z2 := Lib.hid (Z2.out.to p13)
    replace HL := Lib.hid (HL.out.go p13)
    replace hB := Lib.hid (hB.out.trans (p13.mono hB.out.size))
    go_wp2_with fail
    refine hK.out _ _ p13 ?_
    intro hS
    clear hK K
    try simp only [Act.put, List.getElem_toArray, List.getElem_cons_zero, List.getElem_cons_succ, List.setIfInBounds_toArray, List.set_cons_zero, List.set_cons_succ]
    refine wpAnyH_strong (S2 := fun w' => Below u3.heap.size u3 w') (fun w' h' => p13.trans (h'.mono p13.size)) _ _ _ _ ?_
    clear hS
    have hS : Below u3.heap.size u3 u3 := Below.refl _ _
    refine wpAnyH_ready (rs := [11]) (by kernel_rfl) (by simp) ?_
    refine AllReadyH.cons rfl (fun K hK => ?_) AllReadyH.nil
    go_simp
    refine (pDerive_out B1 _ d1 salt B2 _ d2 key B3 _ d3 x _ Z1.out Z2.out kd2 (by omega) (by omega) hxr HL.out).mono ?_
    rintro e u4 ⟨rfl, p14⟩
    replace hB := Lib.hid (hB.out.trans (p14.mono hB.out.size))
    go_wp2_with fail
    refine hK.out _ _ p14 ?_
    intro hS
    clear hK K
    try simp only [Act.put, List.getElem_toArray, List.getElem_cons_zero, List.getElem_cons_succ, List.setIfInBounds_toArray, List.set_cons_zero, List.set_cons_succ]
    refine wpAnyH_take (i := 12) (v := ?vo12) rfl (by kernel_rfl) (by kernel_rfl) (by kernel_rfl) (fun _ _ _ h => h) (Or.inl ⟨by rfl, ?hyo12⟩) hS ?resto12
    case hyo12 => (intro w hSw; go_simp; first | done | with_reducible rfl)
    try simp only [Act.put, List.getElem_toArray, List.getElem_cons_zero, List.getElem_cons_succ, List.setIfInBounds_toArray, List.set_cons_zero, List.set_cons_succ]
    refine wpAnyH_take (i := 13) (v := ?vo13) rfl (by kernel_rfl) (by kernel_rfl) (by kernel_rfl) (fun _ _ _ h => h) (Or.inl ⟨by rfl, ?hyo13⟩) hS ?resto13
    case hyo13 => (intro w hSw; go_simp; first | done | with_reducible rfl)
    try simp only [Act.put, List.getElem_toArray, List.getElem_cons_zero, List.getElem_cons_succ, List.setIfInBounds_toArray, List.set_cons_zero, List.set_cons_succ]
    refine wpAnyH_take (i := 14) (v := ?vo14) rfl (by kernel_rfl) (by kernel_rfl) (by kernel_rfl) (fun _ _ _ h => h) (Or.inl ⟨by rfl, ?hyo14⟩) hS ?resto14
    case hyo14 => (intro w hSw; go_simp; first | done | with_reducible rfl)
    try simp only [Act.put, List.getElem_toArray, List.getElem_cons_zero, List.getElem_cons_succ, List.setIfInBounds_toArray, List.set_cons_zero, List.set_cons_succ]
    refine wpAnyH_take (i := 15) (v := ?vo15) rfl (by kernel_rfl) (by kernel_rfl) (by kernel_rfl) (fun _ _ _ h => h) (Or.inl ⟨by rfl, ?hyo15⟩) hS ?resto15
    case hyo15 => (intro w hSw; go_simp; first | done | with_reducible rfl)
    try simp only [Act.put, List.getElem_toArray, List.getElem_cons_zero, List.getElem_cons_succ, List.setIfInBounds_toArray, List.set_cons_zero, List.set_cons_succ]
    refine wpAnyH_take (i := 16) (v := ?vo16) rfl (by kernel_rfl) (by kernel_rfl) (by kernel_rfl) (fun _ _ _ h => h) (Or.inl ⟨by rfl, ?hyo16⟩) hS ?resto16
    case hyo16 => (intro w hSw; go_simp; first | done | with_reducible rfl)
    try simp only [Act.put, List.getElem_toArray, List.getElem_cons_zero, List.getElem_cons_succ, List.setIfInBounds_toArray, List.set_cons_zero, List.set_cons_succ]
    refine wpAnyH_done (by kernel_rfl) (NoPanic.normal ?_) _
    have hK4 := (hB.out.block w.heap.size hgl).trans hK.out
    have k0 : u4.cell? ⟨w.heap.size, 0, none⟩ = some (.slice A0 salt.length c0) := cell_blk hK4 0 rfl
    have k1 : u4.cell? ⟨w.heap.size, 1, none⟩ = some (.slice A key.length c) := cell_blk hK4 1 rfl
    have k2 : u4.cell? ⟨w.heap.size, 2, none⟩ = some (.slice A' info.length c') := cell_blk hK4 2 rfl
    have k3 : u4.cell? ⟨w.heap.size, 3, none⟩ = some (.int .i64 x) := cell_blk hK4 3 rfl
    go_wp2_with fail
    refine (rDerive_out A0 _ c0 salt A _ c key A' _ c' x u4 (HR0.out.to hB.out) (HR.out.to hB.out) (by omega) (by omega) hxr).mono ?_
    rintro e u5 ⟨rfl, hb5⟩
    have e1 := conv8 u5 none 0 0 [] (Rd.nil _ _ _ _)
    have hB5 : Hid (Below W0.heap.size W0 u5) := hB.out.trans (hb5.mono hB.out.size)
    have HL5 := Lib.hid (HL0.out.go' hB5.out)
    clear k0 k1 k2 k3 hK4
    go_wp2_with fail
    refine (awake7_any u5 HL5.out).mono ?_
    rintro e u6 ⟨rfl, hb6⟩
    go_wp2_with fail
    go_ret
    exact ⟨rfl, Hb0.out.trans ((hB5.out.trans (hb6.mono hB5.out.size)).mono Hb0.out.size)⟩
  · obtain ⟨k, rfl⟩ : ∃ k : Nat, x = k := ⟨x.toNat, by omega⟩
    have hk : k ≤ 8160 := by omega
    go_enter Tryd.func14, Tryd.ntmps14
    go_wp2_with fail
    rw [← hW0.out]
    clear k0 k1 k2
    obtain ⟨X, hX⟩ : ∃ W, Hid (W = W0.drew) := ⟨_, Lib.hid rfl⟩
    have dX : Below W0.heap.size W0 X := by rw [hX.out]; exact below_drew (Below.refl _ _)
    have hBX : Below W0.heap.size W0 X := dX
    have hKX : Hid (∀ w', Below X.heap.size X w' → w'.heap[w.heap.size]? = some (.cells #[.slice A0 salt.length c0, .slice A key.length c, .slice A' info.length c', .int .i64 (k : Int)] 44 (0, 0))) := fun w' h => (h.block w.heap.size (Nat.lt_of_lt_of_le hgl hBX.size)).trans ((hBX.block w.heap.size hgl).trans hK.out)
    have Q0 := Lib.hid (HR0.out.to hBX)
    have Q1 := Lib.hid (HR.out.to hBX)
    have Q2 := Lib.hid (HR'.out.to hBX)
    have HL := Lib.hid (HL0.out.go' hBX)
    have hB := Lib.hid hBX
    refine wp_region_noPanic ?_
    refine wp_region_held_drew (S := fun w' => Below X.heap.size X w') (by kernel_rfl) (by rw [hX.out]; exact Below.refl _ _) (fun hS => ?_)
    rw [← hX.out]
    clear hS
    have hS : Below X.heap.size X X := Below.refl _ _
    refine wpAnyH_take (i := 0) (v := ?vi0) rfl (by kernel_rfl) (by kernel_rfl) (by kernel_rfl) (fun _ _ _ h => h) (Or.inl ⟨by rfl, ?hyi0⟩) hS ?resti0
    case hyi0 => (intro w hSw; go_simp; first | done | with_reducible rfl)
    try simp only [Act.put, List.getElem_toArray, List.getElem_cons_zero, List.getElem_cons_succ, List.setIfInBounds_toArray, List.set_cons_zero, List.set_cons_succ]
    refine wpAnyH_take (i := 1) (v := ?vi1) rfl (by kernel_rfl) (by kernel_rfl) (by kernel_rfl) (fun _ _ _ h => h) (Or.inl ⟨by rfl, ?hyi1⟩) hS ?resti1
    case hyi1 => (intro w hSw; have hcv := cell_blk (hKX.out w hSw) 0 rfl; go_simp; first | done | with_reducible rfl)
    try simp only [Act.put, List.getElem_toArray, List.getElem_cons_zero, List.getElem_cons_succ, List.setIfInBounds_toArray, List.set_cons_zero, List.set_cons_succ]
    refine wpAnyH_take (i := 3) (v := ?vi3) rfl (by kernel_rfl) (by kernel_rfl) (by kernel_rfl) (fun _ _ _ h => h) (Or.inl ⟨by rfl, ?hyi3⟩) hS ?resti3
    case hyi3 => (intro w hSw; go_simp; first | done | with_reducible rfl)
    try simp only [Act.put, List.getElem_toArray, List.getElem_cons_zero, List.getElem_cons_succ, List.setIfInBounds_toArray, List.set_cons_zero, List.set_cons_succ]
    refine wpAnyH_take (i := 4) (v := ?vi4) rfl (by kernel_rfl) (by kernel_rfl) (by kernel_rfl) (fun _ _ _ h => h) (Or.inl ⟨by rfl, ?hyi4⟩) hS ?resti4
    case hyi4 => (intro w hSw; have hcv := cell_blk (hKX.out w hSw) 1 rfl; go_simp; first | done | with_reducible rfl)
    try simp only [Act.put, List.getElem_toArray, List.getElem_cons_zero, List.getElem_cons_succ, List.setIfInBounds_toArray, List.set_cons_zero, List.set_cons_succ]
    refine wpAnyH_take (i := 6) (v := ?vi6) rfl (by kernel_rfl) (by kernel_rfl) (by kernel_rfl) (fun _ _ _ h => h) (Or.inl ⟨by rfl, ?hyi6⟩) hS ?resti6
    case hyi6 => (intro w hSw; go_simp; first | done | with_reducible rfl)
    try simp only [Act.put, List.getElem_toArray, List.getElem_cons_zero, List.getElem_cons_succ, List.setIfInBounds_toArray, List.set_cons_zero, List.set_cons_succ]
    refine wpAnyH_take (i := 7) (v := ?vi7) rfl (by kernel_rfl) (by kernel_rfl) (by kernel_rfl) (fun _ _ _ h => h) (Or.inl ⟨by rfl, ?hyi7⟩) hS ?resti7
    case hyi7 => (intro w hSw; have hcv := cell_blk (hKX.out w hSw) 2 rfl; go_simp; first | done | with_reducible rfl)
    try simp only [Act.put, List.getElem_toArray, List.getElem_cons_zero, List.getElem_cons_succ, List.setIfInBounds_toArray, List.set_cons_zero, List.set_cons_succ]
    refine wpAnyH_take (i := 9) (v := ?vi9) rfl (by kernel_rfl) (by kernel_rfl) (by kernel_rfl) (fun _ _ _ h => h) (Or.inl ⟨by rfl, ?hyi9⟩) hS ?resti9
    case hyi9 => (intro w hSw; go_simp; first | done | with_reducible rfl)
    try simp only [Act.put, List.getElem_toArray, List.getElem_cons_zero, List.getElem_cons_succ, List.setIfInBounds_toArray, List.set_cons_zero, List.set_cons_succ]
    refine wpAnyH_take (i := 10) (v := ?vi10) rfl (by kernel_rfl) (by kernel_rfl) (by kernel_rfl) (fun _ _ _ h => h) (Or.inl ⟨by rfl, ?hyi10⟩) hS ?resti10
    case hyi10 => (intro w hSw; have hcv := cell_blk (hKX.out w hSw) 3 rfl; go_simp; first | done | with_reducible rfl)
    try simp only [Act.put, List.getElem_toArray, List.getElem_cons_zero, List.getElem_cons_succ, List.setIfInBounds_toArray, List.set_cons_zero, List.set_cons_succ]
    refine wpAnyH_ready (rs := [2]) (by kernel_rfl) (by simp) ?_
    refine AllReadyH.cons rfl (fun K hK => ?_) AllReadyH.nil
    go_simp
    refine (own7_any A0 _ c0 salt _ Q0.out (by omega)).mono ?_
    rintro e u1 ⟨B1, d1, rfl, o1, p11⟩
    have kd1 := own_cap o1
    have Z1 := Lib.hid (Rd.of_own o1)
    clear o1
    replace hKX := (show Hid (∀ w', Below u1.heap.size u1 w' → w'.heap[w.heap.size]? = some (.cells #[.slice A0 salt.length c0, .slice A key.length c, .slice A' info.length c', .int .i64 (k : Int)] 44 (0, 0))) from fun w' h => hKX.out w' (p11.trans (h.mono p11.size)))
    replace Q1 := Lib.hid (Q1.out.to p11)
    replace Q2 := Lib.hid (Q2.out.to p11)
    replace HL := Lib.hid (HL.out.go p11)
    replace hB := Lib.hid (hB.out.trans (p11.mono hB.out.size))
    go_wp2_with fail
    refine hK.out _ _ p11 ?_
    intro hS
    clear hK K
    try simp only [Act.put, List.getElem_toArray, List.getElem_cons_zero, List.getElem_cons_succ, List.setIfInBounds_toArray, List.set_cons_zero, List.set_cons_succ]
    refine wpAnyH_strong (S2 := fun w' => Below u1.heap.size u1 w') (fun w' h' => p11.trans (h'.mono p11.size)) _ _ _ _ ?_
    clear hS
    have hS : Below u1.heap.size u1 u1 := Below.refl _ _
    refine wpAnyH_ready (rs := [5]) (by kernel_rfl) (by simp) ?_
    refine AllReadyH.cons rfl (fun K hK => ?_) AllReadyH.nil
    go_simp
    refine (own7_any A _ c key _ Q1.out (by omega)).mono ?_
    rintro e u2 ⟨B2, d2, rfl, o2, p12⟩
    have kd2 := own_cap o2
    have Z2 := Lib.hid (Rd.of_own o2)
    clear o2
    replace hKX := (show Hid (∀ w', Below u2.heap.size u2 w' → w'.heap[w.heap.size]? = some (.cells #[.slice A0 salt.length c0, .slice A key.length c, .slice A' info.length c', .int .i64 (k : Int)] 44 (0, 0))) from fun w' h => hKX.out w' (p12.trans (h.mono p12.size)))
    replace Z1 := Lib.hid (Z1.out.to p12)
    replace Q2 := Lib.hid (Q2.out.to p12)
    replace HL := Lib.hid (HL.out.go p12)
    replace hB := Lib.hid (hB.out.trans (p12.mono hB.out.size))
    go_wp2_with fail
    refine hK.out _ _ p12 ?_
    intro hS
    clear hK K
    try simp only [Act.put, List.getElem_toArray, List.getElem_cons_zero, List.getElem_cons_succ, List.setIfInBounds_toArray, List.set_cons_zero, List.set_cons_succ]
    refine wpAnyH_strong (S2 := fun w' => Below u2.heap.size u2 w') (fun w' h' => p12.trans (h'.mono p12.size)) _ _ _ _ ?_
    clear hS
    have hS : Below u2.heap.size u2 u2 := Below.refl _ _
    refine wpAnyH_ready (rs := [8]) (by kernel_rfl) (by simp) ?_
    refine AllReadyH.cons rfl (fun K hK => ?_) AllReadyH.nil
    go_simp
    refine (own7_any A' _ c' info _ Q2.out (by omega)).mono ?_
    rintro e u3 ⟨B3, d3, rfl, o3, p13⟩
    have kd3 := own_cap o3
    have Z3 := Lib.hid (Rd.of_own o3)
    clear o3
    replace hKX := (show Hid (∀ w', Below u3.heap.size u3 w' → w'.heap[w.heap.size]? = some (.cells #[.slice A0 salt.length c0, .slice A key.length c, .slice A' info.length c', .int .i64 (k : Int)] 44 (0, 0))) from fun w' h => hKX.out w' (p13.trans (h.mono p13.size)))
    replace Z1 := Lib.hid (Z1.out.to p13)
    replace Z2 := Lib.hid (Z2.out.to p13)
    replace HL := Lib.hid (HL.out.go p13)
    replace hB := Lib.hid (hB.out.trans (p13.mono hB.out.size))
    go_wp2_with fail
    refine hK.out _ _ p13 ?_
    intro hS
    clear hK K
    try simp only [Act.put, List.getElem_toArray, List.getElem_cons_zero, List.getElem_cons_succ, List.setIfInBounds_toArray, List.set_cons_zero, List.set_cons_succ]
    refine wpAnyH_strong (S2 := fun w' => Below u3.heap.size u3 w') (fun w' h' => p13.trans (h'.mono p13.size)) _ _ _ _ ?_
    clear hS
    have hS : Below u3.heap.size u3 u3 := Below.refl _ _
    refine wpAnyH_ready (rs := [11]) (by kernel_rfl) (by simp) ?_
    refine AllReadyH.cons rfl (fun K hK => ?_) AllReadyH.nil
    go_simp
    refine (pDerive_in B1 _ d1 salt B2 _ d2 key B3 _ d3 info k _ Z1.out Z2.out kd2 Z3.out kd3 (by omega) (by omega) (by omega) hk HL.out).mono ?_
    rintro e u4 ⟨B4, d4, rfl, o4, kd4, p14⟩
    have Z4 := Lib.hid o4
    clear o4
    replace hB := Lib.hid (hB.out.trans (p14.mono hB.out.size))
    go_wp2_with fail
    refine hK.out _ _ p14 ?_
    intro hS
    clear hK K
    try simp only [Act.put, List.getElem_toArray, List.getElem_cons_zero, List.getElem_cons_succ, List.setIfInBounds_toArray, List.set_cons_zero, List.set_cons_succ]
    refine wpAnyH_take (i := 12) (v := ?vi12) rfl (by kernel_rfl) (by kernel_rfl) (by kernel_rfl) (fun _ _ _ h => h) (Or.inl ⟨by rfl, ?hyi12⟩) hS ?resti12
    case hyi12 => (intro w hSw; go_simp; first | done | with_reducible rfl)
    try simp only [Act.put, List.getElem_toArray, List.getElem_cons_zero, List.getElem_cons_succ, List.setIfInBounds_toArray, List.set_cons_zero, List.set_cons_succ]
    refine wpAnyH_take (i := 13) (v := ?vi13) rfl (by kernel_rfl) (by kernel_rfl) (by kernel_rfl) (fun _ _ _ h => h) (Or.inl ⟨by rfl, ?hyi13⟩) hS ?resti13
    case hyi13 => (intro w hSw; go_simp; first | done | with_reducible rfl)
    try simp only [Act.put, List.getElem_toArray, List.getElem_cons_zero, List.getElem_cons_succ, List.setIfInBounds_toArray, List.set_cons_zero, List.set_cons_succ]
    refine wpAnyH_take (i := 14) (v := ?vi14) rfl (by kernel_rfl) (by kernel_rfl) (by kernel_rfl) (fun _ _ _ h => h) (Or.inl ⟨by rfl, ?hyi14⟩) hS ?resti14
    case hyi14 => (intro w hSw; go_simp; first | done | with_reducible rfl)
    try simp only [Act.put, List.getElem_toArray, List.getElem_cons_zero, List.getElem_cons_succ, List.setIfInBounds_toArray, List.set_cons_zero, List.set_cons_succ]
    refine wpAnyH_take (i := 15) (v := ?vi15) rfl (by kernel_rfl) (by kernel_rfl) (by kernel_rfl) (fun _ _ _ h => h) (Or.inl ⟨by rfl, ?hyi15⟩) hS ?resti15
    case hyi15 => (intro w hSw; go_simp; first | done | with_reducible rfl)
    try simp only [Act.put, List.getElem_toArray, List.getElem_cons_zero, List.getElem_cons_succ, List.setIfInBounds_toArray, List.set_cons_zero, List.set_cons_succ]
    refine wpAnyH_take (i := 16) (v := ?vi16) rfl (by kernel_rfl) (by kernel_rfl) (by kernel_rfl) (fun _ _ _ h => h) (Or.inl ⟨by rfl, ?hyi16⟩) hS ?resti16
    case hyi16 => (intro w hSw; go_simp; first | done | with_reducible rfl)
    try simp only [Act.put, List.getElem_toArray, List.getElem_cons_zero, List.getElem_cons_succ, List.setIfInBounds_toArray, List.set_cons_zero, List.set_cons_succ]
    refine wpAnyH_done (by kernel_rfl) (NoPanic.normal ?_) _
    have hK4 := (hB.out.block w.heap.size hgl).trans hK.out
    have k0 : u4.cell? ⟨w.heap.size, 0, none⟩ = some (.slice A0 salt.length c0) := cell_blk hK4 0 rfl
    have k1 : u4.cell? ⟨w.heap.size, 1, none⟩ = some (.slice A key.length c) := cell_blk hK4 1 rfl
    have k2 : u4.cell? ⟨w.heap.size, 2, none⟩ = some (.slice A' info.length c') := cell_blk hK4 2 rfl
    have k3 : u4.cell? ⟨w.heap.size, 3, none⟩ = some (.int .i64 (k : Int)) := cell_blk hK4 3 rfl
    go_wp2_with fail
    refine (rDerive_in A0 _ c0 salt A _ c key A' _ c' info k u4 (HR0.out.to hB.out) (HR.out.to hB.out) (HR'.out.to hB.out) (by omega) (by omega) (by omega) hk).mono ?_
    rintro e u5 ⟨B5, d5, rfl, o5, kd5, hb5⟩
    have e1 := conv8 u5 B4 _ d4 _ (Z4.out.to hb5)
    have e2 := conv8 u5 B5 _ d5 _ o5
    clear o5
    have hB5 : Hid (Below W0.heap.size W0 u5) := hB.out.trans (hb5.mono hB.out.size)
    have HL5 := Lib.hid (HL0.out.go' hB5.out)
    clear k0 k1 k2 k3 hK4
    go_wp2_with fail
    refine (awake7_any u5 HL5.out).mono ?_
    rintro e u6 ⟨rfl, hb6⟩
    go_wp2_with fail
    go_ret
    exact ⟨rfl, Hb0.out.trans ((hB5.out.trans (hb6.mono hB5.out.size)).mono Hb0.out.size)⟩
end Go.Proofs.YtclecmpmohoamaaDoor
