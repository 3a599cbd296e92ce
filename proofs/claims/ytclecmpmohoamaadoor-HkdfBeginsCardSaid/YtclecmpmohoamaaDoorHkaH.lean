/- The walks of the laws HkdfExpands, HkdfBegins. (Printed by gen_hkh.py.) -/
import Derived.Test.YtclecmpmohoamaaDoorHkaG
namespace Go.Proofs.YtclecmpmohoamaaDoor
open Go.RowKit
attribute [local go_sem ↓] Go.wp_at_zero Go.wp_at_succ
set_option linter.unusedSimpArgs false
set_option linter.unusedVariables false

set_option maxRecDepth 20000 in
set_option maxHeartbeats 8000000 in
theorem hkdfExpands_walk (A : Option Addr) (n c : Nat) (key : List UInt8) (A' : Option Addr) (n' c' : Nat) (info : List UInt8) (x : Int) (w : World) (hr : Rd w w.heap.size 1 A n (key.map B8)) (hc : n ≤ c) (hn : n ≤ 140737488351232) (hr' : Rd w w.heap.size 1 A' n' (info.map B8)) (hc' : n' ≤ c') (hn' : n' ≤ 140737488351232) (hx : (Lit.int .i64 x).wf = true) (hL : LayS w) :
    Calls Tryd.prog 12 #[.slice A n c, .slice A' n' c', .int .i64 x] w fun r w' => r = .returned (.bool true) ∧ Below w.heap.size w w' := by
  obtain rfl : key.length = n := by simpa using hr.len
  obtain rfl : info.length = n' := by simpa using hr'.len
  by_cases h4 : 4000 < key.length
  · have h4a : (4000 : Int) < key.length := by omega
    go_enter Tryd.func12, Tryd.ntmps12
    go_wp2_with fail
    refine (awake7_any w hL).mono ?_
    rintro e w1 ⟨rfl, hb⟩
    go_wp2_with fail
    go_ret
    exact ⟨rfl, hb⟩
  have h4a : ¬ (4000 : Int) < key.length := by omega
  by_cases h5 : 400 < info.length
  · have h4b : (400 : Int) < info.length := by omega
    go_enter Tryd.func12, Tryd.ntmps12
    go_wp2_with fail
    refine (awake7_any w hL).mono ?_
    rintro e w1 ⟨rfl, hb⟩
    go_wp2_with fail
    go_ret
    exact ⟨rfl, hb⟩
  have h4b : ¬ (400 : Int) < info.length := by omega
  have h44 := hL.size
  have HL0 := Lib.hid hL
  have HR := Lib.hid hr
  have HR' := Lib.hid hr'
  clear hL hr hr'
  by_cases hxr : x < 0 ∨ 8160 < x
  · go_enter Tryd.func12, Tryd.ntmps12
    go_wp2_with fail
    refine (own7_any A _ c key w HR.out (by omega)).mono ?_
    rintro e w1 ⟨A1, c1, rfl, h1, hb1⟩
    have k1 := own_cap h1
    have Ho1 := Lib.hid (Rd.of_own h1)
    have hs1 := hb1.size
    clear h1
    go_wp2_with fail
    refine (own7_any A' _ c' info w1 (HR'.out.to hb1) (by omega)).mono ?_
    rintro e w2 ⟨A2, c2, rfl, h2, hb2⟩
    have k2 := own_cap h2
    have Ho2 := Lib.hid (Rd.of_own h2)
    have hB2 : Hid (Below w.heap.size w w2) := hb1.trans (hb2.mono hs1)
    have Ho1' := Lib.hid (Ho1.out.to hb2)
    clear h2
    go_wp2_with fail
    refine (pExpand_out A1 _ c1 A2 _ c2 x w2 hxr).mono ?_
    rintro e w3 ⟨rfl, hb3⟩
    go_wp2_with fail
    refine (rExpand_out A _ c A' _ c' x w3 hxr).mono ?_
    rintro e w4 ⟨rfl, hb4⟩
    have hB4 : Hid (Below w.heap.size w w4) := hB2.out.trans ((hb3.trans (hb4.mono hb3.size)).mono hB2.out.size)
    have HL4 := Lib.hid (HL0.out.go' hB4.out)
    have e1 := conv8 w4 none 0 0 [] (Rd.nil _ _ _ _)
    go_wp2_with fail
    refine (awake7_any w4 HL4.out).mono ?_
    rintro e w5 ⟨rfl, hb5⟩
    go_wp2_with fail
    go_ret
    exact ⟨rfl, hB4.out.trans (hb5.mono hB4.out.size)⟩
  · obtain ⟨k, rfl⟩ : ∃ k : Nat, x = k := ⟨x.toNat, by omega⟩
    have hk : k ≤ 8160 := by omega
    go_enter Tryd.func12, Tryd.ntmps12
    go_wp2_with fail
    refine (own7_any A _ c key w HR.out (by omega)).mono ?_
    rintro e w1 ⟨A1, c1, rfl, h1, hb1⟩
    have k1 := own_cap h1
    have Ho1 := Lib.hid (Rd.of_own h1)
    have hs1 := hb1.size
    clear h1
    go_wp2_with fail
    refine (own7_any A' _ c' info w1 (HR'.out.to hb1) (by omega)).mono ?_
    rintro e w2 ⟨A2, c2, rfl, h2, hb2⟩
    have k2 := own_cap h2
    have Ho2 := Lib.hid (Rd.of_own h2)
    have hB2 : Hid (Below w.heap.size w w2) := hb1.trans (hb2.mono hs1)
    have Ho1' := Lib.hid (Ho1.out.to hb2)
    clear h2
    go_wp2_with fail
    refine (pExpand_in A1 _ c1 key A2 _ c2 info k w2 Ho1'.out Ho2.out k2 (by omega) (by omega) hk (HL0.out.go' hB2.out)).mono ?_
    rintro e w3 ⟨A3, c3, rfl, h3, hc3, hb3⟩
    have H3 := Lib.hid h3
    have hB3 : Hid (Below w.heap.size w w3) := hB2.out.trans (hb3.mono hB2.out.size)
    clear h3
    go_wp2_with fail
    refine (rExpand_in A _ c key A' _ c' info k w3 (HR.out.to hB3.out) (HR'.out.to hB3.out) (by omega) (by omega) hk).mono ?_
    rintro e w4 ⟨A4, c4, rfl, h4', hc4, hb4⟩
    have hB4 : Hid (Below w.heap.size w w4) := hB3.out.trans (hb4.mono hB3.out.size)
    have HL4 := Lib.hid (HL0.out.go' hB4.out)
    have e1 := conv8 w4 A3 _ c3 _ (H3.out.to hb4)
    have e2 := conv8 w4 A4 _ c4 _ h4'
    clear h4'
    go_wp2_with fail
    refine (awake7_any w4 HL4.out).mono ?_
    rintro e w5 ⟨rfl, hb5⟩
    go_wp2_with fail
    go_ret
    exact ⟨rfl, hB4.out.trans (hb5.mono hB4.out.size)⟩

set_option maxRecDepth 20000 in
set_option maxHeartbeats 8000000 in
theorem hkdfBegins_walk (A : Option Addr) (n c : Nat) (key : List UInt8) (A' : Option Addr) (n' c' : Nat) (info : List UInt8) (x y : Int) (w : World) (hr : Rd w w.heap.size 1 A n (key.map B8)) (hc : n ≤ c) (hn : n ≤ 140737488351232) (hr' : Rd w w.heap.size 1 A' n' (info.map B8)) (hc' : n' ≤ c') (hn' : n' ≤ 140737488351232) (hx : (Lit.int .u16 x).wf = true) (hy : (Lit.int .u16 y).wf = true) (hL : LayS w) :
    Calls Tryd.prog 13 #[.slice A n c, .slice A' n' c', .int .u16 x, .int .u16 y] w fun r w' => r = .returned (.bool true) ∧ Below w.heap.size w w' := by
  obtain rfl : key.length = n := by simpa using hr.len
  obtain rfl : info.length = n' := by simpa using hr'.len
  by_cases h4 : 4000 < key.length
  · have h4a : (4000 : Int) < key.length := by omega
    go_enter Tryd.func13, Tryd.ntmps13
    go_wp2_with fail
    refine (awake7_any w hL).mono ?_
    rintro e w1 ⟨rfl, hb⟩
    go_wp2_with fail
    go_ret
    exact ⟨rfl, hb⟩
  have h4a : ¬ (4000 : Int) < key.length := by omega
  by_cases h5 : 400 < info.length
  · have h4b : (400 : Int) < info.length := by omega
    go_enter Tryd.func13, Tryd.ntmps13
    go_wp2_with fail
    refine (awake7_any w hL).mono ?_
    rintro e w1 ⟨rfl, hb⟩
    go_wp2_with fail
    go_ret
    exact ⟨rfl, hb⟩
  have h4b : ¬ (400 : Int) < info.length := by omega
  have h44 := hL.size
  have HL0 := Lib.hid hL
  have HR := Lib.hid hr
  have HR' := Lib.hid hr'
  clear hL hr hr'
  have hxb : 0 ≤ x ∧ x < 65536 := by simp [Lit.wf, IntKind.min, IntKind.max, IntKind.signed, IntKind.bits] at hx; omega
  have hyb : 0 ≤ y ∧ y < 65536 := by simp [Lit.wf, IntKind.min, IntKind.max, IntKind.signed, IntKind.bits] at hy; omega
  obtain ⟨hx0, hx1⟩ := hxb
  obtain ⟨hy0, hy1⟩ := hyb
  have fx : IntKind.i64.wrap x = x := IntWalk.i64_in _ (by omega)
  have fy : IntKind.i64.wrap y = y := IntWalk.i64_in _ (by omega)
  obtain ⟨m, hm⟩ : ∃ m : Nat, Hid ((m : Int) = x % 8161) := ⟨(x % 8161).toNat, by unfold Hid; omega⟩
  have hmb : m ≤ 8160 := by have := hm.out; omega
  have fm : x % 8161 = (m : Int) := hm.out.symm
  have fm2 : x.tmod 8161 = (m : Int) := by rw [← fm, Int.tmod_eq_emod_of_nonneg hx0]
  obtain ⟨m1, hm1⟩ : ∃ m1 : Nat, Hid (m1 = m + 1) := ⟨_, Lib.hid rfl⟩
  have fm1 : IntKind.i64.wrap ((m : Int) + 1) = (m1 : Int) := by rw [IntWalk.i64_in _ (by omega), hm1.out]; omega
  have fm1' : (m : Int) + 1 = (m1 : Int) := by rw [hm1.out]; omega
  obtain ⟨k, hk⟩ : ∃ k : Nat, Hid ((k : Int) = y % (m1 : Int)) := ⟨(y % (m1 : Int)).toNat, by have := hm1.out; unfold Hid; have := Int.emod_nonneg y (show (m1 : Int) ≠ 0 by omega); omega⟩
  have hkm : k ≤ m := by have h1 := hm1.out; have h2 := Int.emod_lt_of_pos y (show (0 : Int) < (m1 : Int) by omega); have h3 := hk.out; omega
  have fk : y % (m1 : Int) = (k : Int) := hk.out.symm
  have fk2 : y.tmod (m1 : Int) = (k : Int) := by rw [← fk, Int.tmod_eq_emod_of_nonneg hy0]
  have hm10 : ¬ (m1 : Int) = 0 := by have := hm1.out; omega
  have hm10' : ¬ m1 = 0 := by have := hm1.out; omega
  go_enter Tryd.func13, Tryd.ntmps13
  go_wp2_with fail
  refine (own7_any A _ c key w HR.out (by omega)).mono ?_
  rintro e w1 ⟨A1, c1, rfl, h1, hb1⟩
  have k1 := own_cap h1
  have Ho1 := Lib.hid (Rd.of_own h1)
  have hs1 := hb1.size
  clear h1
  go_wp2_with fail
  refine (own7_any A' _ c' info w1 (HR'.out.to hb1) (by omega)).mono ?_
  rintro e w2 ⟨A2, c2, rfl, h2, hb2⟩
  have k2 := own_cap h2
  have Ho2 := Lib.hid (Rd.of_own h2)
  have hB2 : Hid (Below w.heap.size w w2) := hb1.trans (hb2.mono hs1)
  have Ho1' := Lib.hid (Ho1.out.to hb2)
  clear h2
  go_wp2_with fail
  refine (pExpand_in A1 _ c1 key A2 _ c2 info m w2 Ho1'.out Ho2.out k2 (by omega) (by omega) hmb (HL0.out.go' hB2.out)).mono ?_
  rintro e w3 ⟨A3, c3, rfl, h3, hc3, hb3⟩
  have H3 := Lib.hid h3
  have hB3 : Hid (Below w.heap.size w w3) := hB2.out.trans (hb3.mono hB2.out.size)
  clear h3
  go_wp2_with fail
  refine (own7_any A _ c key w3 (HR.out.to hB3.out) (by omega)).mono ?_
  rintro e w4 ⟨A4, c4, rfl, h4', hb4⟩
  have k4 := own_cap h4'
  have Ho4 := Lib.hid (Rd.of_own h4')
  have hs4 := hb4.size
  clear h4'
  go_wp2_with fail
  refine (own7_any A' _ c' info w4 ((HR'.out.to hB3.out).to hb4) (by omega)).mono ?_
  rintro e w5 ⟨A5, c5, rfl, h5', hb5⟩
  have k5 := own_cap h5'
  have Ho5 := Lib.hid (Rd.of_own h5')
  have hB5 : Hid (Below w.heap.size w w5) := hB3.out.trans ((hb4.trans (hb5.mono hs4)).mono hB3.out.size)
  have Ho4' := Lib.hid (Ho4.out.to hb5)
  clear h5'
  go_wp2_with fail
  refine (pExpand_in A4 _ c4 key A5 _ c5 info k w5 Ho4'.out Ho5.out k5 (by omega) (by omega) (by omega) (HL0.out.go' hB5.out)).mono ?_
  rintro e w6 ⟨A6, c6, rfl, h6, hc6, hb6⟩
  have H6 := Lib.hid h6
  have hB6 : Hid (Below w.heap.size w w6) := hB5.out.trans (hb6.mono hB5.out.size)
  have H3' := Lib.hid (H3.out.to (hb4.trans ((hb5.trans (hb6.mono hb5.size)).mono hb4.size)))
  have hkc : (k : Int) ≤ c3 := by omega
  have hkc0 : (0 : Int) ≤ k := by omega
  clear h6
  go_wp2_with fail
  obtain ⟨W, hW⟩ : ∃ W, Hid (W = w6.drew) := ⟨_, Lib.hid rfl⟩
  have dW : Below w6.heap.size w6 W := by rw [hW.out]; exact below_drew (Below.refl _ _)
  have hBW : Below w.heap.size w W := hB6.out.trans (dW.mono hB6.out.size)
  have HL := Lib.hid (HL0.out.go' hBW)
  have M3 : Hid (Rd W W.heap.size 1 A3 k ((hexp key info k).map B8)) := by
    have h1 := (H3'.out.to dW).take (k := k) hkm
    rw [← List.map_take, hexp_pre key info hkm] at h1
    exact h1
  have M6 := Lib.hid (H6.out.to dW)
  have hB := Lib.hid hBW
  refine wp_region_noPanic ?_
  refine wp_region_held_drew (S := fun w' => Below W.heap.size W w') (by kernel_rfl) (by rw [hW.out]; exact Below.refl _ _) (fun hS => ?_)
  rw [← hW.out]
  clear hS
  have hS : Below W.heap.size W W := Below.refl _ _
  refine wpAnyH_take (i := 0) (v := ?v0) rfl (by kernel_rfl) (by kernel_rfl) (by kernel_rfl) (fun _ _ _ h => h) (Or.inl ⟨by rfl, ?hy0⟩) hS ?rest0
  case hy0 => (intro w hSw; go_simp; first | done | with_reducible rfl)
  try simp only [Act.put, List.getElem_toArray, List.getElem_cons_zero, List.getElem_cons_succ, List.setIfInBounds_toArray, List.set_cons_zero, List.set_cons_succ]
  refine wpAnyH_take (i := 1) (v := ?v1) rfl (by kernel_rfl) (by kernel_rfl) (by kernel_rfl) (fun _ _ _ h => h) (Or.inl ⟨by rfl, ?hy1⟩) hS ?rest1
  case hy1 => (intro w hSw; go_simp; first | done | with_reducible rfl)
  try simp only [Act.put, List.getElem_toArray, List.getElem_cons_zero, List.getElem_cons_succ, List.setIfInBounds_toArray, List.set_cons_zero, List.set_cons_succ]
  refine wpAnyH_take (i := 2) (v := ?v2) rfl (by kernel_rfl) (by kernel_rfl) (by kernel_rfl) (fun _ _ _ h => h) (Or.inl ⟨by rfl, ?hy2⟩) hS ?rest2
  case hy2 => (intro w hSw; go_simp; first | done | with_reducible rfl)
  try simp only [Act.put, List.getElem_toArray, List.getElem_cons_zero, List.getElem_cons_succ, List.setIfInBounds_toArray, List.set_cons_zero, List.set_cons_succ]
  refine wpAnyH_take (i := 3) (v := ?v3) rfl (by kernel_rfl) (by kernel_rfl) (by kernel_rfl) (fun _ _ _ h => h) (Or.inl ⟨by rfl, ?hy3⟩) hS ?rest3
  case hy3 => (intro w hSw; go_simp; first | done | with_reducible rfl)
  try simp only [Act.put, List.getElem_toArray, List.getElem_cons_zero, List.getElem_cons_succ, List.setIfInBounds_toArray, List.set_cons_zero, List.set_cons_succ]
  refine wpAnyH_take (i := 4) (v := ?v4) rfl (by kernel_rfl) (by kernel_rfl) (by kernel_rfl) (fun _ _ _ h => h) (Or.inl ⟨by rfl, ?hy4⟩) hS ?rest4
  case hy4 => (intro w hSw; go_simp; first | done | with_reducible rfl)
  try simp only [Act.put, List.getElem_toArray, List.getElem_cons_zero, List.getElem_cons_succ, List.setIfInBounds_toArray, List.set_cons_zero, List.set_cons_succ]
  refine wpAnyH_take (i := 5) (v := ?v5) rfl (by kernel_rfl) (by kernel_rfl) (by kernel_rfl) (fun _ _ _ h => h) (Or.inl ⟨by rfl, ?hy5⟩) hS ?rest5
  case hy5 => (intro w hSw; go_simp; first | done | with_reducible rfl)
  try simp only [Act.put, List.getElem_toArray, List.getElem_cons_zero, List.getElem_cons_succ, List.setIfInBounds_toArray, List.set_cons_zero, List.set_cons_succ]
  refine wpAnyH_take (i := 6) (v := ?v6) rfl (by kernel_rfl) (by kernel_rfl) (by kernel_rfl) (fun _ _ _ h => h) (Or.inl ⟨by rfl, ?hy6⟩) hS ?rest6
  case hy6 => (intro w hSw; go_simp; first | done | with_reducible rfl)
  try simp only [Act.put, List.getElem_toArray, List.getElem_cons_zero, List.getElem_cons_succ, List.setIfInBounds_toArray, List.set_cons_zero, List.set_cons_succ]
  refine wpAnyH_take (i := 7) (v := ?v7) rfl (by kernel_rfl) (by kernel_rfl) (by kernel_rfl) (fun _ _ _ h => h) (Or.inl ⟨by rfl, ?hy7⟩) hS ?rest7
  case hy7 => (intro w hSw; go_simp; first | done | with_reducible rfl)
  try simp only [Act.put, List.getElem_toArray, List.getElem_cons_zero, List.getElem_cons_succ, List.setIfInBounds_toArray, List.set_cons_zero, List.set_cons_succ]
  refine wpAnyH_take (i := 8) (v := ?v8) rfl (by kernel_rfl) (by kernel_rfl) (by kernel_rfl) (fun _ _ _ h => h) (Or.inl ⟨by rfl, ?hy8⟩) hS ?rest8
  case hy8 => (intro w hSw; go_simp; first | done | with_reducible rfl)
  try simp only [Act.put, List.getElem_toArray, List.getElem_cons_zero, List.getElem_cons_succ, List.setIfInBounds_toArray, List.set_cons_zero, List.set_cons_succ]
  refine wpAnyH_take (i := 9) (v := ?v9) rfl (by kernel_rfl) (by kernel_rfl) (by kernel_rfl) (fun _ _ _ h => h) (Or.inl ⟨by rfl, ?hy9⟩) hS ?rest9
  case hy9 => (intro w hSw; go_simp; first | done | with_reducible rfl)
  try simp only [Act.put, List.getElem_toArray, List.getElem_cons_zero, List.getElem_cons_succ, List.setIfInBounds_toArray, List.set_cons_zero, List.set_cons_succ]
  refine wpAnyH_take (i := 10) (v := ?v10) rfl (by kernel_rfl) (by kernel_rfl) (by kernel_rfl) (fun _ _ _ h => h) (Or.inl ⟨by rfl, ?hy10⟩) hS ?rest10
  case hy10 => (intro w hSw; go_simp; first | done | with_reducible rfl)
  try simp only [Act.put, List.getElem_toArray, List.getElem_cons_zero, List.getElem_cons_succ, List.setIfInBounds_toArray, List.set_cons_zero, List.set_cons_succ]
  refine wpAnyH_take (i := 11) (v := ?v11) rfl (by kernel_rfl) (by kernel_rfl) (by kernel_rfl) (fun _ _ _ h => h) (Or.inl ⟨by rfl, ?hy11⟩) hS ?rest11
  case hy11 => (intro w hSw; go_simp; first | done | with_reducible rfl)
  try simp only [Act.put, List.getElem_toArray, List.getElem_cons_zero, List.getElem_cons_succ, List.setIfInBounds_toArray, List.set_cons_zero, List.set_cons_succ]
  refine wpAnyH_take (i := 12) (v := ?v12) rfl (by kernel_rfl) (by kernel_rfl) (by kernel_rfl) (fun _ _ _ h => h) (Or.inl ⟨by rfl, ?hy12⟩) hS ?rest12
  case hy12 => (intro w hSw; go_simp; first | done | with_reducible rfl)
  try simp only [Act.put, List.getElem_toArray, List.getElem_cons_zero, List.getElem_cons_succ, List.setIfInBounds_toArray, List.set_cons_zero, List.set_cons_succ]
  refine wpAnyH_take (i := 13) (v := ?v13) rfl (by kernel_rfl) (by kernel_rfl) (by kernel_rfl) (fun _ _ _ h => h) (Or.inl ⟨by rfl, ?hy13⟩) hS ?rest13
  case hy13 => (intro w hSw; go_simp; first | done | with_reducible rfl)
  try simp only [Act.put, List.getElem_toArray, List.getElem_cons_zero, List.getElem_cons_succ, List.setIfInBounds_toArray, List.set_cons_zero, List.set_cons_succ]
  refine wpAnyH_take (i := 14) (v := ?v14) rfl (by kernel_rfl) (by kernel_rfl) (by kernel_rfl) (fun _ _ _ h => h) (Or.inl ⟨by rfl, ?hy14⟩) hS ?rest14
  case hy14 => (intro w hSw; go_simp; first | done | with_reducible rfl)
  try simp only [Act.put, List.getElem_toArray, List.getElem_cons_zero, List.getElem_cons_succ, List.setIfInBounds_toArray, List.set_cons_zero, List.set_cons_succ]
  refine wpAnyH_take (i := 15) (v := ?v15) rfl (by kernel_rfl) (by kernel_rfl) (by kernel_rfl) (fun _ _ _ h => h) (Or.inl ⟨by rfl, ?hy15⟩) hS ?rest15
  case hy15 => (intro w hSw; go_simp; first | done | with_reducible rfl)
  try simp only [Act.put, List.getElem_toArray, List.getElem_cons_zero, List.getElem_cons_succ, List.setIfInBounds_toArray, List.set_cons_zero, List.set_cons_succ]
  refine wpAnyH_take (i := 16) (v := ?v16) rfl (by kernel_rfl) (by kernel_rfl) (by kernel_rfl) (fun _ _ _ h => h) (Or.inl ⟨by rfl, ?hy16⟩) hS ?rest16
  case hy16 => (intro w hSw; go_simp; first | done | with_reducible rfl)
  try simp only [Act.put, List.getElem_toArray, List.getElem_cons_zero, List.getElem_cons_succ, List.setIfInBounds_toArray, List.set_cons_zero, List.set_cons_succ]
  refine wpAnyH_take (i := 17) (v := ?v17) rfl (by kernel_rfl) (by kernel_rfl) (by kernel_rfl) (fun _ _ _ h => h) (Or.inl ⟨by rfl, ?hy17⟩) hS ?rest17
  case hy17 => (intro w hSw; go_simp; first | done | with_reducible rfl)
  try simp only [Act.put, List.getElem_toArray, List.getElem_cons_zero, List.getElem_cons_succ, List.setIfInBounds_toArray, List.set_cons_zero, List.set_cons_succ]
  refine wpAnyH_take (i := 18) (v := ?v18) rfl (by kernel_rfl) (by kernel_rfl) (by kernel_rfl) (fun _ _ _ h => h) (Or.inl ⟨by rfl, ?hy18⟩) hS ?rest18
  case hy18 => (intro w hSw; go_simp; first | done | with_reducible rfl)
  try simp only [Act.put, List.getElem_toArray, List.getElem_cons_zero, List.getElem_cons_succ, List.setIfInBounds_toArray, List.set_cons_zero, List.set_cons_succ]
  refine wpAnyH_take (i := 19) (v := ?v19) rfl (by kernel_rfl) (by kernel_rfl) (by kernel_rfl) (fun _ _ _ h => h) (Or.inl ⟨by rfl, ?hy19⟩) hS ?rest19
  case hy19 => (intro w hSw; go_simp; first | done | with_reducible rfl)
  try simp only [Act.put, List.getElem_toArray, List.getElem_cons_zero, List.getElem_cons_succ, List.setIfInBounds_toArray, List.set_cons_zero, List.set_cons_succ]
  refine wpAnyH_take (i := 20) (v := ?v20) rfl (by kernel_rfl) (by kernel_rfl) (by kernel_rfl) (fun _ _ _ h => h) (Or.inl ⟨by rfl, ?hy20⟩) hS ?rest20
  case hy20 => (intro w hSw; go_simp; first | done | with_reducible rfl)
  try simp only [Act.put, List.getElem_toArray, List.getElem_cons_zero, List.getElem_cons_succ, List.setIfInBounds_toArray, List.set_cons_zero, List.set_cons_succ]
  refine wpAnyH_take (i := 21) (v := ?v21) rfl (by kernel_rfl) (by kernel_rfl) (by kernel_rfl) (fun _ _ _ h => h) (Or.inl ⟨by rfl, ?hy21⟩) hS ?rest21
  case hy21 => (intro w hSw; go_simp; first | done | with_reducible rfl)
  try simp only [Act.put, List.getElem_toArray, List.getElem_cons_zero, List.getElem_cons_succ, List.setIfInBounds_toArray, List.set_cons_zero, List.set_cons_succ]
  refine wpAnyH_take (i := 22) (v := ?v22) rfl (by kernel_rfl) (by kernel_rfl) (by kernel_rfl) (fun _ _ _ h => h) (Or.inl ⟨by rfl, ?hy22⟩) hS ?rest22
  case hy22 => (intro w hSw; have hcv := conv8 w A3 _ c3 _ (M3.out.to hSw); go_simp; first | done | with_reducible rfl)
  try simp only [Act.put, List.getElem_toArray, List.getElem_cons_zero, List.getElem_cons_succ, List.setIfInBounds_toArray, List.set_cons_zero, List.set_cons_succ]
  refine wpAnyH_take (i := 23) (v := ?v23) rfl (by kernel_rfl) (by kernel_rfl) (by kernel_rfl) (fun _ _ _ h => h) (Or.inl ⟨by rfl, ?hy23⟩) hS ?rest23
  case hy23 => (intro w hSw; go_simp; first | done | with_reducible rfl)
  try simp only [Act.put, List.getElem_toArray, List.getElem_cons_zero, List.getElem_cons_succ, List.setIfInBounds_toArray, List.set_cons_zero, List.set_cons_succ]
  refine wpAnyH_take (i := 24) (v := ?v24) rfl (by kernel_rfl) (by kernel_rfl) (by kernel_rfl) (fun _ _ _ h => h) (Or.inl ⟨by rfl, ?hy24⟩) hS ?rest24
  case hy24 => (intro w hSw; have hcv := conv8 w A6 _ c6 _ (M6.out.to hSw); go_simp; first | done | with_reducible rfl)
  try simp only [Act.put, List.getElem_toArray, List.getElem_cons_zero, List.getElem_cons_succ, List.setIfInBounds_toArray, List.set_cons_zero, List.set_cons_succ]
  refine wpAnyH_take (i := 25) (v := ?v25) rfl (by kernel_rfl) (by kernel_rfl) (by kernel_rfl) (fun _ _ _ h => h) (Or.inl ⟨by rfl, ?hy25⟩) hS ?rest25
  case hy25 => (intro w hSw; go_simp; first | done | with_reducible rfl)
  try simp only [Act.put, List.getElem_toArray, List.getElem_cons_zero, List.getElem_cons_succ, List.setIfInBounds_toArray, List.set_cons_zero, List.set_cons_succ]
  refine wpAnyH_take (i := 26) (v := ?v26) rfl (by kernel_rfl) (by kernel_rfl) (by kernel_rfl) (fun _ _ _ h => h) (Or.inl ⟨by rfl, ?hy26⟩) hS ?rest26
  case hy26 => (intro w hSw; go_simp; first | done | with_reducible rfl)
  try simp only [Act.put, List.getElem_toArray, List.getElem_cons_zero, List.getElem_cons_succ, List.setIfInBounds_toArray, List.set_cons_zero, List.set_cons_succ]
  refine wpAnyH_take (i := 27) (v := ?v27) rfl (by kernel_rfl) (by kernel_rfl) (by kernel_rfl) (fun _ _ _ h => h) (Or.inl ⟨by rfl, ?hy27⟩) hS ?rest27
  case hy27 => (intro w hSw; go_simp; first | done | with_reducible rfl)
  try simp only [Act.put, List.getElem_toArray, List.getElem_cons_zero, List.getElem_cons_succ, List.setIfInBounds_toArray, List.set_cons_zero, List.set_cons_succ]
  refine wpAnyH_ready (rs := [28]) (by kernel_rfl) (by simp) ?_
  refine AllReadyH.cons rfl (fun K hK => ?_) AllReadyH.nil
  go_simp
  refine (awake7_any _ HL.out).mono ?_
  rintro e u9 ⟨rfl, p9⟩
  replace hB := Lib.hid (hB.out.trans (p9.mono hB.out.size))
  go_wp2_with fail
  refine hK.out _ _ p9 ?_
  intro hS
  clear hK K
  try simp only [Act.put, List.getElem_toArray, List.getElem_cons_zero, List.getElem_cons_succ, List.setIfInBounds_toArray, List.set_cons_zero, List.set_cons_succ]
  refine wpAnyH_take (i := 29) (v := ?v29) rfl (by kernel_rfl) (by kernel_rfl) (by kernel_rfl) (fun _ _ _ h => h) (Or.inl ⟨by rfl, ?hy29⟩) hS ?rest29
  case hy29 => (intro w hSw; go_simp; first | done | with_reducible rfl)
  try simp only [Act.put, List.getElem_toArray, List.getElem_cons_zero, List.getElem_cons_succ, List.setIfInBounds_toArray, List.set_cons_zero, List.set_cons_succ]
  refine wpAnyH_take (i := 30) (v := ?v30) rfl (by kernel_rfl) (by kernel_rfl) (by kernel_rfl) (fun _ _ _ h => h) (Or.inl ⟨by rfl, ?hy30⟩) hS ?rest30
  case hy30 => (intro w hSw; go_simp; first | done | with_reducible rfl)
  try simp only [Act.put, List.getElem_toArray, List.getElem_cons_zero, List.getElem_cons_succ, List.setIfInBounds_toArray, List.set_cons_zero, List.set_cons_succ]
  refine wpAnyH_done (by kernel_rfl) (NoPanic.normal ?_) _
  go_wp2_with fail
  go_ret
  exact ⟨rfl, hB.out⟩
end Go.Proofs.YtclecmpmohoamaaDoor
