/- The walks of the laws ShaCuts, ShaClones. (Printed by gen_shay.py.) -/
import Derived.Test.YtclecmpmohoamaaDoorShaW
import Derived.Test.YtclecmpmohoamaaDoorReg
namespace Go.Proofs.YtclecmpmohoamaaDoor
open Go.RowKit
set_option linter.unusedVariables false
attribute [local go_sem ↓] Go.wp_at_zero Go.wp_at_succ
set_option linter.unusedSimpArgs false
theorem Lay.to {w w' : World} (h : Lay w) {B : Nat} (hB : 4 ≤ B) (hb : Below B w w') : Lay w' := ⟨h.s.to hB hb, h.g.to hB hb⟩
theorem own_ne {w : World} {base n : Nat} {A : Option Addr} {c : Nat} {xs : List Value} (h : w.ownsRow base 5 1 (.slice A n c) n xs) {g : Nat} (hg : g < base) : 0 < n → ∀ b o, A = some ⟨b, o, none⟩ → b ≠ g := by
  intro h0 b o e
  have hs := OwnS.of_own h
  obtain ⟨g', o', e', hb, _⟩ := hs.mem (Nat.lt_of_lt_of_le h0 hs.le)
  rw [e] at e'
  injection e' with e'
  injection e' with e1
  omega
theorem Rd.at0 {w w' : World} {B n : Nat} {A : Option Addr} {xs : List Value} (h : Rd w B 1 A n xs) (hb : Below B w w') (hB : B ≤ w'.heap.size) : Rd w' w'.heap.size 1 A n xs := (h.below hb).more hB
theorem own6n (A : Option Addr) (n c : Nat) (l : List UInt8) (w : World) (hr : Rd w w.heap.size 1 A n (l.map B8)) (hn : n ≤ 140737488355328) :
    Calls Tryd.prog 16 #[.slice A n c] w fun e w' => ∃ A' c', e = .returned (.slice A' n c') ∧ w'.ownsRow w.heap.size 5 1 (.slice A' n c') n (l.map B8) ∧ Below w.heap.size w w' := by
  obtain rfl : l.length = n := by simpa using hr.len
  exact own6_any A _ c l w hr hn

set_option maxRecDepth 20000 in
set_option maxHeartbeats 4000000 in
theorem shaCuts_walk (A : Option Addr) (n c : Nat) (l : List UInt8) (x : Int) (w : World) (hr : Rd w w.heap.size 1 A n (l.map B8)) (hc : n ≤ c) (hn : n ≤ 140737488351232) (hx : (Lit.int .i64 x).wf = true) (hL : Lay w) :
    Calls Tryd.prog 6 #[.slice A n c, .int .i64 x] w fun r w' => r = .returned (.bool true) ∧ Below w.heap.size w w' := by
  obtain rfl : l.length = n := by simpa using hr.len
  by_cases h4 : 4000 < l.length
  · have h4' : (4000 : Int) < l.length := by omega
    go_enter Tryd.func6, Tryd.ntmps6
    go_wp2_with fail
    refine (awake6_any w hL).mono ?_
    rintro e w1 ⟨rfl, hb⟩
    go_wp2_with fail
    go_ret
    exact ⟨rfl, hb⟩
  have h4' : ¬ (4000 : Int) < l.length := by omega
  have HL0 := Lib.hid hL
  have HR := Lib.hid hr
  have h44 := hL.s.size
  clear hL hr
  obtain ⟨z, hz⟩ : ∃ z : Nat, Hid (IntKind.u64.wrap x = (z : Int)) := ⟨(IntKind.u64.wrap x).toNat, by unfold Hid; rw [IntKind.wrap_u64]; omega⟩
  have fz := hz.out
  obtain ⟨m, hm⟩ : ∃ m : Nat, Hid (m = l.length + 1) := ⟨_, Lib.hid rfl⟩
  have fm : IntKind.i64.wrap ((l.length : Int) + 1) = (m : Int) := by rw [IntWalk.i64_in _ (by omega), hm.out]; omega
  have fm3 : (l.length : Int) + 1 = (m : Int) := by rw [hm.out]; omega
  have fm2 : IntKind.u64.wrap (m : Int) = (m : Int) := by rw [wrapU, Nat.mod_eq_of_lt (by rw [hm.out]; omega)]
  obtain ⟨k, hk⟩ : ∃ k : Nat, Hid (k = z % m) := ⟨_, Lib.hid rfl⟩
  have hkl : k ≤ l.length := by have h1 := hk.out; have h2 := hm.out; have h3 := Nat.mod_lt z (show 0 < m by omega); omega
  have hm0 : ¬ (m : Int) = 0 := by have := hm.out; omega
  have hm1 : ¬ m = 0 := by have := hm.out; omega
  have fk : (z : Int) % (m : Int) = (k : Int) := by rw [hk.out]; omega
  have fk2 : (z : Int).tmod (m : Int) = (k : Int) := by rw [← fk, Int.tmod_eq_emod_of_nonneg (by omega)]
  have fk3 : IntKind.i64.wrap (k : Int) = (k : Int) := IntWalk.i64_in _ (by omega)
  have fk4 : IntKind.u64.wrap (k : Int) = (k : Int) := by rw [wrapU, Nat.mod_eq_of_lt (by omega)]
  have hk0 : (0 : Int) ≤ k := by omega
  have hkc : (k : Int) ≤ c := by omega
  have hkn : (k : Int) ≤ l.length := by omega
  go_enter Tryd.func6, Tryd.ntmps6
  go_wp2_with fail
  refine (new_ w).mono ?_
  rintro e w1 ⟨g, hg, rfl, hh1, hb1⟩
  have Hh1 := Lib.hid hh1
  have hs1 := hb1.size
  clear hh1
  go_wp2_with fail
  refine (own6n A k c (l.take k) _ (by rw [List.map_take]; exact (HR.out.to hb1).take hkl) (by omega)).mono ?_
  rintro e w2 ⟨A2, c2, rfl, h2, hb2⟩
  have Ho2 := Lib.hid h2
  have hs2 := hb2.size
  have hB2 : Hid (Below w.heap.size w w2) := hb1.trans (hb2.mono hs1)
  clear h2
  go_wp2_with fail
  refine (write_ w.heap.size g g [] (l.take k) A2 k c2 w2 (Hh1.out.to hb2) (Rd.of_own Ho2.out) (own_ne Ho2.out Hh1.out.lt) (by simp; omega) (HL0.out.to h44 hB2.out).s h44 (by omega)).mono ?_
  rintro e w3 ⟨r3, rfl, hr3, hh3, hw3⟩
  have Hh3 := Lib.hid hh3
  have hB3 : Hid (Below w.heap.size w w3) := hB2.out.trans (hw3.below hg hg (by omega))
  have hs3 := hw3.size
  clear hh3 hw3
  have hrk0 := Lib.hid ((HR.out.at0 hB3.out (by omega)).cut (k := k) hkl hc)
  by_cases hck : c = k
  · have hrk : Hid (Rd w3 w3.heap.size 1 A (l.length - k) ((l.drop k).map B8)) := ⟨by simp, fun h => absurd h (by omega)⟩
    go_wp2_with fail
    refine (own6n A (l.length - k) 0 (l.drop k) w3 hrk.out (by omega)).mono ?_
    rintro e w4 ⟨A4, c4, rfl, h4, hb4⟩
    have Ho4 := Lib.hid h4
    have hs4 := hb4.size
    have hB4 : Hid (Below w.heap.size w w4) := hB3.out.trans (hb4.mono (by omega))
    clear h4
    go_wp2_with fail
    refine (write_ w.heap.size g r3 ([] ++ l.take k) (l.drop k) A4 (l.length - k) c4 w4 (Hh3.out.to hb4) (Rd.of_own Ho4.out) (own_ne Ho4.out Hh3.out.lt) (by simp; omega) (HL0.out.to h44 hB4.out).s h44 (by omega)).mono ?_
    rintro e w5 ⟨r5, rfl, hr5, hh5, hw5⟩
    rw [List.nil_append, List.take_append_drop] at hh5
    have hB5 : Hid (Below w.heap.size w w5) := hB4.out.trans (hw5.below hg Hh3.out.lor (by omega))
    have hs5 := hw5.size
    have Hh5 := Lib.hid hh5
    clear hh5 hw5
    go_wp2_with fail
    obtain ⟨W, hW⟩ : ∃ W, Hid (W = w5.drew) := ⟨_, Lib.hid rfl⟩
    have dW : Below w5.heap.size w5 W := by rw [hW.out]; exact below_drew (Below.refl _ _)
    have hBW : Below w.heap.size w W := hB5.out.trans (dW.mono (by omega))
    have HL := Lib.hid (HL0.out.to h44 hBW)
    have HH := Lib.hid (Hh5.out.to dW)
    have hsW := dW.size
    have HA := Lib.hid (HR.out.at0 hBW (by omega))
    have hB := Lib.hid hBW
    refine wp_region_noPanic ?_
    refine wp_region_held_drew (S := fun w' => Below W.heap.size W w') (by kernel_rfl) (by rw [hW.out]; exact Below.refl _ _) (fun hS => ?_)
    rw [← hW.out]
    clear hS
    have hS : Below W.heap.size W W := Below.refl _ _
    refine wpAnyH_take (i := 0) (v := ?v0) rfl (by kernel_rfl) (by kernel_rfl) (by kernel_rfl) (fun _ _ _ h => h) (Or.inl ⟨by rfl, ?hy0⟩) hS ?rest0
    case hy0 => (intro w hSw; go_simp; first | done | with_reducible rfl)
    try simp only [Act.put, List.getElem_toArray, List.getElem_cons_zero, List.getElem_cons_succ, List.setIfInBounds_toArray, List.set_cons_zero, List.set_cons_succ]
    refine wpAnyH_take (i := 3) (v := ?v3) rfl (by kernel_rfl) (by kernel_rfl) (by kernel_rfl) (fun _ _ _ h => h) (Or.inl ⟨by rfl, ?hy3⟩) hS ?rest3
    case hy3 => (intro w hSw; go_simp; first | done | with_reducible rfl)
    try simp only [Act.put, List.getElem_toArray, List.getElem_cons_zero, List.getElem_cons_succ, List.setIfInBounds_toArray, List.set_cons_zero, List.set_cons_succ]
    refine wpAnyH_ready (rs := [1]) (by kernel_rfl) (by simp) ?_
    refine AllReadyH.cons rfl (fun K hK => ?_) AllReadyH.nil
    go_simp
    refine (hsum_ w.heap.size g r5 l _ HH.out (by omega) HL.out.s HL.out.s.size).mono ?_
    rintro e u6 ⟨A6, c6, rfl, h6, p6⟩
    have H6 := Lib.hid (Rd.of_own h6)
    clear h6
    replace HA := Lib.hid (HA.out.to p6)
    replace HL := Lib.hid (HL.out.go p6)
    replace hB := Lib.hid (hB.out.trans (p6.mono hB.out.size))
    go_wp2_with fail
    refine hK.out _ _ p6 ?_
    intro hS
    clear hK K
    try simp only [Act.put, List.getElem_toArray, List.getElem_cons_zero, List.getElem_cons_succ, List.setIfInBounds_toArray, List.set_cons_zero, List.set_cons_succ]
    refine wpAnyH_strong (S2 := fun w' => Below u6.heap.size u6 w') (fun w' h' => p6.trans (h'.mono p6.size)) _ _ _ _ ?_
    clear hS
    have hS : Below u6.heap.size u6 u6 := Below.refl _ _
    refine wpAnyH_take (i := 2) (v := ?v2) rfl (by kernel_rfl) (by kernel_rfl) (by kernel_rfl) (fun _ _ _ h => h) (Or.inl ⟨by rfl, ?hy2⟩) hS ?rest2
    case hy2 => (intro w hSw; have hcv := conv8 w A6 _ c6 _ (H6.out.to hSw); go_simp; first | done | with_reducible rfl)
    try simp only [Act.put, List.getElem_toArray, List.getElem_cons_zero, List.getElem_cons_succ, List.setIfInBounds_toArray, List.set_cons_zero, List.set_cons_succ]
    refine wpAnyH_ready (rs := [4]) (by kernel_rfl) (by simp) ?_
    refine AllReadyH.cons rfl (fun K hK => ?_) AllReadyH.nil
    go_simp
    refine (own6_any A _ _ l _ HA.out (by omega)).mono ?_
    rintro e u7 ⟨A7, c7, rfl, h7, p7⟩
    have H7 := Lib.hid (Rd.of_own h7)
    clear h7
    replace H6 := Lib.hid (H6.out.to p7)
    replace HL := Lib.hid (HL.out.go p7)
    replace hB := Lib.hid (hB.out.trans (p7.mono hB.out.size))
    go_wp2_with fail
    refine hK.out _ _ p7 ?_
    intro hS
    clear hK K
    try simp only [Act.put, List.getElem_toArray, List.getElem_cons_zero, List.getElem_cons_succ, List.setIfInBounds_toArray, List.set_cons_zero, List.set_cons_succ]
    refine wpAnyH_strong (S2 := fun w' => Below u7.heap.size u7 w') (fun w' h' => p7.trans (h'.mono p7.size)) _ _ _ _ ?_
    clear hS
    have hS : Below u7.heap.size u7 u7 := Below.refl _ _
    refine wpAnyH_ready (rs := [5]) (by kernel_rfl) (by simp) ?_
    refine AllReadyH.cons rfl (fun K hK => ?_) AllReadyH.nil
    go_simp
    refine (sum256_ A7 _ c7 l _ H7.out (by omega) HL.out.s HL.out.s.size).mono ?_
    rintro e u8 ⟨A8, c8, rfl, h8, p8⟩
    have H8 := Lib.hid (Rd.of_own h8)
    clear h8
    replace H6 := Lib.hid (H6.out.to p8)
    replace HL := Lib.hid (HL.out.go p8)
    replace hB := Lib.hid (hB.out.trans (p8.mono hB.out.size))
    go_wp2_with fail
    refine hK.out _ _ p8 ?_
    intro hS
    clear hK K
    try simp only [Act.put, List.getElem_toArray, List.getElem_cons_zero, List.getElem_cons_succ, List.setIfInBounds_toArray, List.set_cons_zero, List.set_cons_succ]
    refine wpAnyH_strong (S2 := fun w' => Below u8.heap.size u8 w') (fun w' h' => p8.trans (h'.mono p8.size)) _ _ _ _ ?_
    clear hS
    have hS : Below u8.heap.size u8 u8 := Below.refl _ _
    refine wpAnyH_take (i := 6) (v := ?v6) rfl (by kernel_rfl) (by kernel_rfl) (by kernel_rfl) (fun _ _ _ h => h) (Or.inl ⟨by rfl, ?hy6⟩) hS ?rest6
    case hy6 => (intro w hSw; have hcv := conv8 w A8 _ c8 _ (H8.out.to hSw); go_simp; first | done | with_reducible rfl)
    try simp only [Act.put, List.getElem_toArray, List.getElem_cons_zero, List.getElem_cons_succ, List.setIfInBounds_toArray, List.set_cons_zero, List.set_cons_succ]
    refine wpAnyH_take (i := 7) (v := ?v7) rfl (by kernel_rfl) (by kernel_rfl) (by kernel_rfl) (fun _ _ _ h => h) (Or.inl ⟨by rfl, ?hy7⟩) hS ?rest7
    case hy7 => (intro w hSw; go_simp; first | done | with_reducible rfl)
    try simp only [Act.put, List.getElem_toArray, List.getElem_cons_zero, List.getElem_cons_succ, List.setIfInBounds_toArray, List.set_cons_zero, List.set_cons_succ]
    refine wpAnyH_take (i := 8) (v := ?v8) rfl (by kernel_rfl) (by kernel_rfl) (by kernel_rfl) (fun _ _ _ h => h) (Or.inl ⟨by rfl, ?hy8⟩) hS ?rest8
    case hy8 => (intro w hSw; go_simp; first | done | with_reducible rfl)
    try simp only [Act.put, List.getElem_toArray, List.getElem_cons_zero, List.getElem_cons_succ, List.setIfInBounds_toArray, List.set_cons_zero, List.set_cons_succ]
    refine wpAnyH_ready (rs := [9]) (by kernel_rfl) (by simp) ?_
    refine AllReadyH.cons rfl (fun K hK => ?_) AllReadyH.nil
    go_simp
    refine (awake6_any _ HL.out).mono ?_
    rintro e u9 ⟨rfl, p9⟩
    replace hB := Lib.hid (hB.out.trans (p9.mono hB.out.size))
    go_wp2_with fail
    refine hK.out _ _ p9 ?_
    intro hS
    clear hK K
    try simp only [Act.put, List.getElem_toArray, List.getElem_cons_zero, List.getElem_cons_succ, List.setIfInBounds_toArray, List.set_cons_zero, List.set_cons_succ]
    refine wpAnyH_take (i := 10) (v := ?v10) rfl (by kernel_rfl) (by kernel_rfl) (by kernel_rfl) (fun _ _ _ h => h) (Or.inl ⟨by rfl, ?hy10⟩) hS ?rest10
    case hy10 => (intro w hSw; go_simp; first | done | with_reducible rfl)
    try simp only [Act.put, List.getElem_toArray, List.getElem_cons_zero, List.getElem_cons_succ, List.setIfInBounds_toArray, List.set_cons_zero, List.set_cons_succ]
    refine wpAnyH_take (i := 11) (v := ?v11) rfl (by kernel_rfl) (by kernel_rfl) (by kernel_rfl) (fun _ _ _ h => h) (Or.inl ⟨by rfl, ?hy11⟩) hS ?rest11
    case hy11 => (intro w hSw; go_simp; first | done | with_reducible rfl)
    try simp only [Act.put, List.getElem_toArray, List.getElem_cons_zero, List.getElem_cons_succ, List.setIfInBounds_toArray, List.set_cons_zero, List.set_cons_succ]
    refine wpAnyH_done (by kernel_rfl) (NoPanic.normal ?_) _
    go_wp2_with fail
    go_ret
    exact ⟨rfl, hB.out⟩
  · have hrk1 := hrk0.out
    rw [if_neg hck, Nat.mul_one, ← List.map_drop] at hrk1
    go_wp2_with fail
    generalize hAk : Option.map _ A = Ak
    generalize hck' : c - k = ck
    have hrk : Hid (Rd w3 w3.heap.size 1 Ak (l.length - k) ((l.drop k).map B8)) := by
      unfold Hid
      rw [← hAk]
      simpa [Addr.add] using hrk1
    refine (own6n Ak (l.length - k) ck (l.drop k) w3 hrk.out (by omega)).mono ?_
    rintro e w4 ⟨A4, c4, rfl, h4, hb4⟩
    have Ho4 := Lib.hid h4
    have hs4 := hb4.size
    have hB4 : Hid (Below w.heap.size w w4) := hB3.out.trans (hb4.mono (by omega))
    clear h4
    go_wp2_with fail
    refine (write_ w.heap.size g r3 ([] ++ l.take k) (l.drop k) A4 (l.length - k) c4 w4 (Hh3.out.to hb4) (Rd.of_own Ho4.out) (own_ne Ho4.out Hh3.out.lt) (by simp; omega) (HL0.out.to h44 hB4.out).s h44 (by omega)).mono ?_
    rintro e w5 ⟨r5, rfl, hr5, hh5, hw5⟩
    rw [List.nil_append, List.take_append_drop] at hh5
    have hB5 : Hid (Below w.heap.size w w5) := hB4.out.trans (hw5.below hg Hh3.out.lor (by omega))
    have hs5 := hw5.size
    have Hh5 := Lib.hid hh5
    clear hh5 hw5
    go_wp2_with fail
    obtain ⟨W, hW⟩ : ∃ W, Hid (W = w5.drew) := ⟨_, Lib.hid rfl⟩
    have dW : Below w5.heap.size w5 W := by rw [hW.out]; exact below_drew (Below.refl _ _)
    have hBW : Below w.heap.size w W := hB5.out.trans (dW.mono (by omega))
    have HL := Lib.hid (HL0.out.to h44 hBW)
    have HH := Lib.hid (Hh5.out.to dW)
    have hsW := dW.size
    have HA := Lib.hid (HR.out.at0 hBW (by omega))
    have hB := Lib.hid hBW
    refine wp_region_noPanic ?_
    refine wp_region_held_drew (S := fun w' => Below W.heap.size W w') (by kernel_rfl) (by rw [hW.out]; exact Below.refl _ _) (fun hS => ?_)
    rw [← hW.out]
    clear hS
    have hS : Below W.heap.size W W := Below.refl _ _
    refine wpAnyH_take (i := 0) (v := ?vb0) rfl (by kernel_rfl) (by kernel_rfl) (by kernel_rfl) (fun _ _ _ h => h) (Or.inl ⟨by rfl, ?hyb0⟩) hS ?restb0
    case hyb0 => (intro w hSw; go_simp; first | done | with_reducible rfl)
    try simp only [Act.put, List.getElem_toArray, List.getElem_cons_zero, List.getElem_cons_succ, List.setIfInBounds_toArray, List.set_cons_zero, List.set_cons_succ]
    refine wpAnyH_take (i := 3) (v := ?vb3) rfl (by kernel_rfl) (by kernel_rfl) (by kernel_rfl) (fun _ _ _ h => h) (Or.inl ⟨by rfl, ?hyb3⟩) hS ?restb3
    case hyb3 => (intro w hSw; go_simp; first | done | with_reducible rfl)
    try simp only [Act.put, List.getElem_toArray, List.getElem_cons_zero, List.getElem_cons_succ, List.setIfInBounds_toArray, List.set_cons_zero, List.set_cons_succ]
    refine wpAnyH_ready (rs := [1]) (by kernel_rfl) (by simp) ?_
    refine AllReadyH.cons rfl (fun K hK => ?_) AllReadyH.nil
    go_simp
    refine (hsum_ w.heap.size g r5 l _ HH.out (by omega) HL.out.s HL.out.s.size).mono ?_
    rintro e u6 ⟨A6, c6, rfl, h6, p6⟩
    have H6 := Lib.hid (Rd.of_own h6)
    clear h6
    replace HA := Lib.hid (HA.out.to p6)
    replace HL := Lib.hid (HL.out.go p6)
    replace hB := Lib.hid (hB.out.trans (p6.mono hB.out.size))
    go_wp2_with fail
    refine hK.out _ _ p6 ?_
    intro hS
    clear hK K
    try simp only [Act.put, List.getElem_toArray, List.getElem_cons_zero, List.getElem_cons_succ, List.setIfInBounds_toArray, List.set_cons_zero, List.set_cons_succ]
    refine wpAnyH_strong (S2 := fun w' => Below u6.heap.size u6 w') (fun w' h' => p6.trans (h'.mono p6.size)) _ _ _ _ ?_
    clear hS
    have hS : Below u6.heap.size u6 u6 := Below.refl _ _
    refine wpAnyH_take (i := 2) (v := ?vb2) rfl (by kernel_rfl) (by kernel_rfl) (by kernel_rfl) (fun _ _ _ h => h) (Or.inl ⟨by rfl, ?hyb2⟩) hS ?restb2
    case hyb2 => (intro w hSw; have hcv := conv8 w A6 _ c6 _ (H6.out.to hSw); go_simp; first | done | with_reducible rfl)
    try simp only [Act.put, List.getElem_toArray, List.getElem_cons_zero, List.getElem_cons_succ, List.setIfInBounds_toArray, List.set_cons_zero, List.set_cons_succ]
    refine wpAnyH_ready (rs := [4]) (by kernel_rfl) (by simp) ?_
    refine AllReadyH.cons rfl (fun K hK => ?_) AllReadyH.nil
    go_simp
    refine (own6_any A _ _ l _ HA.out (by omega)).mono ?_
    rintro e u7 ⟨A7, c7, rfl, h7, p7⟩
    have H7 := Lib.hid (Rd.of_own h7)
    clear h7
    replace H6 := Lib.hid (H6.out.to p7)
    replace HL := Lib.hid (HL.out.go p7)
    replace hB := Lib.hid (hB.out.trans (p7.mono hB.out.size))
    go_wp2_with fail
    refine hK.out _ _ p7 ?_
    intro hS
    clear hK K
    try simp only [Act.put, List.getElem_toArray, List.getElem_cons_zero, List.getElem_cons_succ, List.setIfInBounds_toArray, List.set_cons_zero, List.set_cons_succ]
    refine wpAnyH_strong (S2 := fun w' => Below u7.heap.size u7 w') (fun w' h' => p7.trans (h'.mono p7.size)) _ _ _ _ ?_
    clear hS
    have hS : Below u7.heap.size u7 u7 := Below.refl _ _
    refine wpAnyH_ready (rs := [5]) (by kernel_rfl) (by simp) ?_
    refine AllReadyH.cons rfl (fun K hK => ?_) AllReadyH.nil
    go_simp
    refine (sum256_ A7 _ c7 l _ H7.out (by omega) HL.out.s HL.out.s.size).mono ?_
    rintro e u8 ⟨A8, c8, rfl, h8, p8⟩
    have H8 := Lib.hid (Rd.of_own h8)
    clear h8
    replace H6 := Lib.hid (H6.out.to p8)
    replace HL := Lib.hid (HL.out.go p8)
    replace hB := Lib.hid (hB.out.trans (p8.mono hB.out.size))
    go_wp2_with fail
    refine hK.out _ _ p8 ?_
    intro hS
    clear hK K
    try simp only [Act.put, List.getElem_toArray, List.getElem_cons_zero, List.getElem_cons_succ, List.setIfInBounds_toArray, List.set_cons_zero, List.set_cons_succ]
    refine wpAnyH_strong (S2 := fun w' => Below u8.heap.size u8 w') (fun w' h' => p8.trans (h'.mono p8.size)) _ _ _ _ ?_
    clear hS
    have hS : Below u8.heap.size u8 u8 := Below.refl _ _
    refine wpAnyH_take (i := 6) (v := ?vb6) rfl (by kernel_rfl) (by kernel_rfl) (by kernel_rfl) (fun _ _ _ h => h) (Or.inl ⟨by rfl, ?hyb6⟩) hS ?restb6
    case hyb6 => (intro w hSw; have hcv := conv8 w A8 _ c8 _ (H8.out.to hSw); go_simp; first | done | with_reducible rfl)
    try simp only [Act.put, List.getElem_toArray, List.getElem_cons_zero, List.getElem_cons_succ, List.setIfInBounds_toArray, List.set_cons_zero, List.set_cons_succ]
    refine wpAnyH_take (i := 7) (v := ?vb7) rfl (by kernel_rfl) (by kernel_rfl) (by kernel_rfl) (fun _ _ _ h => h) (Or.inl ⟨by rfl, ?hyb7⟩) hS ?restb7
    case hyb7 => (intro w hSw; go_simp; first | done | with_reducible rfl)
    try simp only [Act.put, List.getElem_toArray, List.getElem_cons_zero, List.getElem_cons_succ, List.setIfInBounds_toArray, List.set_cons_zero, List.set_cons_succ]
    refine wpAnyH_take (i := 8) (v := ?vb8) rfl (by kernel_rfl) (by kernel_rfl) (by kernel_rfl) (fun _ _ _ h => h) (Or.inl ⟨by rfl, ?hyb8⟩) hS ?restb8
    case hyb8 => (intro w hSw; go_simp; first | done | with_reducible rfl)
    try simp only [Act.put, List.getElem_toArray, List.getElem_cons_zero, List.getElem_cons_succ, List.setIfInBounds_toArray, List.set_cons_zero, List.set_cons_succ]
    refine wpAnyH_ready (rs := [9]) (by kernel_rfl) (by simp) ?_
    refine AllReadyH.cons rfl (fun K hK => ?_) AllReadyH.nil
    go_simp
    refine (awake6_any _ HL.out).mono ?_
    rintro e u9 ⟨rfl, p9⟩
    replace hB := Lib.hid (hB.out.trans (p9.mono hB.out.size))
    go_wp2_with fail
    refine hK.out _ _ p9 ?_
    intro hS
    clear hK K
    try simp only [Act.put, List.getElem_toArray, List.getElem_cons_zero, List.getElem_cons_succ, List.setIfInBounds_toArray, List.set_cons_zero, List.set_cons_succ]
    refine wpAnyH_take (i := 10) (v := ?vb10) rfl (by kernel_rfl) (by kernel_rfl) (by kernel_rfl) (fun _ _ _ h => h) (Or.inl ⟨by rfl, ?hyb10⟩) hS ?restb10
    case hyb10 => (intro w hSw; go_simp; first | done | with_reducible rfl)
    try simp only [Act.put, List.getElem_toArray, List.getElem_cons_zero, List.getElem_cons_succ, List.setIfInBounds_toArray, List.set_cons_zero, List.set_cons_succ]
    refine wpAnyH_take (i := 11) (v := ?vb11) rfl (by kernel_rfl) (by kernel_rfl) (by kernel_rfl) (fun _ _ _ h => h) (Or.inl ⟨by rfl, ?hyb11⟩) hS ?restb11
    case hyb11 => (intro w hSw; go_simp; first | done | with_reducible rfl)
    try simp only [Act.put, List.getElem_toArray, List.getElem_cons_zero, List.getElem_cons_succ, List.setIfInBounds_toArray, List.set_cons_zero, List.set_cons_succ]
    refine wpAnyH_done (by kernel_rfl) (NoPanic.normal ?_) _
    go_wp2_with fail
    go_ret
    exact ⟨rfl, hB.out⟩

set_option maxRecDepth 20000 in
set_option maxHeartbeats 8000000 in
theorem shaClones_walk (A : Option Addr) (n c : Nat) (la : List UInt8) (A' : Option Addr) (n' c' : Nat) (lb : List UInt8) (A'' : Option Addr) (n'' c'' : Nat) (lc : List UInt8) (w : World) (hra : Rd w w.heap.size 1 A n (la.map B8)) (_ : n ≤ c) (hna : n ≤ 140737488351232)
    (hrb : Rd w w.heap.size 1 A' n' (lb.map B8)) (_ : n' ≤ c') (hnb : n' ≤ 140737488351232) (hrc : Rd w w.heap.size 1 A'' n'' (lc.map B8)) (_ : n'' ≤ c'') (hnc : n'' ≤ 140737488351232) (hL : Lay w) :
    Calls Tryd.prog 7 #[.slice A n c, .slice A' n' c', .slice A'' n'' c''] w fun r w' => r = .returned (.bool true) ∧ Below w.heap.size w w' := by
  obtain rfl : la.length = n := by simpa using hra.len
  obtain rfl : lb.length = n' := by simpa using hrb.len
  obtain rfl : lc.length = n'' := by simpa using hrc.len
  by_cases h4 : 4000 < la.length ∨ 4000 < lb.length ∨ 4000 < lc.length
  · have h4a : ¬ (4000 : Int) < la.length ∨ (4000 : Int) < la.length := by omega
    have h4b : ¬ (4000 : Int) < lb.length ∨ (4000 : Int) < lb.length := by omega
    rcases h4a with h4a | h4a <;> rcases h4b with h4b | h4b
    · have h4c : (4000 : Int) < lc.length := by omega
      go_enter Tryd.func7, Tryd.ntmps7
      go_wp2_with fail
      refine (awake6_any w hL).mono ?_
      rintro e w1 ⟨rfl, hb⟩
      go_wp2_with fail
      go_ret
      exact ⟨rfl, hb⟩
    · go_enter Tryd.func7, Tryd.ntmps7
      go_wp2_with fail
      refine (awake6_any w hL).mono ?_
      rintro e w1 ⟨rfl, hb⟩
      go_wp2_with fail
      go_ret
      exact ⟨rfl, hb⟩
    · go_enter Tryd.func7, Tryd.ntmps7
      go_wp2_with fail
      refine (awake6_any w hL).mono ?_
      rintro e w1 ⟨rfl, hb⟩
      go_wp2_with fail
      go_ret
      exact ⟨rfl, hb⟩
    · go_enter Tryd.func7, Tryd.ntmps7
      go_wp2_with fail
      refine (awake6_any w hL).mono ?_
      rintro e w1 ⟨rfl, hb⟩
      go_wp2_with fail
      go_ret
      exact ⟨rfl, hb⟩
  obtain ⟨ha4, hb4', hc4⟩ : la.length ≤ 4000 ∧ lb.length ≤ 4000 ∧ lc.length ≤ 4000 := by omega
  have h4a : ¬ (4000 : Int) < la.length := by omega
  have h4b : ¬ (4000 : Int) < lb.length := by omega
  have h4c : ¬ (4000 : Int) < lc.length := by omega
  have HL0 := Lib.hid hL
  have HRa := Lib.hid hra
  have HRb := Lib.hid hrb
  have HRc := Lib.hid hrc
  have h44 := hL.s.size
  clear hL hra hrb hrc h4
  go_enter Tryd.func7, Tryd.ntmps7
  go_wp2_with fail
  refine (new_ w).mono ?_
  rintro e w1 ⟨g, hg, rfl, hh1, hb1⟩
  have Hh1 := Lib.hid hh1
  have hs1 := hb1.size
  clear hh1
  go_wp2_with fail
  refine (own6_any A _ c la _ (HRa.out.to hb1) (by omega)).mono ?_
  rintro e w2 ⟨A2, c2, rfl, h2, hb2⟩
  have Ho2 := Lib.hid h2
  have hs2 := hb2.size
  have hB2 : Hid (Below w.heap.size w w2) := hb1.trans (hb2.mono hs1)
  clear h2
  go_wp2_with fail
  refine (write_ w.heap.size g g [] la A2 _ c2 w2 (Hh1.out.to hb2) (Rd.of_own Ho2.out) (own_ne Ho2.out Hh1.out.lt) (by simp; omega) (HL0.out.to h44 hB2.out).s h44 (by omega)).mono ?_
  rintro e w3 ⟨r3, rfl, hr3, hh3, hw3⟩
  rw [List.nil_append] at hh3
  have Hh3 := Lib.hid hh3
  have hB3 : Hid (Below w.heap.size w w3) := hB2.out.trans (hw3.below hg hg (by omega))
  have hs3 := hw3.size
  have hr3s : r3 < w3.heap.size := by
    rcases hr3.out with h | h
    · rw [h]; exact hh3.lt
    · exact h.2
  clear hh3 hw3
  go_wp2_with fail
  refine (clone_ w.heap.size g r3 la w3 Hh3.out (by omega)).mono ?_
  rintro e w4 ⟨g4, r4, rfl, hr4s, hk4, hb4⟩
  have Hk4 := Lib.hid hk4
  have Hh4 := Lib.hid (Hh3.out.to hb4)
  have hs4 := hb4.size
  have hB4 : Hid (Below w.heap.size w w4) := hB3.out.trans (hb4.mono (by omega))
  have hgl : g < w3.heap.size := Hh3.out.lt
  have hg4 : w3.heap.size ≤ g4 := hk4.lo
  have hr4 : w3.heap.size ≤ r4 := hk4.lor
  have hg4s : g4 < w4.heap.size := hk4.lt
  clear hk4
  go_wp2_with fail
  refine (own6_any A' _ c' lb _ (HRb.out.at0 hB4.out (by omega)) (by omega)).mono ?_
  rintro e w5 ⟨A5, c5, rfl, h5, hb5⟩
  have Ho5 := Lib.hid h5
  have hs5 := hb5.size
  have hB5 : Hid (Below w.heap.size w w5) := hB4.out.trans (hb5.mono (by omega))
  clear h5
  go_wp2_with fail
  refine (write_ w.heap.size g r3 la lb A5 _ c5 w5 (Hh4.out.to hb5) (Rd.of_own Ho5.out) (own_ne Ho5.out (by omega)) (by omega) (HL0.out.to h44 hB5.out).s h44 (by omega)).mono ?_
  rintro e w6 ⟨r6, rfl, hr6, hh6, hw6⟩
  have hB6 : Hid (Below w.heap.size w w6) := hB5.out.trans (hw6.below hg Hh3.out.lor (by omega))
  have hs6 := hw6.size
  have hk5 := Hk4.out.to hb5
  have Hk6 : Hid (Ha w6 w3.heap.size g4 r4 la) := hk5.same (hw6.block g4 hk5.lt (by omega) (by omega)) (fun h => hw6.block r4 h (by omega) (by omega))
  have Hh6 := Lib.hid hh6
  have hr6' : r6 = r3 ∨ w5.heap.size ≤ r6 := hr6.out.imp id And.left
  clear hh6 hw6 hk5
  go_wp2_with fail
  refine (own6_any A'' _ c'' lc _ (HRc.out.at0 hB6.out (by omega)) (by omega)).mono ?_
  rintro e w7 ⟨A7, c7, rfl, h7, hb7⟩
  have Ho7 := Lib.hid h7
  have hs7 := hb7.size
  have hB7 : Hid (Below w.heap.size w w7) := hB6.out.trans (hb7.mono (by omega))
  clear h7
  go_wp2_with fail
  refine (write_ w3.heap.size g4 r4 la lc A7 _ c7 w7 (Hk6.out.to hb7) (Rd.of_own Ho7.out) (own_ne Ho7.out (by omega)) (by omega) (HL0.out.to h44 hB7.out).s (by omega) (by omega)).mono ?_
  rintro e w8 ⟨r8, rfl, hr8, hk8, hw8⟩
  have hB8 : Hid (Below w.heap.size w w8) := hB7.out.trans (hw8.below (by omega) (by omega) (by omega))
  have hs8 := hw8.size
  have hh7 := Hh6.out.to hb7
  have Hh8 : Hid (Ha w8 w.heap.size g r6 (la ++ lb)) := hh7.same (hw8.block g hh7.lt (by omega) (by omega)) (fun h => hw8.block r6 h (by omega) (by omega))
  have Hk8 := Lib.hid hk8
  clear hk8 hw8 hh7
  go_wp2_with fail
  refine (own6_any A _ c la _ (HRa.out.at0 hB8.out (by omega)) (by omega)).mono ?_
  rintro e w9 ⟨A9, c9, rfl, h9, hb9⟩
  have Ho9 := Lib.hid (OwnS.of_own h9)
  have hs9 := hb9.size
  have hB9 : Hid (Below w.heap.size w w9) := hB8.out.trans (hb9.mono (by omega))
  have hrb9 := Lib.hid (HRb.out.at0 hB9.out (by omega))
  have hob := Lib.hid (oneB lb)
  have hoc := Lib.hid (oneB lc)
  clear h9
  go_wp2_with (
    refine wpList_apT rfl (.tmp 41) (.tmp 42) 22 rfl w8.heap.size 5 1 (.int .u8 0) Tryd.underlying22 infoB rfl A9 la.length c9 (la.map B8) rfl Ho9.out w9.heap.size A' lb.length c' (lb.map B8) rfl hrb9.out hob.out (by simp only [maxLen]; omega) (by omega) (by omega) ?_
    intro X1 cx w10 o10 b10 _ _ _
    rw [← List.map_append] at o10
    have Hx10 := Lib.hid o10
    have Hb10 := Lib.hid b10
    clear o10 b10)
  have hs10 := Hb10.out.size
  have hB10 : Hid (Below w.heap.size w w10) := hB9.out.trans (Hb10.out.mono (by omega))
  refine (own6_any A _ c la _ (HRa.out.at0 hB10.out (by omega)) (by omega)).mono ?_
  rintro e w11 ⟨A11', c11', rfl, h11, hb11⟩
  have Ho11 := Lib.hid (OwnS.of_own h11)
  have hs11 := hb11.size
  have hB11 : Hid (Below w.heap.size w w11) := hB10.out.trans (hb11.mono (by omega))
  have hrc11 := Lib.hid (HRc.out.at0 hB11.out (by omega))
  clear h11
  go_wp2_with (
    refine wpList_apT rfl (.tmp 45) (.tmp 46) 22 rfl w10.heap.size 5 1 (.int .u8 0) Tryd.underlying22 infoB rfl A11' la.length c11' (la.map B8) rfl Ho11.out w11.heap.size A'' lc.length c'' (lc.map B8) rfl hrc11.out hoc.out (by simp only [maxLen]; omega) (by omega) (by omega) ?_
    intro Y1 cy w12 o12 b12 _ _ _
    rw [← List.map_append] at o12
    have Hy12 := Lib.hid o12
    have Hb12 := Lib.hid b12
    clear o12 b12)
  have hs12 := Hb12.out.size
  have hB12 : Hid (Below w.heap.size w w12) := hB11.out.trans (Hb12.out.mono (by omega))
  have q812 : Hid (Below w8.heap.size w8 w12) := hb9.trans ((Hb10.out.mono (Nat.le_refl _)).trans ((hb11.mono (by omega)).trans (Hb12.out.mono (by omega))))
  have q1012 : Hid (Below w10.heap.size w10 w12) := hb11.trans (Hb12.out.mono (Nat.le_refl _))
  obtain ⟨B, hBe⟩ : ∃ B, B = w3.heap.size := ⟨_, rfl⟩
  rw [← hBe] at Hk8
  have HBe := Lib.hid hBe
  clear hBe
  go_wp2_with fail
  obtain ⟨W, hW⟩ : ∃ W, Hid (W = w12.drew) := ⟨_, Lib.hid rfl⟩
  have dW : Below w12.heap.size w12 W := by rw [hW.out]; exact below_drew (Below.refl _ _)
  have hBW : Below w.heap.size w W := hB12.out.trans (dW.mono (by omega))
  have hsW := dW.size
  have HL := Lib.hid (HL0.out.to h44 hBW)
  have HH := Lib.hid ((Hh8.out.to q812.out).to dW)
  have HK := Lib.hid ((Hk8.out.to q812.out).to dW)
  have X := Lib.hid ((Hx10.out.rd.to q1012.out).to dW)
  have Y := Lib.hid (Hy12.out.rd.to dW)
  have hB := Lib.hid hBW
  refine wp_region_noPanic ?_
  refine wp_region_held_drew (S := fun w' => Below W.heap.size W w') (by kernel_rfl) (by rw [hW.out]; exact Below.refl _ _) (fun hS => ?_)
  rw [← hW.out]
  clear hS
  have hS : Below W.heap.size W W := Below.refl _ _
  refine wpAnyH_take (i := 0) (v := ?v0) rfl (by kernel_rfl) (by kernel_rfl) (by kernel_rfl) (fun _ _ _ h => h) (Or.inl ⟨by rfl, ?hy0⟩) hS ?rest0
  case hy0 => (intro w hSw; go_simp; first | done | with_reducible rfl)
  try simp only [Act.put, List.getElem_toArray, List.getElem_cons_zero, List.getElem_cons_succ, List.setIfInBounds_toArray, List.set_cons_zero, List.set_cons_succ]
  refine wpAnyH_take (i := 3) (v := ?v3) rfl (by kernel_rfl) (by kernel_rfl) (by kernel_rfl) (fun _ _ _ h => h) (Or.inl ⟨by rfl, ?hy3⟩) hS ?rest3
  case hy3 => (intro w hSw; go_simp; first | done | with_reducible rfl)
  try simp only [Act.put, List.getElem_toArray, List.getElem_cons_zero, List.getElem_cons_succ, List.setIfInBounds_toArray, List.set_cons_zero, List.set_cons_succ]
  refine wpAnyH_ready (rs := [1]) (by kernel_rfl) (by simp) ?_
  refine AllReadyH.cons rfl (fun K hK => ?_) AllReadyH.nil
  go_simp
  refine (hsum_ w.heap.size g r6 (la ++ lb) _ HH.out (by rw [List.length_append]; omega) HL.out.s HL.out.s.size).mono ?_
  rintro e u1 ⟨A11, c11, rfl, h11, p11⟩
  have S1 := Lib.hid (Rd.of_own h11)
  clear h11
  replace HK := Lib.hid (HK.out.to p11)
  replace X := Lib.hid (X.out.to p11)
  replace Y := Lib.hid (Y.out.to p11)
  replace HL := Lib.hid (HL.out.go p11)
  replace hB := Lib.hid (hB.out.trans (p11.mono hB.out.size))
  go_wp2_with fail
  refine hK.out _ _ p11 ?_
  intro hS
  clear hK K
  try simp only [Act.put, List.getElem_toArray, List.getElem_cons_zero, List.getElem_cons_succ, List.setIfInBounds_toArray, List.set_cons_zero, List.set_cons_succ]
  refine wpAnyH_strong (S2 := fun w' => Below u1.heap.size u1 w') (fun w' h' => p11.trans (h'.mono p11.size)) _ _ _ _ ?_
  clear hS
  have hS : Below u1.heap.size u1 u1 := Below.refl _ _
  refine wpAnyH_take (i := 2) (v := ?v2) rfl (by kernel_rfl) (by kernel_rfl) (by kernel_rfl) (fun _ _ _ h => h) (Or.inl ⟨by rfl, ?hy2⟩) hS ?rest2
  case hy2 => (intro w hSw; have hcv := conv8 w A11 _ c11 _ (S1.out.to hSw); go_simp; first | done | with_reducible rfl)
  try simp only [Act.put, List.getElem_toArray, List.getElem_cons_zero, List.getElem_cons_succ, List.setIfInBounds_toArray, List.set_cons_zero, List.set_cons_succ]
  refine wpAnyH_ready (rs := [4]) (by kernel_rfl) (by simp) ?_
  refine AllReadyH.cons rfl (fun K hK => ?_) AllReadyH.nil
  go_simp
  refine (refSum_32 X1 _ cx (la ++ lb) _ X.out (by omega)).mono ?_
  rintro e u2 ⟨A12, c12, rfl, h12, p12⟩
  have S2 := Lib.hid (Rd.of_own h12)
  clear h12
  replace HK := Lib.hid (HK.out.to p12)
  replace S1 := Lib.hid (S1.out.to p12)
  replace Y := Lib.hid (Y.out.to p12)
  replace HL := Lib.hid (HL.out.go p12)
  replace hB := Lib.hid (hB.out.trans (p12.mono hB.out.size))
  go_wp2_with fail
  refine hK.out _ _ p12 ?_
  intro hS
  clear hK K
  try simp only [Act.put, List.getElem_toArray, List.getElem_cons_zero, List.getElem_cons_succ, List.setIfInBounds_toArray, List.set_cons_zero, List.set_cons_succ]
  refine wpAnyH_strong (S2 := fun w' => Below u2.heap.size u2 w') (fun w' h' => p12.trans (h'.mono p12.size)) _ _ _ _ ?_
  clear hS
  have hS : Below u2.heap.size u2 u2 := Below.refl _ _
  refine wpAnyH_take (i := 5) (v := ?v5) rfl (by kernel_rfl) (by kernel_rfl) (by kernel_rfl) (fun _ _ _ h => h) (Or.inl ⟨by rfl, ?hy5⟩) hS ?rest5
  case hy5 => (intro w hSw; have hcv := conv8 w A12 _ c12 _ (S2.out.to hSw); go_simp; first | done | with_reducible rfl)
  try simp only [Act.put, List.getElem_toArray, List.getElem_cons_zero, List.getElem_cons_succ, List.setIfInBounds_toArray, List.set_cons_zero, List.set_cons_succ]
  refine wpAnyH_take (i := 6) (v := ?v6) rfl (by kernel_rfl) (by kernel_rfl) (by kernel_rfl) (fun _ _ _ h => h) (Or.inl ⟨by rfl, ?hy6⟩) hS ?rest6
  case hy6 => (intro w hSw; go_simp; first | done | with_reducible rfl)
  try simp only [Act.put, List.getElem_toArray, List.getElem_cons_zero, List.getElem_cons_succ, List.setIfInBounds_toArray, List.set_cons_zero, List.set_cons_succ]
  refine wpAnyH_take (i := 7) (v := ?v7) rfl (by kernel_rfl) (by kernel_rfl) (by kernel_rfl) (fun _ _ _ h => h) (Or.inl ⟨by rfl, ?hy7⟩) hS ?rest7
  case hy7 => (intro w hSw; go_simp; first | done | with_reducible rfl)
  try simp only [Act.put, List.getElem_toArray, List.getElem_cons_zero, List.getElem_cons_succ, List.setIfInBounds_toArray, List.set_cons_zero, List.set_cons_succ]
  refine wpAnyH_take (i := 8) (v := ?v8) rfl (by kernel_rfl) (by kernel_rfl) (by kernel_rfl) (fun _ _ _ h => h) (Or.inl ⟨by rfl, ?hy8⟩) hS ?rest8
  case hy8 => (intro w hSw; go_simp; first | done | with_reducible rfl)
  try simp only [Act.put, List.getElem_toArray, List.getElem_cons_zero, List.getElem_cons_succ, List.setIfInBounds_toArray, List.set_cons_zero, List.set_cons_succ]
  refine wpAnyH_take (i := 11) (v := ?v11) rfl (by kernel_rfl) (by kernel_rfl) (by kernel_rfl) (fun _ _ _ h => h) (Or.inl ⟨by rfl, ?hy11⟩) hS ?rest11
  case hy11 => (intro w hSw; go_simp; first | done | with_reducible rfl)
  try simp only [Act.put, List.getElem_toArray, List.getElem_cons_zero, List.getElem_cons_succ, List.setIfInBounds_toArray, List.set_cons_zero, List.set_cons_succ]
  refine wpAnyH_ready (rs := [9]) (by kernel_rfl) (by simp) ?_
  refine AllReadyH.cons rfl (fun K hK => ?_) AllReadyH.nil
  go_simp
  refine (hsum_ B g4 r8 (la ++ lc) _ HK.out (by rw [List.length_append]; omega) HL.out.s HL.out.s.size).mono ?_
  rintro e u3 ⟨A13, c13, rfl, h13, p13⟩
  have S3 := Lib.hid (Rd.of_own h13)
  clear h13
  replace S1 := Lib.hid (S1.out.to p13)
  replace S2 := Lib.hid (S2.out.to p13)
  replace Y := Lib.hid (Y.out.to p13)
  replace HL := Lib.hid (HL.out.go p13)
  replace hB := Lib.hid (hB.out.trans (p13.mono hB.out.size))
  go_wp2_with fail
  refine hK.out _ _ p13 ?_
  intro hS
  clear hK K
  try simp only [Act.put, List.getElem_toArray, List.getElem_cons_zero, List.getElem_cons_succ, List.setIfInBounds_toArray, List.set_cons_zero, List.set_cons_succ]
  refine wpAnyH_strong (S2 := fun w' => Below u3.heap.size u3 w') (fun w' h' => p13.trans (h'.mono p13.size)) _ _ _ _ ?_
  clear hS
  have hS : Below u3.heap.size u3 u3 := Below.refl _ _
  refine wpAnyH_take (i := 10) (v := ?v10) rfl (by kernel_rfl) (by kernel_rfl) (by kernel_rfl) (fun _ _ _ h => h) (Or.inl ⟨by rfl, ?hy10⟩) hS ?rest10
  case hy10 => (intro w hSw; have hcv := conv8 w A13 _ c13 _ (S3.out.to hSw); go_simp; first | done | with_reducible rfl)
  try simp only [Act.put, List.getElem_toArray, List.getElem_cons_zero, List.getElem_cons_succ, List.setIfInBounds_toArray, List.set_cons_zero, List.set_cons_succ]
  refine wpAnyH_ready (rs := [12]) (by kernel_rfl) (by simp) ?_
  refine AllReadyH.cons rfl (fun K hK => ?_) AllReadyH.nil
  go_simp
  refine (refSum_32 Y1 _ cy (la ++ lc) _ Y.out (by omega)).mono ?_
  rintro e u4 ⟨A14, c14, rfl, h14, p14⟩
  have S4 := Lib.hid (Rd.of_own h14)
  clear h14
  replace S1 := Lib.hid (S1.out.to p14)
  replace S2 := Lib.hid (S2.out.to p14)
  replace S3 := Lib.hid (S3.out.to p14)
  replace HL := Lib.hid (HL.out.go p14)
  replace hB := Lib.hid (hB.out.trans (p14.mono hB.out.size))
  go_wp2_with fail
  refine hK.out _ _ p14 ?_
  intro hS
  clear hK K
  try simp only [Act.put, List.getElem_toArray, List.getElem_cons_zero, List.getElem_cons_succ, List.setIfInBounds_toArray, List.set_cons_zero, List.set_cons_succ]
  refine wpAnyH_strong (S2 := fun w' => Below u4.heap.size u4 w') (fun w' h' => p14.trans (h'.mono p14.size)) _ _ _ _ ?_
  clear hS
  have hS : Below u4.heap.size u4 u4 := Below.refl _ _
  refine wpAnyH_take (i := 13) (v := ?v13) rfl (by kernel_rfl) (by kernel_rfl) (by kernel_rfl) (fun _ _ _ h => h) (Or.inl ⟨by rfl, ?hy13⟩) hS ?rest13
  case hy13 => (intro w hSw; have hcv := conv8 w A14 _ c14 _ (S4.out.to hSw); go_simp; first | done | with_reducible rfl)
  try simp only [Act.put, List.getElem_toArray, List.getElem_cons_zero, List.getElem_cons_succ, List.setIfInBounds_toArray, List.set_cons_zero, List.set_cons_succ]
  refine wpAnyH_take (i := 14) (v := ?v14) rfl (by kernel_rfl) (by kernel_rfl) (by kernel_rfl) (fun _ _ _ h => h) (Or.inl ⟨by rfl, ?hy14⟩) hS ?rest14
  case hy14 => (intro w hSw; go_simp; first | done | with_reducible rfl)
  try simp only [Act.put, List.getElem_toArray, List.getElem_cons_zero, List.getElem_cons_succ, List.setIfInBounds_toArray, List.set_cons_zero, List.set_cons_succ]
  refine wpAnyH_take (i := 15) (v := ?v15) rfl (by kernel_rfl) (by kernel_rfl) (by kernel_rfl) (fun _ _ _ h => h) (Or.inl ⟨by rfl, ?hy15⟩) hS ?rest15
  case hy15 => (intro w hSw; go_simp; first | done | with_reducible rfl)
  try simp only [Act.put, List.getElem_toArray, List.getElem_cons_zero, List.getElem_cons_succ, List.setIfInBounds_toArray, List.set_cons_zero, List.set_cons_succ]
  refine wpAnyH_take (i := 16) (v := ?v16) rfl (by kernel_rfl) (by kernel_rfl) (by kernel_rfl) (fun _ _ _ h => h) (Or.inl ⟨by rfl, ?hy16⟩) hS ?rest16
  case hy16 => (intro w hSw; go_simp; first | done | with_reducible rfl)
  try simp only [Act.put, List.getElem_toArray, List.getElem_cons_zero, List.getElem_cons_succ, List.setIfInBounds_toArray, List.set_cons_zero, List.set_cons_succ]
  refine wpAnyH_ready (rs := [17]) (by kernel_rfl) (by simp) ?_
  refine AllReadyH.cons rfl (fun K hK => ?_) AllReadyH.nil
  go_simp
  refine (awake6_any _ HL.out).mono ?_
  rintro e u9 ⟨rfl, p9⟩
  replace hB := Lib.hid (hB.out.trans (p9.mono hB.out.size))
  go_wp2_with fail
  refine hK.out _ _ p9 ?_
  intro hS
  clear hK K
  try simp only [Act.put, List.getElem_toArray, List.getElem_cons_zero, List.getElem_cons_succ, List.setIfInBounds_toArray, List.set_cons_zero, List.set_cons_succ]
  refine wpAnyH_take (i := 18) (v := ?v18) rfl (by kernel_rfl) (by kernel_rfl) (by kernel_rfl) (fun _ _ _ h => h) (Or.inl ⟨by rfl, ?hy18⟩) hS ?rest18
  case hy18 => (intro w hSw; go_simp; first | done | with_reducible rfl)
  try simp only [Act.put, List.getElem_toArray, List.getElem_cons_zero, List.getElem_cons_succ, List.setIfInBounds_toArray, List.set_cons_zero, List.set_cons_succ]
  refine wpAnyH_take (i := 19) (v := ?v19) rfl (by kernel_rfl) (by kernel_rfl) (by kernel_rfl) (fun _ _ _ h => h) (Or.inl ⟨by rfl, ?hy19⟩) hS ?rest19
  case hy19 => (intro w hSw; go_simp; first | done | with_reducible rfl)
  try simp only [Act.put, List.getElem_toArray, List.getElem_cons_zero, List.getElem_cons_succ, List.setIfInBounds_toArray, List.set_cons_zero, List.set_cons_succ]
  refine wpAnyH_done (by kernel_rfl) (NoPanic.normal ?_) _
  go_wp2_with fail
  go_ret
  exact ⟨rfl, hB.out⟩
end Go.Proofs.YtclecmpmohoamaaDoor
