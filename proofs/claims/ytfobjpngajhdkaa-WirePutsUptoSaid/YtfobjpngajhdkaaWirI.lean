/- The law WirePuts's walk. -/
import Derived.Test.YtfobjpngajhdkaaWirH
import Derived.Test.YtfobjpngajhdkaaReg
namespace Go.Proofs.Ytfobjpngajhdkaa
open Go.RowKit
attribute [local go_sem ↓] Go.wp_at_zero Go.wp_at_succ
set_option linter.unusedSimpArgs false
theorem conv8 (w : World) (A : Option Addr) (n c : Nat) (l : List UInt8) (h : Rd w w.heap.size 1 A n (l.map B8)) : (convert 22 9 (.slice A n c)).run Try.prog w = .ok (.string (str l)) w :=
  run_convert_rd _ _ _ Try.underlying22 Try.underlying5 Try.underlying9 h
set_option maxHeartbeats 8000000 in
theorem wirePuts_walk (A : Option Addr) (n c : Nat) (l : List UInt8) (A' : Option Addr) (n' c' : Nat) (l' : List UInt8) (x : Int) (w : World) (hr : Rd w w.heap.size 1 A n (l.map B8)) (_ : n ≤ c) (hn : n ≤ 1048576) (hr' : Rd w w.heap.size 1 A' n' (l'.map B8)) (_ : n' ≤ c') (hn' : n' ≤ 1048576) (_ : (Lit.int .i64 x).wf = true) :
    Calls Try.prog 3 #[.slice A n c, .slice A' n' c', .int .i64 x] w fun r w' => r = .returned (.bool true) ∧ Below w.heap.size w w' := by
  obtain rfl : l.length = n := by simpa using hr.len
  obtain rfl : l'.length = n' := by simpa using hr'.len
  by_cases h5 : 5 < x
  · have h6 : decide (5 < x) = true := by simp only [decide_eq_true_eq]; exact h5
    go_enter Try.func3, Try.ntmps3
    go_wp2_with fail
    refine (own_any A _ c l _ hr (by omega)).mono ?_
    rintro r w1 ⟨A1, c1, rfl, h1, hb1⟩
    go_wp2_with fail
    refine (own_any A' _ c' l' _ (hr'.to hb1) (by omega)).mono ?_
    rintro r w2 ⟨A2, c2, rfl, h2, hb2⟩
    go_wp2_with fail
    have hd : Below w2.heap.size w2 w2.drew := (Still.refl w2).drew.below _
    have qx := ((Rd.of_own h1).to hb2).to hd
    have qy := (Rd.of_own h2).to hd
    have qb := ((hr.to hb1).to hb2).to hd
    have qs := ((hr'.to hb1).to hb2).to hd
    refine wp_region_noPanic ?_
    refine wp_region_held_drew (S := fun w' => Below (w2.drew).heap.size w2.drew w') (by kernel_rfl) (Below.refl _ _) (fun hS => ?_)
    refine wpAnyH_take (i := 0) (v := ?va0) rfl (by kernel_rfl) (by kernel_rfl) (by kernel_rfl) (fun _ _ _ h => h) (Or.inl ⟨by rfl, ?hya0⟩) hS ?resta0
    case hya0 => (intro w hSw; go_simp; first | done | with_reducible rfl)
    try simp only [Act.put, List.getElem_toArray, List.getElem_cons_zero, List.getElem_cons_succ, List.setIfInBounds_toArray, List.set_cons_zero, List.set_cons_succ]
    refine wpAnyH_take (i := 1) (v := ?va1) rfl (by kernel_rfl) (by kernel_rfl) (by kernel_rfl) (fun _ _ _ h => h) (Or.inl ⟨by rfl, ?hya1⟩) hS ?resta1
    case hya1 => (intro w hSw; go_simp; first | done | with_reducible rfl)
    try simp only [Act.put, List.getElem_toArray, List.getElem_cons_zero, List.getElem_cons_succ, List.setIfInBounds_toArray, List.set_cons_zero, List.set_cons_succ]
    refine wpAnyH_take (i := 4) (v := ?va4) rfl (by kernel_rfl) (by kernel_rfl) (by kernel_rfl) (fun _ _ _ h => h) (Or.inl ⟨by rfl, ?hya4⟩) hS ?resta4
    case hya4 => (intro w hSw; go_simp; first | done | with_reducible rfl)
    try simp only [Act.put, List.getElem_toArray, List.getElem_cons_zero, List.getElem_cons_succ, List.setIfInBounds_toArray, List.set_cons_zero, List.set_cons_succ]
    refine wpAnyH_take (i := 5) (v := ?va5) rfl (by kernel_rfl) (by kernel_rfl) (by kernel_rfl) (fun _ _ _ h => h) (Or.inl ⟨by rfl, ?hya5⟩) hS ?resta5
    case hya5 => (intro w hSw; go_simp; first | done | with_reducible rfl)
    try simp only [Act.put, List.getElem_toArray, List.getElem_cons_zero, List.getElem_cons_succ, List.setIfInBounds_toArray, List.set_cons_zero, List.set_cons_succ]
    refine wpAnyH_ready (rs := [2]) (by kernel_rfl) (by simp) ?_
    refine AllReadyH.cons rfl (fun K hK => ?_) AllReadyH.nil
    go_simp
    refine (number_any A1 _ c1 l x _ qx (by omega)).mono ?_
    rintro r u3 ⟨B3, d3, rfl, g3, p3⟩
    simp only [List.length_append, ↓reduceIte, Bool.false_eq_true] at g3
    replace qx := qx.to p3
    replace qy := qy.to p3
    replace qb := qb.to p3
    replace qs := qs.to p3
    go_wp2_with fail
    refine hK.out _ _ p3 ?_
    intro hS
    clear hK K
    try simp only [Act.put, List.getElem_toArray, List.getElem_cons_zero, List.getElem_cons_succ, List.setIfInBounds_toArray, List.set_cons_zero, List.set_cons_succ]
    refine wpAnyH_strong (S2 := fun w' => Below u3.heap.size u3 w') (fun w' (h' : Below u3.heap.size u3 w') => p3.trans (h'.mono p3.size)) _ _ _ _ ?_
    clear hS
    have hS : Below u3.heap.size u3 u3 := Below.refl _ _
    refine wpAnyH_take (i := 3) (v := ?va3) rfl (by kernel_rfl) (by kernel_rfl) (by kernel_rfl) (fun _ _ _ h => h) (Or.inl ⟨by rfl, ?hya3⟩) hS ?resta3
    case hya3 => (intro w hSw; have hcv := conv8 w B3 _ d3 _ ((Rd.of_own g3).to hSw); go_simp; first | done | with_reducible rfl)
    try simp only [Act.put, List.getElem_toArray, List.getElem_cons_zero, List.getElem_cons_succ, List.setIfInBounds_toArray, List.set_cons_zero, List.set_cons_succ]
    refine wpAnyH_ready (rs := [6]) (by kernel_rfl) (by simp) ?_
    refine AllReadyH.cons rfl (fun K hK => ?_) AllReadyH.nil
    go_simp
    refine (refNumber_any A _ c l x _ qb (by omega)).mono ?_
    rintro r u4 ⟨B4, d4, rfl, g4, p4⟩
    simp only [List.length_append, ↓reduceIte, Bool.false_eq_true] at g4
    replace qx := qx.to p4
    replace qy := qy.to p4
    replace qb := qb.to p4
    replace qs := qs.to p4
    go_wp2_with fail
    refine hK.out _ _ p4 ?_
    intro hS
    clear hK K
    try simp only [Act.put, List.getElem_toArray, List.getElem_cons_zero, List.getElem_cons_succ, List.setIfInBounds_toArray, List.set_cons_zero, List.set_cons_succ]
    refine wpAnyH_strong (S2 := fun w' => Below u4.heap.size u4 w') (fun w' (h' : Below u4.heap.size u4 w') => p4.trans (h'.mono p4.size)) _ _ _ _ ?_
    clear hS
    have hS : Below u4.heap.size u4 u4 := Below.refl _ _
    refine wpAnyH_take (i := 7) (v := ?va7) rfl (by kernel_rfl) (by kernel_rfl) (by kernel_rfl) (fun _ _ _ h => h) (Or.inl ⟨by rfl, ?hya7⟩) hS ?resta7
    case hya7 => (intro w hSw; have hcv := conv8 w B4 _ d4 _ ((Rd.of_own g4).to hSw); go_simp; first | done | with_reducible rfl)
    try simp only [Act.put, List.getElem_toArray, List.getElem_cons_zero, List.getElem_cons_succ, List.setIfInBounds_toArray, List.set_cons_zero, List.set_cons_succ]
    refine wpAnyH_take (i := 8) (v := ?va8) rfl (by kernel_rfl) (by kernel_rfl) (by kernel_rfl) (fun _ _ _ h => h) (Or.inl ⟨by rfl, ?hya8⟩) hS ?resta8
    case hya8 => (intro w hSw; go_simp; first | done | with_reducible rfl)
    try simp only [Act.put, List.getElem_toArray, List.getElem_cons_zero, List.getElem_cons_succ, List.setIfInBounds_toArray, List.set_cons_zero, List.set_cons_succ]
    refine wpAnyH_take (i := 9) (v := ?va9) rfl (by kernel_rfl) (by kernel_rfl) (by kernel_rfl) (fun _ _ _ h => h) (Or.inl ⟨by rfl, ?hya9⟩) hS ?resta9
    case hya9 => (intro w hSw; go_simp; first | done | with_reducible rfl)
    try simp only [Act.put, List.getElem_toArray, List.getElem_cons_zero, List.getElem_cons_succ, List.setIfInBounds_toArray, List.set_cons_zero, List.set_cons_succ]
    refine wpAnyH_take (i := 10) (v := ?va10) rfl (by kernel_rfl) (by kernel_rfl) (by kernel_rfl) (fun _ _ _ h => h) (Or.inl ⟨by rfl, ?hya10⟩) hS ?resta10
    case hya10 => (intro w hSw; go_simp; first | done | with_reducible rfl)
    try simp only [Act.put, List.getElem_toArray, List.getElem_cons_zero, List.getElem_cons_succ, List.setIfInBounds_toArray, List.set_cons_zero, List.set_cons_succ]
    refine wpAnyH_take (i := 11) (v := ?va11) rfl (by kernel_rfl) (by kernel_rfl) (by kernel_rfl) (fun _ _ _ h => h) (Or.inl ⟨by rfl, ?hya11⟩) hS ?resta11
    case hya11 => (intro w hSw; go_simp; first | done | with_reducible rfl)
    try simp only [Act.put, List.getElem_toArray, List.getElem_cons_zero, List.getElem_cons_succ, List.setIfInBounds_toArray, List.set_cons_zero, List.set_cons_succ]
    refine wpAnyH_take (i := 14) (v := ?va14) rfl (by kernel_rfl) (by kernel_rfl) (by kernel_rfl) (fun _ _ _ h => h) (Or.inl ⟨by rfl, ?hya14⟩) hS ?resta14
    case hya14 => (intro w hSw; go_simp; first | done | with_reducible rfl)
    try simp only [Act.put, List.getElem_toArray, List.getElem_cons_zero, List.getElem_cons_succ, List.setIfInBounds_toArray, List.set_cons_zero, List.set_cons_succ]
    refine wpAnyH_take (i := 15) (v := ?va15) rfl (by kernel_rfl) (by kernel_rfl) (by kernel_rfl) (fun _ _ _ h => h) (Or.inl ⟨by rfl, ?hya15⟩) hS ?resta15
    case hya15 => (intro w hSw; go_simp; first | done | with_reducible rfl)
    try simp only [Act.put, List.getElem_toArray, List.getElem_cons_zero, List.getElem_cons_succ, List.setIfInBounds_toArray, List.set_cons_zero, List.set_cons_succ]
    refine wpAnyH_ready (rs := [12]) (by kernel_rfl) (by simp) ?_
    refine AllReadyH.cons rfl (fun K hK => ?_) AllReadyH.nil
    go_simp
    refine (text_any A1 _ c1 l A2 _ c2 l' _ qx qy (by omega)).mono ?_
    rintro r u5 ⟨B5, d5, rfl, g5, p5⟩
    simp only [List.length_append, ↓reduceIte, Bool.false_eq_true] at g5
    replace qx := qx.to p5
    replace qy := qy.to p5
    replace qb := qb.to p5
    replace qs := qs.to p5
    go_wp2_with fail
    refine hK.out _ _ p5 ?_
    intro hS
    clear hK K
    try simp only [Act.put, List.getElem_toArray, List.getElem_cons_zero, List.getElem_cons_succ, List.setIfInBounds_toArray, List.set_cons_zero, List.set_cons_succ]
    refine wpAnyH_strong (S2 := fun w' => Below u5.heap.size u5 w') (fun w' (h' : Below u5.heap.size u5 w') => p5.trans (h'.mono p5.size)) _ _ _ _ ?_
    clear hS
    have hS : Below u5.heap.size u5 u5 := Below.refl _ _
    refine wpAnyH_take (i := 13) (v := ?va13) rfl (by kernel_rfl) (by kernel_rfl) (by kernel_rfl) (fun _ _ _ h => h) (Or.inl ⟨by rfl, ?hya13⟩) hS ?resta13
    case hya13 => (intro w hSw; have hcv := conv8 w B5 _ d5 _ ((Rd.of_own g5).to hSw); go_simp; first | done | with_reducible rfl)
    try simp only [Act.put, List.getElem_toArray, List.getElem_cons_zero, List.getElem_cons_succ, List.setIfInBounds_toArray, List.set_cons_zero, List.set_cons_succ]
    refine wpAnyH_ready (rs := [16]) (by kernel_rfl) (by simp) ?_
    refine AllReadyH.cons rfl (fun K hK => ?_) AllReadyH.nil
    go_simp
    refine (refText_any A _ c l A' _ c' l' _ qb qs (by omega)).mono ?_
    rintro r u6 ⟨B6, d6, rfl, g6, p6⟩
    simp only [List.length_append, ↓reduceIte, Bool.false_eq_true] at g6
    replace qx := qx.to p6
    replace qy := qy.to p6
    replace qb := qb.to p6
    replace qs := qs.to p6
    go_wp2_with fail
    refine hK.out _ _ p6 ?_
    intro hS
    clear hK K
    try simp only [Act.put, List.getElem_toArray, List.getElem_cons_zero, List.getElem_cons_succ, List.setIfInBounds_toArray, List.set_cons_zero, List.set_cons_succ]
    refine wpAnyH_strong (S2 := fun w' => Below u6.heap.size u6 w') (fun w' (h' : Below u6.heap.size u6 w') => p6.trans (h'.mono p6.size)) _ _ _ _ ?_
    clear hS
    have hS : Below u6.heap.size u6 u6 := Below.refl _ _
    refine wpAnyH_take (i := 17) (v := ?va17) rfl (by kernel_rfl) (by kernel_rfl) (by kernel_rfl) (fun _ _ _ h => h) (Or.inl ⟨by rfl, ?hya17⟩) hS ?resta17
    case hya17 => (intro w hSw; have hcv := conv8 w B6 _ d6 _ ((Rd.of_own g6).to hSw); go_simp; first | done | with_reducible rfl)
    try simp only [Act.put, List.getElem_toArray, List.getElem_cons_zero, List.getElem_cons_succ, List.setIfInBounds_toArray, List.set_cons_zero, List.set_cons_succ]
    refine wpAnyH_take (i := 18) (v := ?va18) rfl (by kernel_rfl) (by kernel_rfl) (by kernel_rfl) (fun _ _ _ h => h) (Or.inl ⟨by rfl, ?hya18⟩) hS ?resta18
    case hya18 => (intro w hSw; go_simp; first | done | with_reducible rfl)
    try simp only [Act.put, List.getElem_toArray, List.getElem_cons_zero, List.getElem_cons_succ, List.setIfInBounds_toArray, List.set_cons_zero, List.set_cons_succ]
    refine wpAnyH_take (i := 19) (v := ?va19) rfl (by kernel_rfl) (by kernel_rfl) (by kernel_rfl) (fun _ _ _ h => h) (Or.inl ⟨by rfl, ?hya19⟩) hS ?resta19
    case hya19 => (intro w hSw; go_simp; first | done | with_reducible rfl)
    try simp only [Act.put, List.getElem_toArray, List.getElem_cons_zero, List.getElem_cons_succ, List.setIfInBounds_toArray, List.set_cons_zero, List.set_cons_succ]
    refine wpAnyH_take (i := 20) (v := ?va20) rfl (by kernel_rfl) (by kernel_rfl) (by kernel_rfl) (fun _ _ _ h => h) (Or.inl ⟨by rfl, ?hya20⟩) hS ?resta20
    case hya20 => (intro w hSw; go_simp; first | done | with_reducible rfl)
    try simp only [Act.put, List.getElem_toArray, List.getElem_cons_zero, List.getElem_cons_succ, List.setIfInBounds_toArray, List.set_cons_zero, List.set_cons_succ]
    refine wpAnyH_take (i := 21) (v := ?va21) rfl (by kernel_rfl) (by kernel_rfl) (by kernel_rfl) (fun _ _ _ h => h) (Or.inl ⟨by rfl, ?hya21⟩) hS ?resta21
    case hya21 => (intro w hSw; go_simp; first | done | with_reducible rfl)
    try simp only [Act.put, List.getElem_toArray, List.getElem_cons_zero, List.getElem_cons_succ, List.setIfInBounds_toArray, List.set_cons_zero, List.set_cons_succ]
    refine wpAnyH_take (i := 22) (v := ?va22) rfl (by kernel_rfl) (by kernel_rfl) (by kernel_rfl) (fun _ _ _ h => h) (Or.inl ⟨by rfl, ?hya22⟩) hS ?resta22
    case hya22 => (intro w hSw; go_simp; first | done | with_reducible rfl)
    try simp only [Act.put, List.getElem_toArray, List.getElem_cons_zero, List.getElem_cons_succ, List.setIfInBounds_toArray, List.set_cons_zero, List.set_cons_succ]
    refine wpAnyH_take (i := 25) (v := ?va25) rfl (by kernel_rfl) (by kernel_rfl) (by kernel_rfl) (fun _ _ _ h => h) (Or.inl ⟨by rfl, ?hya25⟩) hS ?resta25
    case hya25 => (intro w hSw; go_simp; first | done | with_reducible rfl)
    try simp only [Act.put, List.getElem_toArray, List.getElem_cons_zero, List.getElem_cons_succ, List.setIfInBounds_toArray, List.set_cons_zero, List.set_cons_succ]
    refine wpAnyH_take (i := 26) (v := ?va26) rfl (by kernel_rfl) (by kernel_rfl) (by kernel_rfl) (fun _ _ _ h => h) (Or.inl ⟨by rfl, ?hya26⟩) hS ?resta26
    case hya26 => (intro w hSw; go_simp; first | done | with_reducible rfl)
    try simp only [Act.put, List.getElem_toArray, List.getElem_cons_zero, List.getElem_cons_succ, List.setIfInBounds_toArray, List.set_cons_zero, List.set_cons_succ]
    refine wpAnyH_ready (rs := [23]) (by kernel_rfl) (by simp) ?_
    refine AllReadyH.cons rfl (fun K hK => ?_) AllReadyH.nil
    go_simp
    refine (flag_any A1 _ c1 l true _ qx (by omega)).mono ?_
    rintro r u7 ⟨B7, d7, rfl, g7, p7⟩
    simp only [List.length_append, ↓reduceIte, Bool.false_eq_true] at g7
    replace qx := qx.to p7
    replace qy := qy.to p7
    replace qb := qb.to p7
    replace qs := qs.to p7
    go_wp2_with fail
    refine hK.out _ _ p7 ?_
    intro hS
    clear hK K
    try simp only [Act.put, List.getElem_toArray, List.getElem_cons_zero, List.getElem_cons_succ, List.setIfInBounds_toArray, List.set_cons_zero, List.set_cons_succ]
    refine wpAnyH_strong (S2 := fun w' => Below u7.heap.size u7 w') (fun w' (h' : Below u7.heap.size u7 w') => p7.trans (h'.mono p7.size)) _ _ _ _ ?_
    clear hS
    have hS : Below u7.heap.size u7 u7 := Below.refl _ _
    refine wpAnyH_take (i := 24) (v := ?va24) rfl (by kernel_rfl) (by kernel_rfl) (by kernel_rfl) (fun _ _ _ h => h) (Or.inl ⟨by rfl, ?hya24⟩) hS ?resta24
    case hya24 => (intro w hSw; have hcv := conv8 w B7 _ d7 _ ((Rd.of_own g7).to hSw); go_simp; first | done | with_reducible rfl)
    try simp only [Act.put, List.getElem_toArray, List.getElem_cons_zero, List.getElem_cons_succ, List.setIfInBounds_toArray, List.set_cons_zero, List.set_cons_succ]
    refine wpAnyH_ready (rs := [27]) (by kernel_rfl) (by simp) ?_
    refine AllReadyH.cons rfl (fun K hK => ?_) AllReadyH.nil
    go_simp
    refine (refFlag_any A _ c l true _ qb (by omega)).mono ?_
    rintro r u8 ⟨B8, d8, rfl, g8, p8⟩
    simp only [List.length_append, ↓reduceIte, Bool.false_eq_true] at g8
    replace qx := qx.to p8
    replace qy := qy.to p8
    replace qb := qb.to p8
    replace qs := qs.to p8
    go_wp2_with fail
    refine hK.out _ _ p8 ?_
    intro hS
    clear hK K
    try simp only [Act.put, List.getElem_toArray, List.getElem_cons_zero, List.getElem_cons_succ, List.setIfInBounds_toArray, List.set_cons_zero, List.set_cons_succ]
    refine wpAnyH_strong (S2 := fun w' => Below u8.heap.size u8 w') (fun w' (h' : Below u8.heap.size u8 w') => p8.trans (h'.mono p8.size)) _ _ _ _ ?_
    clear hS
    have hS : Below u8.heap.size u8 u8 := Below.refl _ _
    refine wpAnyH_take (i := 28) (v := ?va28) rfl (by kernel_rfl) (by kernel_rfl) (by kernel_rfl) (fun _ _ _ h => h) (Or.inl ⟨by rfl, ?hya28⟩) hS ?resta28
    case hya28 => (intro w hSw; have hcv := conv8 w B8 _ d8 _ ((Rd.of_own g8).to hSw); go_simp; first | done | with_reducible rfl)
    try simp only [Act.put, List.getElem_toArray, List.getElem_cons_zero, List.getElem_cons_succ, List.setIfInBounds_toArray, List.set_cons_zero, List.set_cons_succ]
    refine wpAnyH_take (i := 29) (v := ?va29) rfl (by kernel_rfl) (by kernel_rfl) (by kernel_rfl) (fun _ _ _ h => h) (Or.inl ⟨by rfl, ?hya29⟩) hS ?resta29
    case hya29 => (intro w hSw; go_simp; first | done | with_reducible rfl)
    try simp only [Act.put, List.getElem_toArray, List.getElem_cons_zero, List.getElem_cons_succ, List.setIfInBounds_toArray, List.set_cons_zero, List.set_cons_succ]
    refine wpAnyH_take (i := 30) (v := ?va30) rfl (by kernel_rfl) (by kernel_rfl) (by kernel_rfl) (fun _ _ _ h => h) (Or.inl ⟨by rfl, ?hya30⟩) hS ?resta30
    case hya30 => (intro w hSw; go_simp; first | done | with_reducible rfl)
    try simp only [Act.put, List.getElem_toArray, List.getElem_cons_zero, List.getElem_cons_succ, List.setIfInBounds_toArray, List.set_cons_zero, List.set_cons_succ]
    refine wpAnyH_take (i := 31) (v := ?va31) rfl (by kernel_rfl) (by kernel_rfl) (by kernel_rfl) (fun _ _ _ h => h) (Or.inl ⟨by rfl, ?hya31⟩) hS ?resta31
    case hya31 => (intro w hSw; go_simp; first | done | with_reducible rfl)
    try simp only [Act.put, List.getElem_toArray, List.getElem_cons_zero, List.getElem_cons_succ, List.setIfInBounds_toArray, List.set_cons_zero, List.set_cons_succ]
    refine wpAnyH_take (i := 32) (v := ?va32) rfl (by kernel_rfl) (by kernel_rfl) (by kernel_rfl) (fun _ _ _ h => h) (Or.inl ⟨by rfl, ?hya32⟩) hS ?resta32
    case hya32 => (intro w hSw; go_simp; first | done | with_reducible rfl)
    try simp only [Act.put, List.getElem_toArray, List.getElem_cons_zero, List.getElem_cons_succ, List.setIfInBounds_toArray, List.set_cons_zero, List.set_cons_succ]
    refine wpAnyH_take (i := 33) (v := ?va33) rfl (by kernel_rfl) (by kernel_rfl) (by kernel_rfl) (fun _ _ _ h => h) (Or.inl ⟨by rfl, ?hya33⟩) hS ?resta33
    case hya33 => (intro w hSw; have hcv := conv8 w A1 _ c1 _ (qx.to hSw); go_simp; first | done | with_reducible rfl)
    try simp only [Act.put, List.getElem_toArray, List.getElem_cons_zero, List.getElem_cons_succ, List.setIfInBounds_toArray, List.set_cons_zero, List.set_cons_succ]
    refine wpAnyH_take (i := 34) (v := ?va34) rfl (by kernel_rfl) (by kernel_rfl) (by kernel_rfl) (fun _ _ _ h => h) (Or.inl ⟨by rfl, ?hya34⟩) hS ?resta34
    case hya34 => (intro w hSw; go_simp; first | done | with_reducible rfl)
    try simp only [Act.put, List.getElem_toArray, List.getElem_cons_zero, List.getElem_cons_succ, List.setIfInBounds_toArray, List.set_cons_zero, List.set_cons_succ]
    refine wpAnyH_take (i := 35) (v := ?va35) rfl (by kernel_rfl) (by kernel_rfl) (by kernel_rfl) (fun _ _ _ h => h) (Or.inl ⟨by rfl, ?hya35⟩) hS ?resta35
    case hya35 => (intro w hSw; have hcv := conv8 w A _ c _ (qb.to hSw); go_simp; first | done | with_reducible rfl)
    try simp only [Act.put, List.getElem_toArray, List.getElem_cons_zero, List.getElem_cons_succ, List.setIfInBounds_toArray, List.set_cons_zero, List.set_cons_succ]
    refine wpAnyH_take (i := 36) (v := ?va36) rfl (by kernel_rfl) (by kernel_rfl) (by kernel_rfl) (fun _ _ _ h => h) (Or.inl ⟨by rfl, ?hya36⟩) hS ?resta36
    case hya36 => (intro w hSw; go_simp; first | done | with_reducible rfl)
    try simp only [Act.put, List.getElem_toArray, List.getElem_cons_zero, List.getElem_cons_succ, List.setIfInBounds_toArray, List.set_cons_zero, List.set_cons_succ]
    refine wpAnyH_take (i := 37) (v := ?va37) rfl (by kernel_rfl) (by kernel_rfl) (by kernel_rfl) (fun _ _ _ h => h) (Or.inl ⟨by rfl, ?hya37⟩) hS ?resta37
    case hya37 => (intro w hSw; go_simp; first | done | with_reducible rfl)
    try simp only [Act.put, List.getElem_toArray, List.getElem_cons_zero, List.getElem_cons_succ, List.setIfInBounds_toArray, List.set_cons_zero, List.set_cons_succ]
    refine wpAnyH_take (i := 38) (v := ?va38) rfl (by kernel_rfl) (by kernel_rfl) (by kernel_rfl) (fun _ _ _ h => h) (Or.inl ⟨by rfl, ?hya38⟩) hS ?resta38
    case hya38 => (intro w hSw; go_simp; first | done | with_reducible rfl)
    try simp only [Act.put, List.getElem_toArray, List.getElem_cons_zero, List.getElem_cons_succ, List.setIfInBounds_toArray, List.set_cons_zero, List.set_cons_succ]
    refine wpAnyH_take (i := 39) (v := ?va39) rfl (by kernel_rfl) (by kernel_rfl) (by kernel_rfl) (fun _ _ _ h => h) (Or.inl ⟨by rfl, ?hya39⟩) hS ?resta39
    case hya39 => (intro w hSw; go_simp; first | done | with_reducible rfl)
    try simp only [Act.put, List.getElem_toArray, List.getElem_cons_zero, List.getElem_cons_succ, List.setIfInBounds_toArray, List.set_cons_zero, List.set_cons_succ]
    refine wpAnyH_take (i := 40) (v := ?va40) rfl (by kernel_rfl) (by kernel_rfl) (by kernel_rfl) (fun _ _ _ h => h) (Or.inl ⟨by rfl, ?hya40⟩) hS ?resta40
    case hya40 => (intro w hSw; have hcv := conv8 w A2 _ c2 _ (qy.to hSw); go_simp; first | done | with_reducible rfl)
    try simp only [Act.put, List.getElem_toArray, List.getElem_cons_zero, List.getElem_cons_succ, List.setIfInBounds_toArray, List.set_cons_zero, List.set_cons_succ]
    refine wpAnyH_take (i := 41) (v := ?va41) rfl (by kernel_rfl) (by kernel_rfl) (by kernel_rfl) (fun _ _ _ h => h) (Or.inl ⟨by rfl, ?hya41⟩) hS ?resta41
    case hya41 => (intro w hSw; go_simp; first | done | with_reducible rfl)
    try simp only [Act.put, List.getElem_toArray, List.getElem_cons_zero, List.getElem_cons_succ, List.setIfInBounds_toArray, List.set_cons_zero, List.set_cons_succ]
    refine wpAnyH_take (i := 42) (v := ?va42) rfl (by kernel_rfl) (by kernel_rfl) (by kernel_rfl) (fun _ _ _ h => h) (Or.inl ⟨by rfl, ?hya42⟩) hS ?resta42
    case hya42 => (intro w hSw; have hcv := conv8 w A' _ c' _ (qs.to hSw); go_simp; first | done | with_reducible rfl)
    try simp only [Act.put, List.getElem_toArray, List.getElem_cons_zero, List.getElem_cons_succ, List.setIfInBounds_toArray, List.set_cons_zero, List.set_cons_succ]
    refine wpAnyH_take (i := 43) (v := ?va43) rfl (by kernel_rfl) (by kernel_rfl) (by kernel_rfl) (fun _ _ _ h => h) (Or.inl ⟨by rfl, ?hya43⟩) hS ?resta43
    case hya43 => (intro w hSw; go_simp; first | done | with_reducible rfl)
    try simp only [Act.put, List.getElem_toArray, List.getElem_cons_zero, List.getElem_cons_succ, List.setIfInBounds_toArray, List.set_cons_zero, List.set_cons_succ]
    refine wpAnyH_take (i := 44) (v := ?va44) rfl (by kernel_rfl) (by kernel_rfl) (by kernel_rfl) (fun _ _ _ h => h) (Or.inl ⟨by rfl, ?hya44⟩) hS ?resta44
    case hya44 => (intro w hSw; go_simp; first | done | with_reducible rfl)
    try simp only [Act.put, List.getElem_toArray, List.getElem_cons_zero, List.getElem_cons_succ, List.setIfInBounds_toArray, List.set_cons_zero, List.set_cons_succ]
    refine wpAnyH_take (i := 45) (v := ?va45) rfl (by kernel_rfl) (by kernel_rfl) (by kernel_rfl) (fun _ _ _ h => h) (Or.inl ⟨by rfl, ?hya45⟩) hS ?resta45
    case hya45 => (intro w hSw; go_simp; first | done | with_reducible rfl)
    try simp only [Act.put, List.getElem_toArray, List.getElem_cons_zero, List.getElem_cons_succ, List.setIfInBounds_toArray, List.set_cons_zero, List.set_cons_succ]
    refine wpAnyH_ready (rs := [46]) (by kernel_rfl) (by simp) ?_
    refine AllReadyH.cons rfl (fun K hK => ?_) AllReadyH.nil
    go_simp
    refine (awake_any _).mono ?_
    rintro r u9 ⟨rfl, p9⟩
    go_wp2_with fail
    refine hK.out _ _ p9 ?_
    intro hS
    clear hK K
    try simp only [Act.put, List.getElem_toArray, List.getElem_cons_zero, List.getElem_cons_succ, List.setIfInBounds_toArray, List.set_cons_zero, List.set_cons_succ]
    refine wpAnyH_take (i := 47) (v := ?va47) rfl (by kernel_rfl) (by kernel_rfl) (by kernel_rfl) (fun _ _ _ h => h) (Or.inl ⟨by rfl, ?hya47⟩) hS ?resta47
    case hya47 => (intro w hSw; go_simp; first | done | with_reducible rfl)
    try simp only [Act.put, List.getElem_toArray, List.getElem_cons_zero, List.getElem_cons_succ, List.setIfInBounds_toArray, List.set_cons_zero, List.set_cons_succ]
    refine wpAnyH_take (i := 48) (v := ?va48) rfl (by kernel_rfl) (by kernel_rfl) (by kernel_rfl) (fun _ _ _ h => h) (Or.inl ⟨by rfl, ?hya48⟩) hS ?resta48
    case hya48 => (intro w hSw; go_simp; first | done | with_reducible rfl)
    try simp only [Act.put, List.getElem_toArray, List.getElem_cons_zero, List.getElem_cons_succ, List.setIfInBounds_toArray, List.set_cons_zero, List.set_cons_succ]
    refine wpAnyH_done (by kernel_rfl) (NoPanic.normal ?_) _
    go_wp2_with fail
    go_ret
    have hB2 := hb1.trans (hb2.mono hb1.size)
    have hB3 := hB2.trans (hd.mono hB2.size)
    have hB8 := hB3.trans ((p3.trans ((p4.trans ((p5.trans ((p6.trans ((p7.trans ((p8.trans (p9.mono p8.size)).mono p7.size)).mono p6.size)).mono p5.size)).mono p4.size)).mono p3.size)).mono hB3.size)
    exact ⟨rfl, hB8⟩
  · have h6 : decide (5 < x) = false := by simp only [decide_eq_false_iff_not]; exact h5
    go_enter Try.func3, Try.ntmps3
    go_wp2_with fail
    refine (own_any A _ c l _ hr (by omega)).mono ?_
    rintro r w1 ⟨A1, c1, rfl, h1, hb1⟩
    go_wp2_with fail
    refine (own_any A' _ c' l' _ (hr'.to hb1) (by omega)).mono ?_
    rintro r w2 ⟨A2, c2, rfl, h2, hb2⟩
    go_wp2_with fail
    have hd : Below w2.heap.size w2 w2.drew := (Still.refl w2).drew.below _
    have qx := ((Rd.of_own h1).to hb2).to hd
    have qy := (Rd.of_own h2).to hd
    have qb := ((hr.to hb1).to hb2).to hd
    have qs := ((hr'.to hb1).to hb2).to hd
    refine wp_region_noPanic ?_
    refine wp_region_held_drew (S := fun w' => Below (w2.drew).heap.size w2.drew w') (by kernel_rfl) (Below.refl _ _) (fun hS => ?_)
    refine wpAnyH_take (i := 0) (v := ?vb0) rfl (by kernel_rfl) (by kernel_rfl) (by kernel_rfl) (fun _ _ _ h => h) (Or.inl ⟨by rfl, ?hyb0⟩) hS ?restb0
    case hyb0 => (intro w hSw; go_simp; first | done | with_reducible rfl)
    try simp only [Act.put, List.getElem_toArray, List.getElem_cons_zero, List.getElem_cons_succ, List.setIfInBounds_toArray, List.set_cons_zero, List.set_cons_succ]
    refine wpAnyH_take (i := 1) (v := ?vb1) rfl (by kernel_rfl) (by kernel_rfl) (by kernel_rfl) (fun _ _ _ h => h) (Or.inl ⟨by rfl, ?hyb1⟩) hS ?restb1
    case hyb1 => (intro w hSw; go_simp; first | done | with_reducible rfl)
    try simp only [Act.put, List.getElem_toArray, List.getElem_cons_zero, List.getElem_cons_succ, List.setIfInBounds_toArray, List.set_cons_zero, List.set_cons_succ]
    refine wpAnyH_take (i := 4) (v := ?vb4) rfl (by kernel_rfl) (by kernel_rfl) (by kernel_rfl) (fun _ _ _ h => h) (Or.inl ⟨by rfl, ?hyb4⟩) hS ?restb4
    case hyb4 => (intro w hSw; go_simp; first | done | with_reducible rfl)
    try simp only [Act.put, List.getElem_toArray, List.getElem_cons_zero, List.getElem_cons_succ, List.setIfInBounds_toArray, List.set_cons_zero, List.set_cons_succ]
    refine wpAnyH_take (i := 5) (v := ?vb5) rfl (by kernel_rfl) (by kernel_rfl) (by kernel_rfl) (fun _ _ _ h => h) (Or.inl ⟨by rfl, ?hyb5⟩) hS ?restb5
    case hyb5 => (intro w hSw; go_simp; first | done | with_reducible rfl)
    try simp only [Act.put, List.getElem_toArray, List.getElem_cons_zero, List.getElem_cons_succ, List.setIfInBounds_toArray, List.set_cons_zero, List.set_cons_succ]
    refine wpAnyH_ready (rs := [2]) (by kernel_rfl) (by simp) ?_
    refine AllReadyH.cons rfl (fun K hK => ?_) AllReadyH.nil
    go_simp
    refine (number_any A1 _ c1 l x _ qx (by omega)).mono ?_
    rintro r u3 ⟨B3, d3, rfl, g3, p3⟩
    simp only [List.length_append, ↓reduceIte, Bool.false_eq_true] at g3
    replace qx := qx.to p3
    replace qy := qy.to p3
    replace qb := qb.to p3
    replace qs := qs.to p3
    go_wp2_with fail
    refine hK.out _ _ p3 ?_
    intro hS
    clear hK K
    try simp only [Act.put, List.getElem_toArray, List.getElem_cons_zero, List.getElem_cons_succ, List.setIfInBounds_toArray, List.set_cons_zero, List.set_cons_succ]
    refine wpAnyH_strong (S2 := fun w' => Below u3.heap.size u3 w') (fun w' (h' : Below u3.heap.size u3 w') => p3.trans (h'.mono p3.size)) _ _ _ _ ?_
    clear hS
    have hS : Below u3.heap.size u3 u3 := Below.refl _ _
    refine wpAnyH_take (i := 3) (v := ?vb3) rfl (by kernel_rfl) (by kernel_rfl) (by kernel_rfl) (fun _ _ _ h => h) (Or.inl ⟨by rfl, ?hyb3⟩) hS ?restb3
    case hyb3 => (intro w hSw; have hcv := conv8 w B3 _ d3 _ ((Rd.of_own g3).to hSw); go_simp; first | done | with_reducible rfl)
    try simp only [Act.put, List.getElem_toArray, List.getElem_cons_zero, List.getElem_cons_succ, List.setIfInBounds_toArray, List.set_cons_zero, List.set_cons_succ]
    refine wpAnyH_ready (rs := [6]) (by kernel_rfl) (by simp) ?_
    refine AllReadyH.cons rfl (fun K hK => ?_) AllReadyH.nil
    go_simp
    refine (refNumber_any A _ c l x _ qb (by omega)).mono ?_
    rintro r u4 ⟨B4, d4, rfl, g4, p4⟩
    simp only [List.length_append, ↓reduceIte, Bool.false_eq_true] at g4
    replace qx := qx.to p4
    replace qy := qy.to p4
    replace qb := qb.to p4
    replace qs := qs.to p4
    go_wp2_with fail
    refine hK.out _ _ p4 ?_
    intro hS
    clear hK K
    try simp only [Act.put, List.getElem_toArray, List.getElem_cons_zero, List.getElem_cons_succ, List.setIfInBounds_toArray, List.set_cons_zero, List.set_cons_succ]
    refine wpAnyH_strong (S2 := fun w' => Below u4.heap.size u4 w') (fun w' (h' : Below u4.heap.size u4 w') => p4.trans (h'.mono p4.size)) _ _ _ _ ?_
    clear hS
    have hS : Below u4.heap.size u4 u4 := Below.refl _ _
    refine wpAnyH_take (i := 7) (v := ?vb7) rfl (by kernel_rfl) (by kernel_rfl) (by kernel_rfl) (fun _ _ _ h => h) (Or.inl ⟨by rfl, ?hyb7⟩) hS ?restb7
    case hyb7 => (intro w hSw; have hcv := conv8 w B4 _ d4 _ ((Rd.of_own g4).to hSw); go_simp; first | done | with_reducible rfl)
    try simp only [Act.put, List.getElem_toArray, List.getElem_cons_zero, List.getElem_cons_succ, List.setIfInBounds_toArray, List.set_cons_zero, List.set_cons_succ]
    refine wpAnyH_take (i := 8) (v := ?vb8) rfl (by kernel_rfl) (by kernel_rfl) (by kernel_rfl) (fun _ _ _ h => h) (Or.inl ⟨by rfl, ?hyb8⟩) hS ?restb8
    case hyb8 => (intro w hSw; go_simp; first | done | with_reducible rfl)
    try simp only [Act.put, List.getElem_toArray, List.getElem_cons_zero, List.getElem_cons_succ, List.setIfInBounds_toArray, List.set_cons_zero, List.set_cons_succ]
    refine wpAnyH_take (i := 9) (v := ?vb9) rfl (by kernel_rfl) (by kernel_rfl) (by kernel_rfl) (fun _ _ _ h => h) (Or.inl ⟨by rfl, ?hyb9⟩) hS ?restb9
    case hyb9 => (intro w hSw; go_simp; first | done | with_reducible rfl)
    try simp only [Act.put, List.getElem_toArray, List.getElem_cons_zero, List.getElem_cons_succ, List.setIfInBounds_toArray, List.set_cons_zero, List.set_cons_succ]
    refine wpAnyH_take (i := 10) (v := ?vb10) rfl (by kernel_rfl) (by kernel_rfl) (by kernel_rfl) (fun _ _ _ h => h) (Or.inl ⟨by rfl, ?hyb10⟩) hS ?restb10
    case hyb10 => (intro w hSw; go_simp; first | done | with_reducible rfl)
    try simp only [Act.put, List.getElem_toArray, List.getElem_cons_zero, List.getElem_cons_succ, List.setIfInBounds_toArray, List.set_cons_zero, List.set_cons_succ]
    refine wpAnyH_take (i := 11) (v := ?vb11) rfl (by kernel_rfl) (by kernel_rfl) (by kernel_rfl) (fun _ _ _ h => h) (Or.inl ⟨by rfl, ?hyb11⟩) hS ?restb11
    case hyb11 => (intro w hSw; go_simp; first | done | with_reducible rfl)
    try simp only [Act.put, List.getElem_toArray, List.getElem_cons_zero, List.getElem_cons_succ, List.setIfInBounds_toArray, List.set_cons_zero, List.set_cons_succ]
    refine wpAnyH_take (i := 14) (v := ?vb14) rfl (by kernel_rfl) (by kernel_rfl) (by kernel_rfl) (fun _ _ _ h => h) (Or.inl ⟨by rfl, ?hyb14⟩) hS ?restb14
    case hyb14 => (intro w hSw; go_simp; first | done | with_reducible rfl)
    try simp only [Act.put, List.getElem_toArray, List.getElem_cons_zero, List.getElem_cons_succ, List.setIfInBounds_toArray, List.set_cons_zero, List.set_cons_succ]
    refine wpAnyH_take (i := 15) (v := ?vb15) rfl (by kernel_rfl) (by kernel_rfl) (by kernel_rfl) (fun _ _ _ h => h) (Or.inl ⟨by rfl, ?hyb15⟩) hS ?restb15
    case hyb15 => (intro w hSw; go_simp; first | done | with_reducible rfl)
    try simp only [Act.put, List.getElem_toArray, List.getElem_cons_zero, List.getElem_cons_succ, List.setIfInBounds_toArray, List.set_cons_zero, List.set_cons_succ]
    refine wpAnyH_ready (rs := [12]) (by kernel_rfl) (by simp) ?_
    refine AllReadyH.cons rfl (fun K hK => ?_) AllReadyH.nil
    go_simp
    refine (text_any A1 _ c1 l A2 _ c2 l' _ qx qy (by omega)).mono ?_
    rintro r u5 ⟨B5, d5, rfl, g5, p5⟩
    simp only [List.length_append, ↓reduceIte, Bool.false_eq_true] at g5
    replace qx := qx.to p5
    replace qy := qy.to p5
    replace qb := qb.to p5
    replace qs := qs.to p5
    go_wp2_with fail
    refine hK.out _ _ p5 ?_
    intro hS
    clear hK K
    try simp only [Act.put, List.getElem_toArray, List.getElem_cons_zero, List.getElem_cons_succ, List.setIfInBounds_toArray, List.set_cons_zero, List.set_cons_succ]
    refine wpAnyH_strong (S2 := fun w' => Below u5.heap.size u5 w') (fun w' (h' : Below u5.heap.size u5 w') => p5.trans (h'.mono p5.size)) _ _ _ _ ?_
    clear hS
    have hS : Below u5.heap.size u5 u5 := Below.refl _ _
    refine wpAnyH_take (i := 13) (v := ?vb13) rfl (by kernel_rfl) (by kernel_rfl) (by kernel_rfl) (fun _ _ _ h => h) (Or.inl ⟨by rfl, ?hyb13⟩) hS ?restb13
    case hyb13 => (intro w hSw; have hcv := conv8 w B5 _ d5 _ ((Rd.of_own g5).to hSw); go_simp; first | done | with_reducible rfl)
    try simp only [Act.put, List.getElem_toArray, List.getElem_cons_zero, List.getElem_cons_succ, List.setIfInBounds_toArray, List.set_cons_zero, List.set_cons_succ]
    refine wpAnyH_ready (rs := [16]) (by kernel_rfl) (by simp) ?_
    refine AllReadyH.cons rfl (fun K hK => ?_) AllReadyH.nil
    go_simp
    refine (refText_any A _ c l A' _ c' l' _ qb qs (by omega)).mono ?_
    rintro r u6 ⟨B6, d6, rfl, g6, p6⟩
    simp only [List.length_append, ↓reduceIte, Bool.false_eq_true] at g6
    replace qx := qx.to p6
    replace qy := qy.to p6
    replace qb := qb.to p6
    replace qs := qs.to p6
    go_wp2_with fail
    refine hK.out _ _ p6 ?_
    intro hS
    clear hK K
    try simp only [Act.put, List.getElem_toArray, List.getElem_cons_zero, List.getElem_cons_succ, List.setIfInBounds_toArray, List.set_cons_zero, List.set_cons_succ]
    refine wpAnyH_strong (S2 := fun w' => Below u6.heap.size u6 w') (fun w' (h' : Below u6.heap.size u6 w') => p6.trans (h'.mono p6.size)) _ _ _ _ ?_
    clear hS
    have hS : Below u6.heap.size u6 u6 := Below.refl _ _
    refine wpAnyH_take (i := 17) (v := ?vb17) rfl (by kernel_rfl) (by kernel_rfl) (by kernel_rfl) (fun _ _ _ h => h) (Or.inl ⟨by rfl, ?hyb17⟩) hS ?restb17
    case hyb17 => (intro w hSw; have hcv := conv8 w B6 _ d6 _ ((Rd.of_own g6).to hSw); go_simp; first | done | with_reducible rfl)
    try simp only [Act.put, List.getElem_toArray, List.getElem_cons_zero, List.getElem_cons_succ, List.setIfInBounds_toArray, List.set_cons_zero, List.set_cons_succ]
    refine wpAnyH_take (i := 18) (v := ?vb18) rfl (by kernel_rfl) (by kernel_rfl) (by kernel_rfl) (fun _ _ _ h => h) (Or.inl ⟨by rfl, ?hyb18⟩) hS ?restb18
    case hyb18 => (intro w hSw; go_simp; first | done | with_reducible rfl)
    try simp only [Act.put, List.getElem_toArray, List.getElem_cons_zero, List.getElem_cons_succ, List.setIfInBounds_toArray, List.set_cons_zero, List.set_cons_succ]
    refine wpAnyH_take (i := 19) (v := ?vb19) rfl (by kernel_rfl) (by kernel_rfl) (by kernel_rfl) (fun _ _ _ h => h) (Or.inl ⟨by rfl, ?hyb19⟩) hS ?restb19
    case hyb19 => (intro w hSw; go_simp; first | done | with_reducible rfl)
    try simp only [Act.put, List.getElem_toArray, List.getElem_cons_zero, List.getElem_cons_succ, List.setIfInBounds_toArray, List.set_cons_zero, List.set_cons_succ]
    refine wpAnyH_take (i := 20) (v := ?vb20) rfl (by kernel_rfl) (by kernel_rfl) (by kernel_rfl) (fun _ _ _ h => h) (Or.inl ⟨by rfl, ?hyb20⟩) hS ?restb20
    case hyb20 => (intro w hSw; go_simp; first | done | with_reducible rfl)
    try simp only [Act.put, List.getElem_toArray, List.getElem_cons_zero, List.getElem_cons_succ, List.setIfInBounds_toArray, List.set_cons_zero, List.set_cons_succ]
    refine wpAnyH_take (i := 21) (v := ?vb21) rfl (by kernel_rfl) (by kernel_rfl) (by kernel_rfl) (fun _ _ _ h => h) (Or.inl ⟨by rfl, ?hyb21⟩) hS ?restb21
    case hyb21 => (intro w hSw; go_simp; first | done | with_reducible rfl)
    try simp only [Act.put, List.getElem_toArray, List.getElem_cons_zero, List.getElem_cons_succ, List.setIfInBounds_toArray, List.set_cons_zero, List.set_cons_succ]
    refine wpAnyH_take (i := 22) (v := ?vb22) rfl (by kernel_rfl) (by kernel_rfl) (by kernel_rfl) (fun _ _ _ h => h) (Or.inl ⟨by rfl, ?hyb22⟩) hS ?restb22
    case hyb22 => (intro w hSw; go_simp; first | done | with_reducible rfl)
    try simp only [Act.put, List.getElem_toArray, List.getElem_cons_zero, List.getElem_cons_succ, List.setIfInBounds_toArray, List.set_cons_zero, List.set_cons_succ]
    refine wpAnyH_take (i := 25) (v := ?vb25) rfl (by kernel_rfl) (by kernel_rfl) (by kernel_rfl) (fun _ _ _ h => h) (Or.inl ⟨by rfl, ?hyb25⟩) hS ?restb25
    case hyb25 => (intro w hSw; go_simp; first | done | with_reducible rfl)
    try simp only [Act.put, List.getElem_toArray, List.getElem_cons_zero, List.getElem_cons_succ, List.setIfInBounds_toArray, List.set_cons_zero, List.set_cons_succ]
    refine wpAnyH_take (i := 26) (v := ?vb26) rfl (by kernel_rfl) (by kernel_rfl) (by kernel_rfl) (fun _ _ _ h => h) (Or.inl ⟨by rfl, ?hyb26⟩) hS ?restb26
    case hyb26 => (intro w hSw; go_simp; first | done | with_reducible rfl)
    try simp only [Act.put, List.getElem_toArray, List.getElem_cons_zero, List.getElem_cons_succ, List.setIfInBounds_toArray, List.set_cons_zero, List.set_cons_succ]
    refine wpAnyH_ready (rs := [23]) (by kernel_rfl) (by simp) ?_
    refine AllReadyH.cons rfl (fun K hK => ?_) AllReadyH.nil
    go_simp
    refine (flag_any A1 _ c1 l false _ qx (by omega)).mono ?_
    rintro r u7 ⟨B7, d7, rfl, g7, p7⟩
    simp only [List.length_append, ↓reduceIte, Bool.false_eq_true] at g7
    replace qx := qx.to p7
    replace qy := qy.to p7
    replace qb := qb.to p7
    replace qs := qs.to p7
    go_wp2_with fail
    refine hK.out _ _ p7 ?_
    intro hS
    clear hK K
    try simp only [Act.put, List.getElem_toArray, List.getElem_cons_zero, List.getElem_cons_succ, List.setIfInBounds_toArray, List.set_cons_zero, List.set_cons_succ]
    refine wpAnyH_strong (S2 := fun w' => Below u7.heap.size u7 w') (fun w' (h' : Below u7.heap.size u7 w') => p7.trans (h'.mono p7.size)) _ _ _ _ ?_
    clear hS
    have hS : Below u7.heap.size u7 u7 := Below.refl _ _
    refine wpAnyH_take (i := 24) (v := ?vb24) rfl (by kernel_rfl) (by kernel_rfl) (by kernel_rfl) (fun _ _ _ h => h) (Or.inl ⟨by rfl, ?hyb24⟩) hS ?restb24
    case hyb24 => (intro w hSw; have hcv := conv8 w B7 _ d7 _ ((Rd.of_own g7).to hSw); go_simp; first | done | with_reducible rfl)
    try simp only [Act.put, List.getElem_toArray, List.getElem_cons_zero, List.getElem_cons_succ, List.setIfInBounds_toArray, List.set_cons_zero, List.set_cons_succ]
    refine wpAnyH_ready (rs := [27]) (by kernel_rfl) (by simp) ?_
    refine AllReadyH.cons rfl (fun K hK => ?_) AllReadyH.nil
    go_simp
    refine (refFlag_any A _ c l false _ qb (by omega)).mono ?_
    rintro r u8 ⟨B8, d8, rfl, g8, p8⟩
    simp only [List.length_append, ↓reduceIte, Bool.false_eq_true] at g8
    replace qx := qx.to p8
    replace qy := qy.to p8
    replace qb := qb.to p8
    replace qs := qs.to p8
    go_wp2_with fail
    refine hK.out _ _ p8 ?_
    intro hS
    clear hK K
    try simp only [Act.put, List.getElem_toArray, List.getElem_cons_zero, List.getElem_cons_succ, List.setIfInBounds_toArray, List.set_cons_zero, List.set_cons_succ]
    refine wpAnyH_strong (S2 := fun w' => Below u8.heap.size u8 w') (fun w' (h' : Below u8.heap.size u8 w') => p8.trans (h'.mono p8.size)) _ _ _ _ ?_
    clear hS
    have hS : Below u8.heap.size u8 u8 := Below.refl _ _
    refine wpAnyH_take (i := 28) (v := ?vb28) rfl (by kernel_rfl) (by kernel_rfl) (by kernel_rfl) (fun _ _ _ h => h) (Or.inl ⟨by rfl, ?hyb28⟩) hS ?restb28
    case hyb28 => (intro w hSw; have hcv := conv8 w B8 _ d8 _ ((Rd.of_own g8).to hSw); go_simp; first | done | with_reducible rfl)
    try simp only [Act.put, List.getElem_toArray, List.getElem_cons_zero, List.getElem_cons_succ, List.setIfInBounds_toArray, List.set_cons_zero, List.set_cons_succ]
    refine wpAnyH_take (i := 29) (v := ?vb29) rfl (by kernel_rfl) (by kernel_rfl) (by kernel_rfl) (fun _ _ _ h => h) (Or.inl ⟨by rfl, ?hyb29⟩) hS ?restb29
    case hyb29 => (intro w hSw; go_simp; first | done | with_reducible rfl)
    try simp only [Act.put, List.getElem_toArray, List.getElem_cons_zero, List.getElem_cons_succ, List.setIfInBounds_toArray, List.set_cons_zero, List.set_cons_succ]
    refine wpAnyH_take (i := 30) (v := ?vb30) rfl (by kernel_rfl) (by kernel_rfl) (by kernel_rfl) (fun _ _ _ h => h) (Or.inl ⟨by rfl, ?hyb30⟩) hS ?restb30
    case hyb30 => (intro w hSw; go_simp; first | done | with_reducible rfl)
    try simp only [Act.put, List.getElem_toArray, List.getElem_cons_zero, List.getElem_cons_succ, List.setIfInBounds_toArray, List.set_cons_zero, List.set_cons_succ]
    refine wpAnyH_take (i := 31) (v := ?vb31) rfl (by kernel_rfl) (by kernel_rfl) (by kernel_rfl) (fun _ _ _ h => h) (Or.inl ⟨by rfl, ?hyb31⟩) hS ?restb31
    case hyb31 => (intro w hSw; go_simp; first | done | with_reducible rfl)
    try simp only [Act.put, List.getElem_toArray, List.getElem_cons_zero, List.getElem_cons_succ, List.setIfInBounds_toArray, List.set_cons_zero, List.set_cons_succ]
    refine wpAnyH_take (i := 32) (v := ?vb32) rfl (by kernel_rfl) (by kernel_rfl) (by kernel_rfl) (fun _ _ _ h => h) (Or.inl ⟨by rfl, ?hyb32⟩) hS ?restb32
    case hyb32 => (intro w hSw; go_simp; first | done | with_reducible rfl)
    try simp only [Act.put, List.getElem_toArray, List.getElem_cons_zero, List.getElem_cons_succ, List.setIfInBounds_toArray, List.set_cons_zero, List.set_cons_succ]
    refine wpAnyH_take (i := 33) (v := ?vb33) rfl (by kernel_rfl) (by kernel_rfl) (by kernel_rfl) (fun _ _ _ h => h) (Or.inl ⟨by rfl, ?hyb33⟩) hS ?restb33
    case hyb33 => (intro w hSw; have hcv := conv8 w A1 _ c1 _ (qx.to hSw); go_simp; first | done | with_reducible rfl)
    try simp only [Act.put, List.getElem_toArray, List.getElem_cons_zero, List.getElem_cons_succ, List.setIfInBounds_toArray, List.set_cons_zero, List.set_cons_succ]
    refine wpAnyH_take (i := 34) (v := ?vb34) rfl (by kernel_rfl) (by kernel_rfl) (by kernel_rfl) (fun _ _ _ h => h) (Or.inl ⟨by rfl, ?hyb34⟩) hS ?restb34
    case hyb34 => (intro w hSw; go_simp; first | done | with_reducible rfl)
    try simp only [Act.put, List.getElem_toArray, List.getElem_cons_zero, List.getElem_cons_succ, List.setIfInBounds_toArray, List.set_cons_zero, List.set_cons_succ]
    refine wpAnyH_take (i := 35) (v := ?vb35) rfl (by kernel_rfl) (by kernel_rfl) (by kernel_rfl) (fun _ _ _ h => h) (Or.inl ⟨by rfl, ?hyb35⟩) hS ?restb35
    case hyb35 => (intro w hSw; have hcv := conv8 w A _ c _ (qb.to hSw); go_simp; first | done | with_reducible rfl)
    try simp only [Act.put, List.getElem_toArray, List.getElem_cons_zero, List.getElem_cons_succ, List.setIfInBounds_toArray, List.set_cons_zero, List.set_cons_succ]
    refine wpAnyH_take (i := 36) (v := ?vb36) rfl (by kernel_rfl) (by kernel_rfl) (by kernel_rfl) (fun _ _ _ h => h) (Or.inl ⟨by rfl, ?hyb36⟩) hS ?restb36
    case hyb36 => (intro w hSw; go_simp; first | done | with_reducible rfl)
    try simp only [Act.put, List.getElem_toArray, List.getElem_cons_zero, List.getElem_cons_succ, List.setIfInBounds_toArray, List.set_cons_zero, List.set_cons_succ]
    refine wpAnyH_take (i := 37) (v := ?vb37) rfl (by kernel_rfl) (by kernel_rfl) (by kernel_rfl) (fun _ _ _ h => h) (Or.inl ⟨by rfl, ?hyb37⟩) hS ?restb37
    case hyb37 => (intro w hSw; go_simp; first | done | with_reducible rfl)
    try simp only [Act.put, List.getElem_toArray, List.getElem_cons_zero, List.getElem_cons_succ, List.setIfInBounds_toArray, List.set_cons_zero, List.set_cons_succ]
    refine wpAnyH_take (i := 38) (v := ?vb38) rfl (by kernel_rfl) (by kernel_rfl) (by kernel_rfl) (fun _ _ _ h => h) (Or.inl ⟨by rfl, ?hyb38⟩) hS ?restb38
    case hyb38 => (intro w hSw; go_simp; first | done | with_reducible rfl)
    try simp only [Act.put, List.getElem_toArray, List.getElem_cons_zero, List.getElem_cons_succ, List.setIfInBounds_toArray, List.set_cons_zero, List.set_cons_succ]
    refine wpAnyH_take (i := 39) (v := ?vb39) rfl (by kernel_rfl) (by kernel_rfl) (by kernel_rfl) (fun _ _ _ h => h) (Or.inl ⟨by rfl, ?hyb39⟩) hS ?restb39
    case hyb39 => (intro w hSw; go_simp; first | done | with_reducible rfl)
    try simp only [Act.put, List.getElem_toArray, List.getElem_cons_zero, List.getElem_cons_succ, List.setIfInBounds_toArray, List.set_cons_zero, List.set_cons_succ]
    refine wpAnyH_take (i := 40) (v := ?vb40) rfl (by kernel_rfl) (by kernel_rfl) (by kernel_rfl) (fun _ _ _ h => h) (Or.inl ⟨by rfl, ?hyb40⟩) hS ?restb40
    case hyb40 => (intro w hSw; have hcv := conv8 w A2 _ c2 _ (qy.to hSw); go_simp; first | done | with_reducible rfl)
    try simp only [Act.put, List.getElem_toArray, List.getElem_cons_zero, List.getElem_cons_succ, List.setIfInBounds_toArray, List.set_cons_zero, List.set_cons_succ]
    refine wpAnyH_take (i := 41) (v := ?vb41) rfl (by kernel_rfl) (by kernel_rfl) (by kernel_rfl) (fun _ _ _ h => h) (Or.inl ⟨by rfl, ?hyb41⟩) hS ?restb41
    case hyb41 => (intro w hSw; go_simp; first | done | with_reducible rfl)
    try simp only [Act.put, List.getElem_toArray, List.getElem_cons_zero, List.getElem_cons_succ, List.setIfInBounds_toArray, List.set_cons_zero, List.set_cons_succ]
    refine wpAnyH_take (i := 42) (v := ?vb42) rfl (by kernel_rfl) (by kernel_rfl) (by kernel_rfl) (fun _ _ _ h => h) (Or.inl ⟨by rfl, ?hyb42⟩) hS ?restb42
    case hyb42 => (intro w hSw; have hcv := conv8 w A' _ c' _ (qs.to hSw); go_simp; first | done | with_reducible rfl)
    try simp only [Act.put, List.getElem_toArray, List.getElem_cons_zero, List.getElem_cons_succ, List.setIfInBounds_toArray, List.set_cons_zero, List.set_cons_succ]
    refine wpAnyH_take (i := 43) (v := ?vb43) rfl (by kernel_rfl) (by kernel_rfl) (by kernel_rfl) (fun _ _ _ h => h) (Or.inl ⟨by rfl, ?hyb43⟩) hS ?restb43
    case hyb43 => (intro w hSw; go_simp; first | done | with_reducible rfl)
    try simp only [Act.put, List.getElem_toArray, List.getElem_cons_zero, List.getElem_cons_succ, List.setIfInBounds_toArray, List.set_cons_zero, List.set_cons_succ]
    refine wpAnyH_take (i := 44) (v := ?vb44) rfl (by kernel_rfl) (by kernel_rfl) (by kernel_rfl) (fun _ _ _ h => h) (Or.inl ⟨by rfl, ?hyb44⟩) hS ?restb44
    case hyb44 => (intro w hSw; go_simp; first | done | with_reducible rfl)
    try simp only [Act.put, List.getElem_toArray, List.getElem_cons_zero, List.getElem_cons_succ, List.setIfInBounds_toArray, List.set_cons_zero, List.set_cons_succ]
    refine wpAnyH_take (i := 45) (v := ?vb45) rfl (by kernel_rfl) (by kernel_rfl) (by kernel_rfl) (fun _ _ _ h => h) (Or.inl ⟨by rfl, ?hyb45⟩) hS ?restb45
    case hyb45 => (intro w hSw; go_simp; first | done | with_reducible rfl)
    try simp only [Act.put, List.getElem_toArray, List.getElem_cons_zero, List.getElem_cons_succ, List.setIfInBounds_toArray, List.set_cons_zero, List.set_cons_succ]
    refine wpAnyH_ready (rs := [46]) (by kernel_rfl) (by simp) ?_
    refine AllReadyH.cons rfl (fun K hK => ?_) AllReadyH.nil
    go_simp
    refine (awake_any _).mono ?_
    rintro r u9 ⟨rfl, p9⟩
    go_wp2_with fail
    refine hK.out _ _ p9 ?_
    intro hS
    clear hK K
    try simp only [Act.put, List.getElem_toArray, List.getElem_cons_zero, List.getElem_cons_succ, List.setIfInBounds_toArray, List.set_cons_zero, List.set_cons_succ]
    refine wpAnyH_take (i := 47) (v := ?vb47) rfl (by kernel_rfl) (by kernel_rfl) (by kernel_rfl) (fun _ _ _ h => h) (Or.inl ⟨by rfl, ?hyb47⟩) hS ?restb47
    case hyb47 => (intro w hSw; go_simp; first | done | with_reducible rfl)
    try simp only [Act.put, List.getElem_toArray, List.getElem_cons_zero, List.getElem_cons_succ, List.setIfInBounds_toArray, List.set_cons_zero, List.set_cons_succ]
    refine wpAnyH_take (i := 48) (v := ?vb48) rfl (by kernel_rfl) (by kernel_rfl) (by kernel_rfl) (fun _ _ _ h => h) (Or.inl ⟨by rfl, ?hyb48⟩) hS ?restb48
    case hyb48 => (intro w hSw; go_simp; first | done | with_reducible rfl)
    try simp only [Act.put, List.getElem_toArray, List.getElem_cons_zero, List.getElem_cons_succ, List.setIfInBounds_toArray, List.set_cons_zero, List.set_cons_succ]
    refine wpAnyH_done (by kernel_rfl) (NoPanic.normal ?_) _
    go_wp2_with fail
    go_ret
    have hB2 := hb1.trans (hb2.mono hb1.size)
    have hB3 := hB2.trans (hd.mono hB2.size)
    have hB8 := hB3.trans ((p3.trans ((p4.trans ((p5.trans ((p6.trans ((p7.trans ((p8.trans (p9.mono p8.size)).mono p7.size)).mono p6.size)).mono p5.size)).mono p4.size)).mono p3.size)).mono hB3.size)
    exact ⟨rfl, hB8⟩
end Go.Proofs.Ytfobjpngajhdkaa
