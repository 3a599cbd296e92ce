/- The walks of the laws HkdfMacs, HkdfExtracts, HkdfLong. (Printed by gen_hke.py.) -/
import Derived.Test.YtclecmpmohoamaaDoorHkaD
import Derived.Test.YtclecmpmohoamaaDoorReg
namespace Go.Proofs.YtclecmpmohoamaaDoor
open Go.RowKit
attribute [local go_sem ↓] Go.wp_at_zero Go.wp_at_succ
set_option linter.unusedSimpArgs false
set_option linter.unusedVariables false
theorem LayS.to4 {w w' : World} (h : LayS w) {B : Nat} (hB : 4 ≤ B) (hb : Below B w w') : LayS w' := h.to hB hb
theorem own_block_ge {w : World} {base n c : Nat} {A : Option Addr} {xs : List Value} {e : TypeId} (h : w.ownsRow base e 1 (.slice A n c) n xs) : ∀ k, (Value.slice A n c).ownBlock = some k → base ≤ k := by
  intro k hk
  rcases h.2 with ⟨hv, _⟩ | ⟨g, cap, cur, hv, hb, _⟩
  · injection hv with h1; subst h1; cases hk
  · injection hv with h1; subst h1
    simp [Value.ownBlock] at hk
    omega
section
variable {P : Program} {w : World}
theorem step_app_zeros {ops : Array Oper} {E : Prop} {o : Oper} {a : Act} {K : Act → World → Prop} {Q : Exit → Act → World → Prop} (s x : Operand) (t tn : TypeId)
    (hgd : o.guard = none) (ho : o.op = .call { callee := .builtin .append, args := #[s, x], argTypes := #[t, tn] })
    (base : Nat) (e : TypeId) (ht : P.underlying t = some (.slice e)) (htn : P.underlying tn = some (.int .i64)) (u : TypeId) (hu : P.underlying u = some .string) (hi8 : (P.info? e).map (fun i => (i.zero, i.size, i.bytes)) = some (some (.int .u8 0), 1, 1))
    (A : Option Addr) (n c : Nat) (xs : List Value) (hs : a.eval s = .slice A n c) (hown : w.ownsRow base e 1 (.slice A n c) n xs)
    (m : Nat) (hx : a.eval x = .int .i64 m) (h63 : n + m ≤ maxLen) (hbytes : n + m ≤ 140737488355328) (hbase : base ≤ w.heap.size)
    (h : ∀ A' c' w', w'.ownsRow base e 1 (.slice A' (n + m) c') (n + m) (xs ++ List.replicate m (Value.int .u8 0)) → w.grownBy w' (Value.slice A n c).ownBlock →
      K (a.put o.dst (.slice A' (n + m) c')) w') : if Region.wanted o (yielded ops a.tmps) = true then Oper.wp P o a w K Q else E := by
  rw [if_pos (by simp [Region.wanted, hgd])]
  obtain ⟨i, hi, hz, hsize, hby⟩ := info_parts hi8
  obtain ⟨v', w', hr, h2, h3, _⟩ := Lib.run_append_own_string (P := P) w base t u o.type e i ht hu hi hz hsize hby _ n xs hown (nought m) (by rw [nought_size]; exact h63) (by rw [nought_size]; exact hbytes) hbase
  rw [← run_app_zeros t tn u o.type e i ht htn hu hi hz hsize hby A n c m hbytes (own_cap' hown)] at hr
  rw [nought_size, nought_cells] at h2
  obtain ⟨A', c', rfl⟩ : ∃ A' c', v' = .slice A' (n + m) c' := by
    rcases h2.2 with ⟨rfl, h0⟩ | ⟨g, cap, cur, rfl, _⟩
    · exact ⟨_, _, by rw [h0]⟩
    · exact ⟨_, _, rfl⟩
  unfold Oper.wp execOp
  simp only [ho, resolve, invoke, builtin, Sem.run_bind, Sem.run_pure, Result.andThen_ok, List.map_toArray, List.map_cons, List.map_nil, hs, hx, hr]
  exact h A' c' w' h2 h3
end

set_option maxRecDepth 20000 in
set_option maxHeartbeats 8000000 in
theorem hkdfMacs_walk (A : Option Addr) (n c : Nat) (key : List UInt8) (A' : Option Addr) (n' c' : Nat) (b : List UInt8) (w : World) (hr : Rd w w.heap.size 1 A n (key.map B8)) (hc : n ≤ c) (hn : n ≤ 140737488351232) (hr' : Rd w w.heap.size 1 A' n' (b.map B8)) (hc' : n' ≤ c') (hn' : n' ≤ 140737488351232) (hL : LayS w) :
    Calls Tryd.prog 9 #[.slice A n c, .slice A' n' c'] w fun r w' => r = .returned (.bool true) ∧ Below w.heap.size w w' := by
  obtain rfl : key.length = n := by simpa using hr.len
  obtain rfl : b.length = n' := by simpa using hr'.len
  by_cases h4 : 4000 < key.length
  · have h4a : (4000 : Int) < key.length := by omega
    go_enter Tryd.func9, Tryd.ntmps9
    go_wp2_with fail
    refine (awake7_any w hL).mono ?_
    rintro e w1 ⟨rfl, hb⟩
    go_wp2_with fail
    go_ret
    exact ⟨rfl, hb⟩
  have h4a : ¬ (4000 : Int) < key.length := by omega
  by_cases h5 : 4000 < b.length
  · have h4b : (4000 : Int) < b.length := by omega
    go_enter Tryd.func9, Tryd.ntmps9
    go_wp2_with fail
    refine (awake7_any w hL).mono ?_
    rintro e w1 ⟨rfl, hb⟩
    go_wp2_with fail
    go_ret
    exact ⟨rfl, hb⟩
  have h4b : ¬ (4000 : Int) < b.length := by omega
  have h44 := hL.size
  have HL0 := Lib.hid hL
  have HR := Lib.hid hr
  have HR' := Lib.hid hr'
  clear hL hr hr'
  go_enter Tryd.func9, Tryd.ntmps9
  go_wp2_with fail
  refine (own7_any A _ c key w HR.out (by omega)).mono ?_
  rintro e w1 ⟨A1, c1, rfl, h1, hb1⟩
  have k1 := own_cap h1
  have Ho1 := Lib.hid (Rd.of_own h1)
  have hs1 := hb1.size
  clear h1
  go_wp2_with fail
  refine (own7_any A' _ c' b w1 (HR'.out.to hb1) (by omega)).mono ?_
  rintro e w2 ⟨A2, c2, rfl, h2, hb2⟩
  have k2 := own_cap h2
  have Ho2 := Lib.hid (Rd.of_own h2)
  have hB2 : Hid (Below w.heap.size w w2) := hb1.trans (hb2.mono hs1)
  have Ho1' := Lib.hid (Ho1.out.to hb2)
  clear h2
  go_wp2_with fail
  obtain ⟨W, hW⟩ : ∃ W, Hid (W = w2.drew) := ⟨_, Lib.hid rfl⟩
  have dW : Below w2.heap.size w2 W := by rw [hW.out]; exact below_drew (Below.refl _ _)
  have hBW : Below w.heap.size w W := hB2.out.trans (dW.mono hB2.out.size)
  have HL := Lib.hid (HL0.out.go' hBW)
  have X := Lib.hid (Ho1'.out.to dW)
  have Y := Lib.hid (Ho2.out.to dW)
  have HA := Lib.hid (HR.out.to hBW)
  have HB := Lib.hid (HR'.out.to hBW)
  have hB := Lib.hid hBW
  refine wp_region_noPanic ?_
  refine wp_region_held_drew (S := fun w' => Below W.heap.size W w') (by kernel_rfl) (by rw [hW.out]; exact Below.refl _ _) (fun hS => ?_)
  rw [← hW.out]
  clear hS
  have hS : Below W.heap.size W W := Below.refl _ _
  refine wpAnyH_take (i := 0) (v := ?v0) rfl (by kernel_rfl) (by kernel_rfl) (by kernel_rfl) (fun _ _ _ h => h) (Or.inl ⟨by rfl, ?hy0⟩) hS ?rest0
  case hy0 => (intro w hSw; go_simp; first | done | with_reducible rfl)
  try simp only [Act.put, List.getElem_toArray, List.getElem_cons_zero, List.getElem_cons_succ, List.setIfInBounds_toArray, List.set_cons_zero, List.set_cons_succ]
  refine wpAnyH_take (i := 1) (v := ?v1) rfl (by kernel_rfl) (by kernel_rfl) (by kernel_rfl) (fun _ _ _ h => h) (Or.inl ⟨by rfl, ?hy1⟩) hS ?rest1
  case hy1 => (intro w hSw; go_simp; first | done | with_reducible rfl)
  try simp only [Act.put, List.getElem_toArray, List.getElem_cons_zero, List.getElem_cons_succ, List.setIfInBounds_toArray, List.set_cons_zero, List.set_cons_succ]
  refine wpAnyH_take (i := 4) (v := ?v4) rfl (by kernel_rfl) (by kernel_rfl) (by kernel_rfl) (fun _ _ _ h => h) (Or.inl ⟨by rfl, ?hy4⟩) hS ?rest4
  case hy4 => (intro w hSw; go_simp; first | done | with_reducible rfl)
  try simp only [Act.put, List.getElem_toArray, List.getElem_cons_zero, List.getElem_cons_succ, List.setIfInBounds_toArray, List.set_cons_zero, List.set_cons_succ]
  refine wpAnyH_take (i := 5) (v := ?v5) rfl (by kernel_rfl) (by kernel_rfl) (by kernel_rfl) (fun _ _ _ h => h) (Or.inl ⟨by rfl, ?hy5⟩) hS ?rest5
  case hy5 => (intro w hSw; go_simp; first | done | with_reducible rfl)
  try simp only [Act.put, List.getElem_toArray, List.getElem_cons_zero, List.getElem_cons_succ, List.setIfInBounds_toArray, List.set_cons_zero, List.set_cons_succ]
  refine wpAnyH_ready (rs := [2]) (by kernel_rfl) (by simp) ?_
  refine AllReadyH.cons rfl (fun K hK => ?_) AllReadyH.nil
  go_simp
  refine (pMac_ A1 _ c1 key A2 _ c2 b _ X.out (by omega) Y.out k2 (by omega) HL.out).mono ?_
  rintro e u6 ⟨A6, c6, rfl, h6, p6⟩
  have H6 := Lib.hid (Rd.of_own h6)
  clear h6
  replace X := Lib.hid (X.out.to p6)
  replace Y := Lib.hid (Y.out.to p6)
  replace HA := Lib.hid (HA.out.to p6)
  replace HB := Lib.hid (HB.out.to p6)
  replace HL := Lib.hid (HL.out.go p6)
  replace hB := Lib.hid (hB.out.trans (p6.mono hB.out.size))
  go_wp2_with fail
  refine hK.out _ _ p6 ?_
  intro hS
  clear hK K
  try simp only [Act.put, List.getElem_toArray, List.getElem_cons_zero, List.getElem_cons_succ, List.setIfInBounds_toArray, List.set_cons_zero, List.set_cons_succ]
  refine wpAnyH_strong (S2 := fun w' => Below u6.heap.size u6 w') (fun w' h' => p6.trans (h'.mono p6.size)) _ _ _ _ ?_
  clear hS
  have hS : Below u6.heap.size u6 u6 := Below.refl _ _
  refine wpAnyH_take (i := 3) (v := ?v3) rfl (by kernel_rfl) (by kernel_rfl) (by kernel_rfl) (fun _ _ _ h => h) (Or.inl ⟨by rfl, ?hy3⟩) hS ?rest3
  case hy3 => (intro w hSw; have hcv := conv8 w A6 _ c6 _ (H6.out.to hSw); go_simp; first | done | with_reducible rfl)
  try simp only [Act.put, List.getElem_toArray, List.getElem_cons_zero, List.getElem_cons_succ, List.setIfInBounds_toArray, List.set_cons_zero, List.set_cons_succ]
  refine wpAnyH_ready (rs := [6]) (by kernel_rfl) (by simp) ?_
  refine AllReadyH.cons rfl (fun K hK => ?_) AllReadyH.nil
  go_simp
  refine (rMac_ A _ c key A' _ c' b _ HA.out HB.out (by omega) (by omega)).mono ?_
  rintro e u7 ⟨A7, c7, rfl, h7, p7⟩
  have H7 := Lib.hid (Rd.of_own h7)
  clear h7
  replace X := Lib.hid (X.out.to p7)
  replace Y := Lib.hid (Y.out.to p7)
  replace HA := Lib.hid (HA.out.to p7)
  replace HB := Lib.hid (HB.out.to p7)
  replace H6 := Lib.hid (H6.out.to p7)
  replace HL := Lib.hid (HL.out.go p7)
  replace hB := Lib.hid (hB.out.trans (p7.mono hB.out.size))
  go_wp2_with fail
  refine hK.out _ _ p7 ?_
  intro hS
  clear hK K
  try simp only [Act.put, List.getElem_toArray, List.getElem_cons_zero, List.getElem_cons_succ, List.setIfInBounds_toArray, List.set_cons_zero, List.set_cons_succ]
  refine wpAnyH_strong (S2 := fun w' => Below u7.heap.size u7 w') (fun w' h' => p7.trans (h'.mono p7.size)) _ _ _ _ ?_
  clear hS
  have hS : Below u7.heap.size u7 u7 := Below.refl _ _
  refine wpAnyH_take (i := 7) (v := ?v7) rfl (by kernel_rfl) (by kernel_rfl) (by kernel_rfl) (fun _ _ _ h => h) (Or.inl ⟨by rfl, ?hy7⟩) hS ?rest7
  case hy7 => (intro w hSw; have hcv := conv8 w A7 _ c7 _ (H7.out.to hSw); go_simp; first | done | with_reducible rfl)
  try simp only [Act.put, List.getElem_toArray, List.getElem_cons_zero, List.getElem_cons_succ, List.setIfInBounds_toArray, List.set_cons_zero, List.set_cons_succ]
  refine wpAnyH_take (i := 8) (v := ?v8) rfl (by kernel_rfl) (by kernel_rfl) (by kernel_rfl) (fun _ _ _ h => h) (Or.inl ⟨by rfl, ?hy8⟩) hS ?rest8
  case hy8 => (intro w hSw; go_simp; first | done | with_reducible rfl)
  try simp only [Act.put, List.getElem_toArray, List.getElem_cons_zero, List.getElem_cons_succ, List.setIfInBounds_toArray, List.set_cons_zero, List.set_cons_succ]
  refine wpAnyH_take (i := 9) (v := ?v9) rfl (by kernel_rfl) (by kernel_rfl) (by kernel_rfl) (fun _ _ _ h => h) (Or.inl ⟨by rfl, ?hy9⟩) hS ?rest9
  case hy9 => (intro w hSw; go_simp; first | done | with_reducible rfl)
  try simp only [Act.put, List.getElem_toArray, List.getElem_cons_zero, List.getElem_cons_succ, List.setIfInBounds_toArray, List.set_cons_zero, List.set_cons_succ]
  refine wpAnyH_take (i := 10) (v := ?v10) rfl (by kernel_rfl) (by kernel_rfl) (by kernel_rfl) (fun _ _ _ h => h) (Or.inl ⟨by rfl, ?hy10⟩) hS ?rest10
  case hy10 => (intro w hSw; go_simp; first | done | with_reducible rfl)
  try simp only [Act.put, List.getElem_toArray, List.getElem_cons_zero, List.getElem_cons_succ, List.setIfInBounds_toArray, List.set_cons_zero, List.set_cons_succ]
  refine wpAnyH_take (i := 11) (v := ?v11) rfl (by kernel_rfl) (by kernel_rfl) (by kernel_rfl) (fun _ _ _ h => h) (Or.inl ⟨by rfl, ?hy11⟩) hS ?rest11
  case hy11 => (intro w hSw; have hcv := conv8 w A1 _ c1 _ (X.out.to hSw); go_simp; first | done | with_reducible rfl)
  try simp only [Act.put, List.getElem_toArray, List.getElem_cons_zero, List.getElem_cons_succ, List.setIfInBounds_toArray, List.set_cons_zero, List.set_cons_succ]
  refine wpAnyH_take (i := 12) (v := ?v12) rfl (by kernel_rfl) (by kernel_rfl) (by kernel_rfl) (fun _ _ _ h => h) (Or.inl ⟨by rfl, ?hy12⟩) hS ?rest12
  case hy12 => (intro w hSw; go_simp; first | done | with_reducible rfl)
  try simp only [Act.put, List.getElem_toArray, List.getElem_cons_zero, List.getElem_cons_succ, List.setIfInBounds_toArray, List.set_cons_zero, List.set_cons_succ]
  refine wpAnyH_take (i := 13) (v := ?v13) rfl (by kernel_rfl) (by kernel_rfl) (by kernel_rfl) (fun _ _ _ h => h) (Or.inl ⟨by rfl, ?hy13⟩) hS ?rest13
  case hy13 => (intro w hSw; have hcv := conv8 w A _ c _ (HA.out.to hSw); go_simp; first | done | with_reducible rfl)
  try simp only [Act.put, List.getElem_toArray, List.getElem_cons_zero, List.getElem_cons_succ, List.setIfInBounds_toArray, List.set_cons_zero, List.set_cons_succ]
  refine wpAnyH_take (i := 14) (v := ?v14) rfl (by kernel_rfl) (by kernel_rfl) (by kernel_rfl) (fun _ _ _ h => h) (Or.inl ⟨by rfl, ?hy14⟩) hS ?rest14
  case hy14 => (intro w hSw; go_simp; first | done | with_reducible rfl)
  try simp only [Act.put, List.getElem_toArray, List.getElem_cons_zero, List.getElem_cons_succ, List.setIfInBounds_toArray, List.set_cons_zero, List.set_cons_succ]
  refine wpAnyH_take (i := 15) (v := ?v15) rfl (by kernel_rfl) (by kernel_rfl) (by kernel_rfl) (fun _ _ _ h => h) (Or.inl ⟨by rfl, ?hy15⟩) hS ?rest15
  case hy15 => (intro w hSw; go_simp; first | done | with_reducible rfl)
  try simp only [Act.put, List.getElem_toArray, List.getElem_cons_zero, List.getElem_cons_succ, List.setIfInBounds_toArray, List.set_cons_zero, List.set_cons_succ]
  refine wpAnyH_take (i := 16) (v := ?v16) rfl (by kernel_rfl) (by kernel_rfl) (by kernel_rfl) (fun _ _ _ h => h) (Or.inl ⟨by rfl, ?hy16⟩) hS ?rest16
  case hy16 => (intro w hSw; go_simp; first | done | with_reducible rfl)
  try simp only [Act.put, List.getElem_toArray, List.getElem_cons_zero, List.getElem_cons_succ, List.setIfInBounds_toArray, List.set_cons_zero, List.set_cons_succ]
  refine wpAnyH_take (i := 17) (v := ?v17) rfl (by kernel_rfl) (by kernel_rfl) (by kernel_rfl) (fun _ _ _ h => h) (Or.inl ⟨by rfl, ?hy17⟩) hS ?rest17
  case hy17 => (intro w hSw; go_simp; first | done | with_reducible rfl)
  try simp only [Act.put, List.getElem_toArray, List.getElem_cons_zero, List.getElem_cons_succ, List.setIfInBounds_toArray, List.set_cons_zero, List.set_cons_succ]
  refine wpAnyH_take (i := 18) (v := ?v18) rfl (by kernel_rfl) (by kernel_rfl) (by kernel_rfl) (fun _ _ _ h => h) (Or.inl ⟨by rfl, ?hy18⟩) hS ?rest18
  case hy18 => (intro w hSw; have hcv := conv8 w A2 _ c2 _ (Y.out.to hSw); go_simp; first | done | with_reducible rfl)
  try simp only [Act.put, List.getElem_toArray, List.getElem_cons_zero, List.getElem_cons_succ, List.setIfInBounds_toArray, List.set_cons_zero, List.set_cons_succ]
  refine wpAnyH_take (i := 19) (v := ?v19) rfl (by kernel_rfl) (by kernel_rfl) (by kernel_rfl) (fun _ _ _ h => h) (Or.inl ⟨by rfl, ?hy19⟩) hS ?rest19
  case hy19 => (intro w hSw; go_simp; first | done | with_reducible rfl)
  try simp only [Act.put, List.getElem_toArray, List.getElem_cons_zero, List.getElem_cons_succ, List.setIfInBounds_toArray, List.set_cons_zero, List.set_cons_succ]
  refine wpAnyH_take (i := 20) (v := ?v20) rfl (by kernel_rfl) (by kernel_rfl) (by kernel_rfl) (fun _ _ _ h => h) (Or.inl ⟨by rfl, ?hy20⟩) hS ?rest20
  case hy20 => (intro w hSw; have hcv := conv8 w A' _ c' _ (HB.out.to hSw); go_simp; first | done | with_reducible rfl)
  try simp only [Act.put, List.getElem_toArray, List.getElem_cons_zero, List.getElem_cons_succ, List.setIfInBounds_toArray, List.set_cons_zero, List.set_cons_succ]
  refine wpAnyH_take (i := 21) (v := ?v21) rfl (by kernel_rfl) (by kernel_rfl) (by kernel_rfl) (fun _ _ _ h => h) (Or.inl ⟨by rfl, ?hy21⟩) hS ?rest21
  case hy21 => (intro w hSw; go_simp; first | done | with_reducible rfl)
  try simp only [Act.put, List.getElem_toArray, List.getElem_cons_zero, List.getElem_cons_succ, List.setIfInBounds_toArray, List.set_cons_zero, List.set_cons_succ]
  refine wpAnyH_take (i := 22) (v := ?v22) rfl (by kernel_rfl) (by kernel_rfl) (by kernel_rfl) (fun _ _ _ h => h) (Or.inl ⟨by rfl, ?hy22⟩) hS ?rest22
  case hy22 => (intro w hSw; go_simp; first | done | with_reducible rfl)
  try simp only [Act.put, List.getElem_toArray, List.getElem_cons_zero, List.getElem_cons_succ, List.setIfInBounds_toArray, List.set_cons_zero, List.set_cons_succ]
  refine wpAnyH_take (i := 23) (v := ?v23) rfl (by kernel_rfl) (by kernel_rfl) (by kernel_rfl) (fun _ _ _ h => h) (Or.inl ⟨by rfl, ?hy23⟩) hS ?rest23
  case hy23 => (intro w hSw; go_simp; first | done | with_reducible rfl)
  try simp only [Act.put, List.getElem_toArray, List.getElem_cons_zero, List.getElem_cons_succ, List.setIfInBounds_toArray, List.set_cons_zero, List.set_cons_succ]
  refine wpAnyH_ready (rs := [24]) (by kernel_rfl) (by simp) ?_
  refine AllReadyH.cons rfl (fun K hK => ?_) AllReadyH.nil
  go_simp
  refine (awake7_any _ HL.out).mono ?_
  rintro e u9 ⟨rfl, p9⟩
  replace hB := Lib.hid (hB.out.trans (p9.mono hB.out.size))
  go_wp2_with fail
  refine hK.out _ _ p9 ?_
  intro hS
  clear hK K
  try simp only [Act.put, List.getElem_toArray, List.getElem_cons_zero, List.getElem_cons_succ, List.setIfInBounds_toArray, List.set_cons_zero, List.set_cons_succ]
  refine wpAnyH_take (i := 25) (v := ?v25) rfl (by kernel_rfl) (by kernel_rfl) (by kernel_rfl) (fun _ _ _ h => h) (Or.inl ⟨by rfl, ?hy25⟩) hS ?rest25
  case hy25 => (intro w hSw; go_simp; first | done | with_reducible rfl)
  try simp only [Act.put, List.getElem_toArray, List.getElem_cons_zero, List.getElem_cons_succ, List.setIfInBounds_toArray, List.set_cons_zero, List.set_cons_succ]
  refine wpAnyH_take (i := 26) (v := ?v26) rfl (by kernel_rfl) (by kernel_rfl) (by kernel_rfl) (fun _ _ _ h => h) (Or.inl ⟨by rfl, ?hy26⟩) hS ?rest26
  case hy26 => (intro w hSw; go_simp; first | done | with_reducible rfl)
  try simp only [Act.put, List.getElem_toArray, List.getElem_cons_zero, List.getElem_cons_succ, List.setIfInBounds_toArray, List.set_cons_zero, List.set_cons_succ]
  refine wpAnyH_done (by kernel_rfl) (NoPanic.normal ?_) _
  go_wp2_with fail
  go_ret
  exact ⟨rfl, hB.out⟩

set_option maxRecDepth 20000 in
set_option maxHeartbeats 8000000 in
theorem hkdfExtracts_walk (A : Option Addr) (n c : Nat) (key : List UInt8) (A' : Option Addr) (n' c' : Nat) (b : List UInt8) (w : World) (hr : Rd w w.heap.size 1 A n (key.map B8)) (hc : n ≤ c) (hn : n ≤ 140737488351232) (hr' : Rd w w.heap.size 1 A' n' (b.map B8)) (hc' : n' ≤ c') (hn' : n' ≤ 140737488351232) (hL : LayS w) :
    Calls Tryd.prog 11 #[.slice A n c, .slice A' n' c'] w fun r w' => r = .returned (.bool true) ∧ Below w.heap.size w w' := by
  obtain rfl : key.length = n := by simpa using hr.len
  obtain rfl : b.length = n' := by simpa using hr'.len
  by_cases h4 : 4000 < key.length
  · have h4a : (4000 : Int) < key.length := by omega
    go_enter Tryd.func11, Tryd.ntmps11
    go_wp2_with fail
    refine (awake7_any w hL).mono ?_
    rintro e w1 ⟨rfl, hb⟩
    go_wp2_with fail
    go_ret
    exact ⟨rfl, hb⟩
  have h4a : ¬ (4000 : Int) < key.length := by omega
  by_cases h5 : 4000 < b.length
  · have h4b : (4000 : Int) < b.length := by omega
    go_enter Tryd.func11, Tryd.ntmps11
    go_wp2_with fail
    refine (awake7_any w hL).mono ?_
    rintro e w1 ⟨rfl, hb⟩
    go_wp2_with fail
    go_ret
    exact ⟨rfl, hb⟩
  have h4b : ¬ (4000 : Int) < b.length := by omega
  have h44 := hL.size
  have HL0 := Lib.hid hL
  have HR := Lib.hid hr
  have HR' := Lib.hid hr'
  clear hL hr hr'
  go_enter Tryd.func11, Tryd.ntmps11
  go_wp2_with fail
  obtain ⟨W, hW⟩ : ∃ W, Hid (W = w.drew) := ⟨_, Lib.hid rfl⟩
  have dW : Below w.heap.size w W := by rw [hW.out]; exact below_drew (Below.refl _ _)
  have HL := Lib.hid (HL0.out.go' dW)
  have HA := Lib.hid (HR.out.to dW)
  have HB := Lib.hid (HR'.out.to dW)
  have hB := Lib.hid dW
  refine wp_region_noPanic ?_
  refine wp_region_held_drew (S := fun w' => Below W.heap.size W w') (by kernel_rfl) (by rw [hW.out]; exact Below.refl _ _) (fun hS => ?_)
  rw [← hW.out]
  clear hS
  have hS : Below W.heap.size W W := Below.refl _ _
  refine wpAnyH_take (i := 0) (v := ?v0) rfl (by kernel_rfl) (by kernel_rfl) (by kernel_rfl) (fun _ _ _ h => h) (Or.inl ⟨by rfl, ?hy0⟩) hS ?rest0
  case hy0 => (intro w hSw; go_simp; first | done | with_reducible rfl)
  try simp only [Act.put, List.getElem_toArray, List.getElem_cons_zero, List.getElem_cons_succ, List.setIfInBounds_toArray, List.set_cons_zero, List.set_cons_succ]
  refine wpAnyH_take (i := 2) (v := ?v2) rfl (by kernel_rfl) (by kernel_rfl) (by kernel_rfl) (fun _ _ _ h => h) (Or.inl ⟨by rfl, ?hy2⟩) hS ?rest2
  case hy2 => (intro w hSw; go_simp; first | done | with_reducible rfl)
  try simp only [Act.put, List.getElem_toArray, List.getElem_cons_zero, List.getElem_cons_succ, List.setIfInBounds_toArray, List.set_cons_zero, List.set_cons_succ]
  refine wpAnyH_take (i := 6) (v := ?v6) rfl (by kernel_rfl) (by kernel_rfl) (by kernel_rfl) (fun _ _ _ h => h) (Or.inl ⟨by rfl, ?hy6⟩) hS ?rest6
  case hy6 => (intro w hSw; go_simp; first | done | with_reducible rfl)
  try simp only [Act.put, List.getElem_toArray, List.getElem_cons_zero, List.getElem_cons_succ, List.setIfInBounds_toArray, List.set_cons_zero, List.set_cons_succ]
  refine wpAnyH_take (i := 7) (v := ?v7) rfl (by kernel_rfl) (by kernel_rfl) (by kernel_rfl) (fun _ _ _ h => h) (Or.inl ⟨by rfl, ?hy7⟩) hS ?rest7
  case hy7 => (intro w hSw; go_simp; first | done | with_reducible rfl)
  try simp only [Act.put, List.getElem_toArray, List.getElem_cons_zero, List.getElem_cons_succ, List.setIfInBounds_toArray, List.set_cons_zero, List.set_cons_succ]
  refine wpAnyH_ready (rs := [1]) (by kernel_rfl) (by simp) ?_
  refine AllReadyH.cons rfl (fun K hK => ?_) AllReadyH.nil
  go_simp
  refine (own7_any A _ c key _ HA.out (by omega)).mono ?_
  rintro e u1 ⟨A1, c1, rfl, h1, p11⟩
  have X := Lib.hid (Rd.of_own h1)
  clear h1
  replace HA := Lib.hid (HA.out.to p11)
  replace HB := Lib.hid (HB.out.to p11)
  replace HL := Lib.hid (HL.out.go p11)
  replace hB := Lib.hid (hB.out.trans (p11.mono hB.out.size))
  go_wp2_with fail
  refine hK.out _ _ p11 ?_
  intro hS
  clear hK K
  try simp only [Act.put, List.getElem_toArray, List.getElem_cons_zero, List.getElem_cons_succ, List.setIfInBounds_toArray, List.set_cons_zero, List.set_cons_succ]
  refine wpAnyH_strong (S2 := fun w' => Below u1.heap.size u1 w') (fun w' h' => p11.trans (h'.mono p11.size)) _ _ _ _ ?_
  clear hS
  have hS : Below u1.heap.size u1 u1 := Below.refl _ _
  refine wpAnyH_ready (rs := [3]) (by kernel_rfl) (by simp) ?_
  refine AllReadyH.cons rfl (fun K hK => ?_) AllReadyH.nil
  go_simp
  refine (own7_any A' _ c' b _ HB.out (by omega)).mono ?_
  rintro e u2 ⟨A2, c2, rfl, h2, p12⟩
  have k2 := own_cap h2
  have Y := Lib.hid (Rd.of_own h2)
  clear h2
  replace X := Lib.hid (X.out.to p12)
  replace HA := Lib.hid (HA.out.to p12)
  replace HB := Lib.hid (HB.out.to p12)
  replace HL := Lib.hid (HL.out.go p12)
  replace hB := Lib.hid (hB.out.trans (p12.mono hB.out.size))
  go_wp2_with fail
  refine hK.out _ _ p12 ?_
  intro hS
  clear hK K
  try simp only [Act.put, List.getElem_toArray, List.getElem_cons_zero, List.getElem_cons_succ, List.setIfInBounds_toArray, List.set_cons_zero, List.set_cons_succ]
  refine wpAnyH_strong (S2 := fun w' => Below u2.heap.size u2 w') (fun w' h' => p12.trans (h'.mono p12.size)) _ _ _ _ ?_
  clear hS
  have hS : Below u2.heap.size u2 u2 := Below.refl _ _
  refine wpAnyH_ready (rs := [4]) (by kernel_rfl) (by simp) ?_
  refine AllReadyH.cons rfl (fun K hK => ?_) AllReadyH.nil
  go_simp
  refine (pExtract_ A1 _ c1 key A2 _ c2 b _ X.out (by omega) Y.out k2 (by omega) HL.out).mono ?_
  rintro e u6 ⟨A6, c6, rfl, h6, p6⟩
  have H6 := Lib.hid (Rd.of_own h6)
  clear h6
  replace HA := Lib.hid (HA.out.to p6)
  replace HB := Lib.hid (HB.out.to p6)
  replace HL := Lib.hid (HL.out.go p6)
  replace hB := Lib.hid (hB.out.trans (p6.mono hB.out.size))
  go_wp2_with fail
  refine hK.out _ _ p6 ?_
  intro hS
  clear hK K
  try simp only [Act.put, List.getElem_toArray, List.getElem_cons_zero, List.getElem_cons_succ, List.setIfInBounds_toArray, List.set_cons_zero, List.set_cons_succ]
  refine wpAnyH_strong (S2 := fun w' => Below u6.heap.size u6 w') (fun w' h' => p6.trans (h'.mono p6.size)) _ _ _ _ ?_
  clear hS
  have hS : Below u6.heap.size u6 u6 := Below.refl _ _
  refine wpAnyH_take (i := 5) (v := ?v5) rfl (by kernel_rfl) (by kernel_rfl) (by kernel_rfl) (fun _ _ _ h => h) (Or.inl ⟨by rfl, ?hy5⟩) hS ?rest5
  case hy5 => (intro w hSw; have hcv := conv8 w A6 _ c6 _ (H6.out.to hSw); go_simp; first | done | with_reducible rfl)
  try simp only [Act.put, List.getElem_toArray, List.getElem_cons_zero, List.getElem_cons_succ, List.setIfInBounds_toArray, List.set_cons_zero, List.set_cons_succ]
  refine wpAnyH_ready (rs := [8]) (by kernel_rfl) (by simp) ?_
  refine AllReadyH.cons rfl (fun K hK => ?_) AllReadyH.nil
  go_simp
  refine (rExtract_ A _ c key A' _ c' b _ HA.out HB.out (by omega) (by omega)).mono ?_
  rintro e u7 ⟨A7, c7, rfl, h7, p7⟩
  have H7 := Lib.hid (Rd.of_own h7)
  clear h7
  replace H6 := Lib.hid (H6.out.to p7)
  replace HL := Lib.hid (HL.out.go p7)
  replace hB := Lib.hid (hB.out.trans (p7.mono hB.out.size))
  go_wp2_with fail
  refine hK.out _ _ p7 ?_
  intro hS
  clear hK K
  try simp only [Act.put, List.getElem_toArray, List.getElem_cons_zero, List.getElem_cons_succ, List.setIfInBounds_toArray, List.set_cons_zero, List.set_cons_succ]
  refine wpAnyH_strong (S2 := fun w' => Below u7.heap.size u7 w') (fun w' h' => p7.trans (h'.mono p7.size)) _ _ _ _ ?_
  clear hS
  have hS : Below u7.heap.size u7 u7 := Below.refl _ _
  refine wpAnyH_take (i := 9) (v := ?v9) rfl (by kernel_rfl) (by kernel_rfl) (by kernel_rfl) (fun _ _ _ h => h) (Or.inl ⟨by rfl, ?hy9⟩) hS ?rest9
  case hy9 => (intro w hSw; have hcv := conv8 w A7 _ c7 _ (H7.out.to hSw); go_simp; first | done | with_reducible rfl)
  try simp only [Act.put, List.getElem_toArray, List.getElem_cons_zero, List.getElem_cons_succ, List.setIfInBounds_toArray, List.set_cons_zero, List.set_cons_succ]
  refine wpAnyH_take (i := 10) (v := ?v10) rfl (by kernel_rfl) (by kernel_rfl) (by kernel_rfl) (fun _ _ _ h => h) (Or.inl ⟨by rfl, ?hy10⟩) hS ?rest10
  case hy10 => (intro w hSw; go_simp; first | done | with_reducible rfl)
  try simp only [Act.put, List.getElem_toArray, List.getElem_cons_zero, List.getElem_cons_succ, List.setIfInBounds_toArray, List.set_cons_zero, List.set_cons_succ]
  refine wpAnyH_take (i := 11) (v := ?v11) rfl (by kernel_rfl) (by kernel_rfl) (by kernel_rfl) (fun _ _ _ h => h) (Or.inl ⟨by rfl, ?hy11⟩) hS ?rest11
  case hy11 => (intro w hSw; go_simp; first | done | with_reducible rfl)
  try simp only [Act.put, List.getElem_toArray, List.getElem_cons_zero, List.getElem_cons_succ, List.setIfInBounds_toArray, List.set_cons_zero, List.set_cons_succ]
  refine wpAnyH_ready (rs := [12]) (by kernel_rfl) (by simp) ?_
  refine AllReadyH.cons rfl (fun K hK => ?_) AllReadyH.nil
  go_simp
  refine (awake7_any _ HL.out).mono ?_
  rintro e u9 ⟨rfl, p9⟩
  replace hB := Lib.hid (hB.out.trans (p9.mono hB.out.size))
  go_wp2_with fail
  refine hK.out _ _ p9 ?_
  intro hS
  clear hK K
  try simp only [Act.put, List.getElem_toArray, List.getElem_cons_zero, List.getElem_cons_succ, List.setIfInBounds_toArray, List.set_cons_zero, List.set_cons_succ]
  refine wpAnyH_take (i := 13) (v := ?v13) rfl (by kernel_rfl) (by kernel_rfl) (by kernel_rfl) (fun _ _ _ h => h) (Or.inl ⟨by rfl, ?hy13⟩) hS ?rest13
  case hy13 => (intro w hSw; go_simp; first | done | with_reducible rfl)
  try simp only [Act.put, List.getElem_toArray, List.getElem_cons_zero, List.getElem_cons_succ, List.setIfInBounds_toArray, List.set_cons_zero, List.set_cons_succ]
  refine wpAnyH_take (i := 14) (v := ?v14) rfl (by kernel_rfl) (by kernel_rfl) (by kernel_rfl) (fun _ _ _ h => h) (Or.inl ⟨by rfl, ?hy14⟩) hS ?rest14
  case hy14 => (intro w hSw; go_simp; first | done | with_reducible rfl)
  try simp only [Act.put, List.getElem_toArray, List.getElem_cons_zero, List.getElem_cons_succ, List.setIfInBounds_toArray, List.set_cons_zero, List.set_cons_succ]
  refine wpAnyH_done (by kernel_rfl) (NoPanic.normal ?_) _
  go_wp2_with fail
  go_ret
  exact ⟨rfl, hB.out⟩

set_option maxRecDepth 20000 in
set_option maxHeartbeats 8000000 in
theorem hkdfLong_walk (A : Option Addr) (n c : Nat) (key : List UInt8) (A' : Option Addr) (n' c' : Nat) (b : List UInt8) (w : World) (hr : Rd w w.heap.size 1 A n (key.map B8)) (hc : n ≤ c) (hn : n ≤ 140737488351232) (hr' : Rd w w.heap.size 1 A' n' (b.map B8)) (hc' : n' ≤ c') (hn' : n' ≤ 140737488351232) (hL : LayS w) :
    Calls Tryd.prog 10 #[.slice A n c, .slice A' n' c'] w fun r w' => r = .returned (.bool true) ∧ Below w.heap.size w w' := by
  obtain rfl : key.length = n := by simpa using hr.len
  obtain rfl : b.length = n' := by simpa using hr'.len
  by_cases h4 : 4000 < key.length
  · have h4a : (4000 : Int) < key.length := by omega
    go_enter Tryd.func10, Tryd.ntmps10
    go_wp2_with fail
    refine (awake7_any w hL).mono ?_
    rintro e w1 ⟨rfl, hb⟩
    go_wp2_with fail
    go_ret
    exact ⟨rfl, hb⟩
  have h4a : ¬ (4000 : Int) < key.length := by omega
  by_cases h5 : 4000 < b.length
  · have h4b : (4000 : Int) < b.length := by omega
    go_enter Tryd.func10, Tryd.ntmps10
    go_wp2_with fail
    refine (awake7_any w hL).mono ?_
    rintro e w1 ⟨rfl, hb⟩
    go_wp2_with fail
    go_ret
    exact ⟨rfl, hb⟩
  have h4b : ¬ (4000 : Int) < b.length := by omega
  have h44 := hL.size
  have HL0 := Lib.hid hL
  have HR := Lib.hid hr
  have HR' := Lib.hid hr'
  clear hL hr hr'
  go_enter Tryd.func10, Tryd.ntmps10
  go_wp2_with fail
  refine (own7_any A _ c key w HR.out (by omega)).mono ?_
  rintro e w1 ⟨A1, c1, rfl, h1, hb1⟩
  have k1 := own_cap h1
  have Ho1 := Lib.hid (Rd.of_own h1)
  have hs1 := hb1.size
  clear h1
  go_wp2_with fail
  refine (own7_any A' _ c' b w1 (HR'.out.to hb1) (by omega)).mono ?_
  rintro e w2 ⟨A2, c2, rfl, h2, hb2⟩
  have k2 := own_cap h2
  have Ho2 := Lib.hid (Rd.of_own h2)
  have hB2 : Hid (Below w.heap.size w w2) := hb1.trans (hb2.mono hs1)
  have Ho1' := Lib.hid (Ho1.out.to hb2)
  clear h2
  go_wp2_with fail
  refine (pMac_ A1 _ c1 key A2 _ c2 b w2 Ho1'.out (by omega) Ho2.out k2 (by omega) (HL0.out.go' hB2.out)).mono ?_
  rintro e w3 ⟨A3, c3, rfl, h3, hb3⟩
  have H3 := Lib.hid (Rd.of_own h3)
  have hB3 : Hid (Below w.heap.size w w3) := hB2.out.trans (hb3.mono hB2.out.size)
  clear h3
  by_cases h64 : 64 < key.length
  · have h64' : (64 : Int) < key.length := by omega
    go_wp2_with fail
    obtain ⟨W, hW⟩ : ∃ W, Hid (W = w3.drew) := ⟨_, Lib.hid rfl⟩
    have dW : Below w3.heap.size w3 W := by rw [hW.out]; exact below_drew (Below.refl _ _)
    have hBW : Below w.heap.size w W := hB3.out.trans (dW.mono hB3.out.size)
    have HL := Lib.hid (HL0.out.go' hBW)
    have M := Lib.hid (H3.out.to dW)
    have HA := Lib.hid (HR.out.to hBW)
    have HB := Lib.hid (HR'.out.to hBW)
    have hB := Lib.hid hBW
    refine wp_region_noPanic ?_
    refine wp_region_held_drew (S := fun w' => Below W.heap.size W w') (by kernel_rfl) (by rw [hW.out]; exact Below.refl _ _) (fun hS => ?_)
    rw [← hW.out]
    clear hS
    have hS : Below W.heap.size W W := Below.refl _ _
    refine wpAnyH_take (i := 0) (v := ?v0) rfl (by kernel_rfl) (by kernel_rfl) (by kernel_rfl) (fun _ _ _ h => h) (Or.inl ⟨by rfl, ?hy0⟩) hS ?rest0
    case hy0 => (intro w hSw; go_simp; first | done | with_reducible rfl)
    try simp only [Act.put, List.getElem_toArray, List.getElem_cons_zero, List.getElem_cons_succ, List.setIfInBounds_toArray, List.set_cons_zero, List.set_cons_succ]
    refine wpAnyH_take (i := 1) (v := ?v1) rfl (by kernel_rfl) (by kernel_rfl) (by kernel_rfl) (fun _ _ _ h => h) (Or.inl ⟨by rfl, ?hy1⟩) hS ?rest1
    case hy1 => (intro w hSw; have hcv := conv8 w A3 _ c3 _ (M.out.to hSw); go_simp; first | done | with_reducible rfl)
    try simp only [Act.put, List.getElem_toArray, List.getElem_cons_zero, List.getElem_cons_succ, List.setIfInBounds_toArray, List.set_cons_zero, List.set_cons_succ]
    refine wpAnyH_take (i := 2) (v := ?v2) rfl (by kernel_rfl) (by kernel_rfl) (by kernel_rfl) (fun _ _ _ h => h) (Or.inl ⟨by rfl, ?hy2⟩) hS ?rest2
    case hy2 => (intro w hSw; go_simp; first | done | with_reducible rfl)
    try simp only [Act.put, List.getElem_toArray, List.getElem_cons_zero, List.getElem_cons_succ, List.setIfInBounds_toArray, List.set_cons_zero, List.set_cons_succ]
    refine wpAnyH_take (i := 4) (v := ?v4) rfl (by kernel_rfl) (by kernel_rfl) (by kernel_rfl) (fun _ _ _ h => h) (Or.inl ⟨by rfl, ?hy4⟩) hS ?rest4
    case hy4 => (intro w hSw; go_simp; first | done | with_reducible rfl)
    try simp only [Act.put, List.getElem_toArray, List.getElem_cons_zero, List.getElem_cons_succ, List.setIfInBounds_toArray, List.set_cons_zero, List.set_cons_succ]
    refine wpAnyH_ready (rs := [3]) (by kernel_rfl) (by simp) ?_
    refine AllReadyH.cons rfl (fun K hK => ?_) AllReadyH.nil
    go_simp
    refine (refSum_32 A _ c key _ HA.out (by omega)).mono ?_
    rintro e u6 ⟨A6, c6, rfl, h6, p6⟩
    have H6 := Lib.hid (Rd.of_own h6)
    clear h6
    replace M := Lib.hid (M.out.to p6)
    replace HB := Lib.hid (HB.out.to p6)
    replace HL := Lib.hid (HL.out.go p6)
    replace hB := Lib.hid (hB.out.trans (p6.mono hB.out.size))
    go_wp2_with fail
    refine hK.out _ _ p6 ?_
    intro hS
    clear hK K
    try simp only [Act.put, List.getElem_toArray, List.getElem_cons_zero, List.getElem_cons_succ, List.setIfInBounds_toArray, List.set_cons_zero, List.set_cons_succ]
    refine wpAnyH_strong (S2 := fun w' => Below u6.heap.size u6 w') (fun w' h' => p6.trans (h'.mono p6.size)) _ _ _ _ ?_
    clear hS
    have hS : Below u6.heap.size u6 u6 := Below.refl _ _
    refine wpAnyH_ready (rs := [5]) (by kernel_rfl) (by simp) ?_
    refine AllReadyH.cons rfl (fun K hK => ?_) AllReadyH.nil
    go_simp
    refine (own7_any A' _ c' b _ HB.out (by omega)).mono ?_
    rintro e u7 ⟨A7, c7, rfl, h7, p7⟩
    have k7 := own_cap h7
    have Y := Lib.hid (Rd.of_own h7)
    clear h7
    replace M := Lib.hid (M.out.to p7)
    replace H6 := Lib.hid (H6.out.to p7)
    replace HL := Lib.hid (HL.out.go p7)
    replace hB := Lib.hid (hB.out.trans (p7.mono hB.out.size))
    go_wp2_with fail
    refine hK.out _ _ p7 ?_
    intro hS
    clear hK K
    try simp only [Act.put, List.getElem_toArray, List.getElem_cons_zero, List.getElem_cons_succ, List.setIfInBounds_toArray, List.set_cons_zero, List.set_cons_succ]
    refine wpAnyH_strong (S2 := fun w' => Below u7.heap.size u7 w') (fun w' h' => p7.trans (h'.mono p7.size)) _ _ _ _ ?_
    clear hS
    have hS : Below u7.heap.size u7 u7 := Below.refl _ _
    refine wpAnyH_ready (rs := [6]) (by kernel_rfl) (by simp) ?_
    refine AllReadyH.cons rfl (fun K hK => ?_) AllReadyH.nil
    go_simp
    refine (pMac_ A6 32 c6 (sumOf K32 F32 key) A7 _ c7 b _ H6.out (by decide) Y.out k7 (by omega) HL.out).mono ?_
    rintro e u8 ⟨A8, c8, rfl, h8, p8⟩
    rw [hmac_long h64] at h8
    have H8 := Lib.hid (Rd.of_own h8)
    clear h8
    replace M := Lib.hid (M.out.to p8)
    replace HL := Lib.hid (HL.out.go p8)
    replace hB := Lib.hid (hB.out.trans (p8.mono hB.out.size))
    go_wp2_with fail
    refine hK.out _ _ p8 ?_
    intro hS
    clear hK K
    try simp only [Act.put, List.getElem_toArray, List.getElem_cons_zero, List.getElem_cons_succ, List.setIfInBounds_toArray, List.set_cons_zero, List.set_cons_succ]
    refine wpAnyH_strong (S2 := fun w' => Below u8.heap.size u8 w') (fun w' h' => p8.trans (h'.mono p8.size)) _ _ _ _ ?_
    clear hS
    have hS : Below u8.heap.size u8 u8 := Below.refl _ _
    refine wpAnyH_take (i := 7) (v := ?v7) rfl (by kernel_rfl) (by kernel_rfl) (by kernel_rfl) (fun _ _ _ h => h) (Or.inl ⟨by rfl, ?hy7⟩) hS ?rest7
    case hy7 => (intro w hSw; have hcv := conv8 w A8 _ c8 _ (H8.out.to hSw); go_simp; first | done | with_reducible rfl)
    try simp only [Act.put, List.getElem_toArray, List.getElem_cons_zero, List.getElem_cons_succ, List.setIfInBounds_toArray, List.set_cons_zero, List.set_cons_succ]
    refine wpAnyH_take (i := 8) (v := ?v8) rfl (by kernel_rfl) (by kernel_rfl) (by kernel_rfl) (fun _ _ _ h => h) (Or.inl ⟨by rfl, ?hy8⟩) hS ?rest8
    case hy8 => (intro w hSw; go_simp; first | done | with_reducible rfl)
    try simp only [Act.put, List.getElem_toArray, List.getElem_cons_zero, List.getElem_cons_succ, List.setIfInBounds_toArray, List.set_cons_zero, List.set_cons_succ]
    refine wpAnyH_take (i := 9) (v := ?v9) rfl (by kernel_rfl) (by kernel_rfl) (by kernel_rfl) (fun _ _ _ h => h) (Or.inl ⟨by rfl, ?hy9⟩) hS ?rest9
    case hy9 => (intro w hSw; go_simp; first | done | with_reducible rfl)
    try simp only [Act.put, List.getElem_toArray, List.getElem_cons_zero, List.getElem_cons_succ, List.setIfInBounds_toArray, List.set_cons_zero, List.set_cons_succ]
    refine wpAnyH_ready (rs := [10]) (by kernel_rfl) (by simp) ?_
    refine AllReadyH.cons rfl (fun K hK => ?_) AllReadyH.nil
    go_simp
    refine (awake7_any _ HL.out).mono ?_
    rintro e u9 ⟨rfl, p9⟩
    replace hB := Lib.hid (hB.out.trans (p9.mono hB.out.size))
    go_wp2_with fail
    refine hK.out _ _ p9 ?_
    intro hS
    clear hK K
    try simp only [Act.put, List.getElem_toArray, List.getElem_cons_zero, List.getElem_cons_succ, List.setIfInBounds_toArray, List.set_cons_zero, List.set_cons_succ]
    refine wpAnyH_take (i := 11) (v := ?v11) rfl (by kernel_rfl) (by kernel_rfl) (by kernel_rfl) (fun _ _ _ h => h) (Or.inl ⟨by rfl, ?hy11⟩) hS ?rest11
    case hy11 => (intro w hSw; go_simp; first | done | with_reducible rfl)
    try simp only [Act.put, List.getElem_toArray, List.getElem_cons_zero, List.getElem_cons_succ, List.setIfInBounds_toArray, List.set_cons_zero, List.set_cons_succ]
    refine wpAnyH_take (i := 12) (v := ?v12) rfl (by kernel_rfl) (by kernel_rfl) (by kernel_rfl) (fun _ _ _ h => h) (Or.inl ⟨by rfl, ?hy12⟩) hS ?rest12
    case hy12 => (intro w hSw; go_simp; first | done | with_reducible rfl)
    try simp only [Act.put, List.getElem_toArray, List.getElem_cons_zero, List.getElem_cons_succ, List.setIfInBounds_toArray, List.set_cons_zero, List.set_cons_succ]
    refine wpAnyH_done (by kernel_rfl) (NoPanic.normal ?_) _
    go_wp2_with fail
    go_ret
    exact ⟨rfl, hB.out⟩
  · have h64' : ¬ (64 : Int) < key.length := by omega
    obtain ⟨zk, hzk⟩ : ∃ z : Nat, Hid (z = 64 - key.length) := ⟨_, Lib.hid rfl⟩
    have hzk2 : key.length + zk = 64 := by have := hzk.out; omega
    have fzk : IntKind.i64.wrap (64 - (key.length : Int)) = (zk : Int) := by rw [IntWalk.i64_in _ (by omega)]; omega
    have fzk2 : (64 : Int) - (key.length : Int) = (zk : Int) := by omega
    have fzk3 : IntKind.i64.wrap (zk : Int) = (zk : Int) := IntWalk.i64_in _ (by omega)
    go_wp2_with fail
    obtain ⟨W, hW⟩ : ∃ W, Hid (W = w3.drew) := ⟨_, Lib.hid rfl⟩
    have dW : Below w3.heap.size w3 W := by rw [hW.out]; exact below_drew (Below.refl _ _)
    have hBW : Below w.heap.size w W := hB3.out.trans (dW.mono hB3.out.size)
    have HL := Lib.hid (HL0.out.go' hBW)
    have M := Lib.hid (H3.out.to dW)
    have HA := Lib.hid (HR.out.to hBW)
    have HB := Lib.hid (HR'.out.to hBW)
    have hB := Lib.hid hBW
    refine wp_region_noPanic ?_
    refine wp_region_held_drew (S := fun w' => Below W.heap.size W w') (by kernel_rfl) (by rw [hW.out]; exact Below.refl _ _) (fun hS => ?_)
    rw [← hW.out]
    clear hS
    have hS : Below W.heap.size W W := Below.refl _ _
    refine wpAnyH_take (i := 0) (v := ?vz0) rfl (by kernel_rfl) (by kernel_rfl) (by kernel_rfl) (fun _ _ _ h => h) (Or.inl ⟨by rfl, ?hyz0⟩) hS ?restz0
    case hyz0 => (intro w hSw; go_simp; first | done | with_reducible rfl)
    try simp only [Act.put, List.getElem_toArray, List.getElem_cons_zero, List.getElem_cons_succ, List.setIfInBounds_toArray, List.set_cons_zero, List.set_cons_succ]
    refine wpAnyH_take (i := 1) (v := ?vz1) rfl (by kernel_rfl) (by kernel_rfl) (by kernel_rfl) (fun _ _ _ h => h) (Or.inl ⟨by rfl, ?hyz1⟩) hS ?restz1
    case hyz1 => (intro w hSw; have hcv := conv8 w A3 _ c3 _ (M.out.to hSw); go_simp; first | done | with_reducible rfl)
    try simp only [Act.put, List.getElem_toArray, List.getElem_cons_zero, List.getElem_cons_succ, List.setIfInBounds_toArray, List.set_cons_zero, List.set_cons_succ]
    refine wpAnyH_take (i := 2) (v := ?vz2) rfl (by kernel_rfl) (by kernel_rfl) (by kernel_rfl) (fun _ _ _ h => h) (Or.inl ⟨by rfl, ?hyz2⟩) hS ?restz2
    case hyz2 => (intro w hSw; go_simp; first | done | with_reducible rfl)
    try simp only [Act.put, List.getElem_toArray, List.getElem_cons_zero, List.getElem_cons_succ, List.setIfInBounds_toArray, List.set_cons_zero, List.set_cons_succ]
    refine wpAnyH_take (i := 4) (v := ?vz4) rfl (by kernel_rfl) (by kernel_rfl) (by kernel_rfl) (fun _ _ _ h => h) (Or.inl ⟨by rfl, ?hyz4⟩) hS ?restz4
    case hyz4 => (intro w hSw; go_simp; first | done | with_reducible rfl)
    try simp only [Act.put, List.getElem_toArray, List.getElem_cons_zero, List.getElem_cons_succ, List.setIfInBounds_toArray, List.set_cons_zero, List.set_cons_succ]
    refine wpAnyH_take (i := 5) (v := ?vz5) rfl (by kernel_rfl) (by kernel_rfl) (by kernel_rfl) (fun _ _ _ h => h) (Or.inl ⟨by rfl, ?hyz5⟩) hS ?restz5
    case hyz5 => (intro w hSw; go_simp; first | done | with_reducible rfl)
    try simp only [Act.put, List.getElem_toArray, List.getElem_cons_zero, List.getElem_cons_succ, List.setIfInBounds_toArray, List.set_cons_zero, List.set_cons_succ]
    refine wpAnyH_take (i := 6) (v := ?vz6) rfl (by kernel_rfl) (by kernel_rfl) (by kernel_rfl) (fun _ _ _ h => h) (Or.inl ⟨by rfl, ?hyz6⟩) hS ?restz6
    case hyz6 => (intro w hSw; go_simp; first | done | with_reducible rfl)
    try simp only [Act.put, List.getElem_toArray, List.getElem_cons_zero, List.getElem_cons_succ, List.setIfInBounds_toArray, List.set_cons_zero, List.set_cons_succ]
    refine wpAnyH_take (i := 8) (v := ?vz8) rfl (by kernel_rfl) (by kernel_rfl) (by kernel_rfl) (fun _ _ _ h => h) (Or.inl ⟨by rfl, ?hyz8⟩) hS ?restz8
    case hyz8 => (intro w hSw; go_simp; first | done | with_reducible rfl)
    try simp only [Act.put, List.getElem_toArray, List.getElem_cons_zero, List.getElem_cons_succ, List.setIfInBounds_toArray, List.set_cons_zero, List.set_cons_succ]
    refine wpAnyH_ready (rs := [3]) (by kernel_rfl) (by simp) ?_
    refine AllReadyH.cons rfl (fun K hK => ?_) AllReadyH.nil
    go_simp
    refine (own7_any A _ c key _ HA.out (by omega)).mono ?_
    rintro e u6 ⟨A6, c6, rfl, h6, p6⟩
    have H6 := Lib.hid h6
    clear h6
    go_wp2_with fail
    refine hK.out _ _ p6 ?_
    intro hS
    clear hK K
    try simp only [Act.put, List.getElem_toArray, List.getElem_cons_zero, List.getElem_cons_succ, List.setIfInBounds_toArray, List.set_cons_zero, List.set_cons_succ]
    refine wpAnyH_ready (rs := [7]) (by kernel_rfl) (by simp) ?_
    refine AllReadyH.cons rfl (fun K hK => ?_) AllReadyH.nil
    refine step_app_zeros (.tmp 38) (.tmp 41) 22 3 rfl rfl W.heap.size 5 Tryd.underlying22 Tryd.underlying3 9 Tryd.underlying9 infoB A6 key.length c6 (key.map B8) rfl H6.out zk rfl (by simp only [maxLen]; omega) (by omega) p6.size ?_
    intro A7 c7 u7 h7 g7
    have p67 : Below W.heap.size W u7 := p6.grown g7 p6.size (own_block_ge H6.out)
    have X : Hid (Rd u7 u7.heap.size 1 A7 (key.length + zk) ((key ++ List.replicate zk 0).map B8)) := by
      have h8 := Rd.of_own h7
      rw [List.map_append, List.map_replicate]
      exact h8
    clear h7 g7
    replace M := Lib.hid (M.out.to p67)
    replace HB := Lib.hid (HB.out.to p67)
    replace HL := Lib.hid (HL.out.go' p67)
    replace hB := Lib.hid (hB.out.trans (p67.mono hB.out.size))
    obtain ⟨m7, hm7⟩ : ∃ m, Hid (m = key.length + zk) := ⟨_, Lib.hid rfl⟩
    rw [← hm7.out] at X ⊢
    refine hK.out _ _ p67 ?_
    intro hS
    clear hK K
    try simp only [Act.put, List.getElem_toArray, List.getElem_cons_zero, List.getElem_cons_succ, List.setIfInBounds_toArray, List.set_cons_zero, List.set_cons_succ]
    refine wpAnyH_strong (S2 := fun w' => Below u7.heap.size u7 w') (fun w' h' => p67.trans (h'.mono p67.size)) _ _ _ _ ?_
    clear hS
    have hS : Below u7.heap.size u7 u7 := Below.refl _ _
    refine wpAnyH_ready (rs := [9]) (by kernel_rfl) (by simp) ?_
    refine AllReadyH.cons rfl (fun K hK => ?_) AllReadyH.nil
    go_simp
    refine (own7_any A' _ c' b _ HB.out (by omega)).mono ?_
    rintro e u8 ⟨A8, c8, rfl, h8, p8⟩
    have k8 := own_cap h8
    have Y := Lib.hid (Rd.of_own h8)
    clear h8
    replace M := Lib.hid (M.out.to p8)
    replace X := Lib.hid (X.out.to p8)
    replace HL := Lib.hid (HL.out.go p8)
    replace hB := Lib.hid (hB.out.trans (p8.mono hB.out.size))
    go_wp2_with fail
    refine hK.out _ _ p8 ?_
    intro hS
    clear hK K
    try simp only [Act.put, List.getElem_toArray, List.getElem_cons_zero, List.getElem_cons_succ, List.setIfInBounds_toArray, List.set_cons_zero, List.set_cons_succ]
    refine wpAnyH_strong (S2 := fun w' => Below u8.heap.size u8 w') (fun w' h' => p8.trans (h'.mono p8.size)) _ _ _ _ ?_
    clear hS
    have hS : Below u8.heap.size u8 u8 := Below.refl _ _
    refine wpAnyH_ready (rs := [10]) (by kernel_rfl) (by simp) ?_
    refine AllReadyH.cons rfl (fun K hK => ?_) AllReadyH.nil
    go_simp
    refine (pMac_ A7 m7 c7 (key ++ List.replicate zk 0) A8 _ c8 b _ X.out (by have := hm7.out; omega) Y.out k8 (by omega) HL.out).mono ?_
    rintro e u10 ⟨A10, c10, rfl, h10, p10⟩
    rw [hmac_zeros (by omega)] at h10
    have H10 := Lib.hid (Rd.of_own h10)
    clear h10
    replace M := Lib.hid (M.out.to p10)
    replace HL := Lib.hid (HL.out.go p10)
    replace hB := Lib.hid (hB.out.trans (p10.mono hB.out.size))
    go_wp2_with fail
    refine hK.out _ _ p10 ?_
    intro hS
    clear hK K
    try simp only [Act.put, List.getElem_toArray, List.getElem_cons_zero, List.getElem_cons_succ, List.setIfInBounds_toArray, List.set_cons_zero, List.set_cons_succ]
    refine wpAnyH_strong (S2 := fun w' => Below u10.heap.size u10 w') (fun w' h' => p10.trans (h'.mono p10.size)) _ _ _ _ ?_
    clear hS
    have hS : Below u10.heap.size u10 u10 := Below.refl _ _
    refine wpAnyH_take (i := 11) (v := ?vz11) rfl (by kernel_rfl) (by kernel_rfl) (by kernel_rfl) (fun _ _ _ h => h) (Or.inl ⟨by rfl, ?hyz11⟩) hS ?restz11
    case hyz11 => (intro w hSw; have hcv := conv8 w A10 _ c10 _ (H10.out.to hSw); go_simp; first | done | with_reducible rfl)
    try simp only [Act.put, List.getElem_toArray, List.getElem_cons_zero, List.getElem_cons_succ, List.setIfInBounds_toArray, List.set_cons_zero, List.set_cons_succ]
    refine wpAnyH_take (i := 12) (v := ?vz12) rfl (by kernel_rfl) (by kernel_rfl) (by kernel_rfl) (fun _ _ _ h => h) (Or.inl ⟨by rfl, ?hyz12⟩) hS ?restz12
    case hyz12 => (intro w hSw; go_simp; first | done | with_reducible rfl)
    try simp only [Act.put, List.getElem_toArray, List.getElem_cons_zero, List.getElem_cons_succ, List.setIfInBounds_toArray, List.set_cons_zero, List.set_cons_succ]
    refine wpAnyH_take (i := 13) (v := ?vz13) rfl (by kernel_rfl) (by kernel_rfl) (by kernel_rfl) (fun _ _ _ h => h) (Or.inl ⟨by rfl, ?hyz13⟩) hS ?restz13
    case hyz13 => (intro w hSw; go_simp; first | done | with_reducible rfl)
    try simp only [Act.put, List.getElem_toArray, List.getElem_cons_zero, List.getElem_cons_succ, List.setIfInBounds_toArray, List.set_cons_zero, List.set_cons_succ]
    refine wpAnyH_ready (rs := [14]) (by kernel_rfl) (by simp) ?_
    refine AllReadyH.cons rfl (fun K hK => ?_) AllReadyH.nil
    go_simp
    refine (awake7_any _ HL.out).mono ?_
    rintro e u9 ⟨rfl, p9⟩
    replace hB := Lib.hid (hB.out.trans (p9.mono hB.out.size))
    go_wp2_with fail
    refine hK.out _ _ p9 ?_
    intro hS
    clear hK K
    try simp only [Act.put, List.getElem_toArray, List.getElem_cons_zero, List.getElem_cons_succ, List.setIfInBounds_toArray, List.set_cons_zero, List.set_cons_succ]
    refine wpAnyH_take (i := 15) (v := ?vz15) rfl (by kernel_rfl) (by kernel_rfl) (by kernel_rfl) (fun _ _ _ h => h) (Or.inl ⟨by rfl, ?hyz15⟩) hS ?restz15
    case hyz15 => (intro w hSw; go_simp; first | done | with_reducible rfl)
    try simp only [Act.put, List.getElem_toArray, List.getElem_cons_zero, List.getElem_cons_succ, List.setIfInBounds_toArray, List.set_cons_zero, List.set_cons_succ]
    refine wpAnyH_take (i := 16) (v := ?vz16) rfl (by kernel_rfl) (by kernel_rfl) (by kernel_rfl) (fun _ _ _ h => h) (Or.inl ⟨by rfl, ?hyz16⟩) hS ?restz16
    case hyz16 => (intro w hSw; go_simp; first | done | with_reducible rfl)
    try simp only [Act.put, List.getElem_toArray, List.getElem_cons_zero, List.getElem_cons_succ, List.setIfInBounds_toArray, List.set_cons_zero, List.set_cons_succ]
    refine wpAnyH_done (by kernel_rfl) (NoPanic.normal ?_) _
    go_wp2_with fail
    go_ret
    exact ⟨rfl, hB.out⟩
end Go.Proofs.YtclecmpmohoamaaDoor
