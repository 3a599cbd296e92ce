/- The document's Low, Eight; may a link be, its bytes. (Printed by gen_vaa.py.) -/
import Derived.Test.YtabcbpcfleociaaMChb
import Derived.Test.YtabcbpcfleociaaMWk
import Derived.Test.YtabcbpcfleociaaMSui
import Derived.Test.YtabcbpcfleociaaMMap
import Derived.Test.YtabcbpcfleociaaMChk
namespace Go.Proofs.Ytabcbpcfleociaa
open Go.RowKit
attribute [local go_sem ↓] Go.wp_at_zero Go.wp_at_succ
set_option linter.unusedSimpArgs false
set_option linter.unusedVariables false
set_option maxHeartbeats 1000000 in
theorem low_ (n : Nat) (w : World) (hn : n < 18446744073709551616) :
    Calls Try.prog 84 #[.int .u64 n, .int .i64 8] w fun e w' => ∃ A c, e = .returned (.slice A 8 c) ∧ OwnS w' w.heap.size A 8 c ((eightL n).map B8) ∧ Below w.heap.size w w' := by
  have hO0 : Hid (OwnS w w.heap.size none 0 0 (((eightL n).take 0).map B8)) := OwnS.nil _ _ _
  go_enter Try.func84, Try.ntmps84
  go_wp2_with fail
  go_loopw [0, 5, 6] (fun x0 x5 x6 wr => ∃ (i q : Nat) (A : Option Addr) (c : Nat), x0 = .int .u64 q ∧ x5 = .slice A i c ∧ x6 = .int .i64 i ∧ i ≤ 8 ∧ Hid (q = n / 2 ^ (8 * i)) ∧ q < 18446744073709551616 ∧ Hid (OwnS wr w.heap.size A i c (((eightL n).take i).map B8)) ∧ Hid (Below w.heap.size w wr)) (fun _ _ x6 _ => 8 - (intOf x6).toNat)
  case atStart => exact ⟨0, n, none, 0, rfl, rfl, rfl, by omega, (by simp : n = n / 2 ^ (8 * 0)), hn, hO0, Below.refl _ _⟩
  case round =>
    obtain ⟨i, q, A, c, rfl, rfl, rfl, hi, hq, hql, hO, hb⟩ := hrel
    by_cases hi8 : i < 8
    · have hi8' : (i : Int) < 8 := by omega
      obtain ⟨z, hz⟩ : ∃ z : UInt8, Hid (UInt8.ofNat (n / 2 ^ (8 * i)) = z) := ⟨_, Lib.hid rfl⟩
      have hzq : (z.toNat : Int) = (q : Int) % 256 := by rw [← hz.out, UInt8.toNat_ofNat', ← hq.out]; omega
      have fz : IntKind.u8.wrap ((q : Int) % 256) = (z.toNat : Int) := by rw [hzq, IntKind.wrap_u8]; omega
      obtain ⟨q2, hq2⟩ : ∃ k : Nat, Hid (k = q / 256) := ⟨_, Lib.hid rfl⟩
      have f1 : (q : Int) / 256 = (q2 : Int) := by rw [hq2.out]; omega
      have e8 : IntKind.i64.wrap ((i : Int) + 1) = ((i + 1 : Nat) : Int) := by rw [IntWalk.i64_in _ (by omega)]; omega
      have hsn : Hid ((eightL n).take i ++ [z] = (eightL n).take (i + 1)) := by
        unfold Hid
        rw [List.take_add_one]
        congr 1
        rw [eightL, List.getElem?_map, List.getElem?_range hi8]
        simp only [Option.map_some, Option.toList_some]
        rw [hz.out]
      have hO1 := Lib.hid (hO.out.to ((Below.refl wr.heap.size wr).alloc (Nat.le_refl _) (.cells #[.int .u8 (z.toNat : Int)] 5)))
      have hb1 := Lib.hid (hb.out.trans ((Below.refl w.heap.size wr).alloc hb.out.size (.cells #[.int .u8 (z.toNat : Int)] 5)))
      have hl1 := Lib.hid (one_lit wr z)
      have hoz := Lib.hid (oneB [z])
      have hq3 : Hid (q2 = n / 2 ^ (8 * (i + 1))) := by
        unfold Hid
        rw [hq2.out, hq.out, Nat.div_div_eq_div_mul, show 8 * (i + 1) = 8 * i + 8 by omega, Nat.pow_add]
      have hq4 : q2 < 18446744073709551616 := by rw [hq2.out]; omega
      clear hzq
      go_wp2_with (at_builtin
                   refine wpList_apT rfl (.tmp 12) (.tmp 16) 38 rfl w.heap.size 5 1 (.int .u8 0) Try.underlying38 infoB rfl A i c _ rfl hO1.out _ (some ⟨wr.heap.size, 0, none⟩) 1 1 (([z] : List UInt8).map B8) rfl hl1.out hoz.out (by simp only [maxLen]; omega) (by omega) hb1.out.size ?_
                   intro A3 c3 w3 o3 b3 _ _ _
                   rw [← List.map_append, hsn.out] at o3
                   have O3 := Lib.hid o3
                   have B3 := Lib.hid (hb1.out.trans b3)
                   clear o3 b3)
      go_roundw
      case rel => exact ⟨i + 1, q2, A3, c3, by go_num, rfl, by go_num, hi8, hq3, hq4, O3, B3⟩
      case measure => simp only [intOf]; omega
    · have hiS : Hid (i = 8) := (by omega : i = 8)
      have hi8' : ¬ (i : Int) < 8 := by omega
      rw [List.take_of_length_le (by rw [eightL_len]; omega)] at hO
      go_wp2_with fail
      go_ret
      have ho := hO.out
      rw [hiS.out] at ho
      exact ⟨A, c, by rw [hiS.out]; rfl, ho, hb.out⟩
theorem refEight_ (n : Nat) (w : World) (hn : n < 4611686018427387904) :
    Calls Try.prog 82 #[.int .i64 n] w fun e w' => ∃ A c, e = .returned (.slice A 8 c) ∧ OwnS w' w.heap.size A 8 c ((eightL n).map B8) ∧ Below w.heap.size w w' := by
  have fn : IntKind.u64.wrap (n : Int) = (n : Int) := by rw [wrapU, Nat.mod_eq_of_lt (by omega)]
  go_enter Try.func82, Try.ntmps82
  go_wp2_with fail
  refine (low_ n w (by omega)).mono ?_
  rintro e w1 ⟨A, c, rfl, o, b⟩
  go_wp2_with fail
  go_ret
  exact ⟨A, c, rfl, o, b⟩
set_option maxHeartbeats 2000000 in
theorem refRight_ (au sq ep : Int) (A : Option Addr) (n c : Nat) (B : Option Addr) (m d : Nat) (w : World) :
    Calls Try.prog 27 #[.agg #[.int .i64 au, .int .i64 sq, .int .i64 ep, .slice A n c, .slice B m d]] w fun e w' => e = .returned (.bool (decide (rightN au sq ep n m))) ∧ Below w.heap.size w w' := by
  by_cases hm : m = 32
  · subst hm
    go_enter Try.func27, Try.ntmps27
    go_wp2
    all_goals go_ret
    all_goals
      refine ⟨congrArg (fun b => Ending.returned (Value.bool b)) ?_, (Below.refl _ _).alloc (Nat.le_refl _) _⟩
      refine Bool.eq_iff_iff.2 ?_
      rw [decide_eq_true_iff]
      unfold rightN
      simp [*] <;> omega
  · have hm' : ((m : Int) != 32) = true := by rw [bne_iff_ne]; omega
    go_enter Try.func27, Try.ntmps27
    go_wp2
    all_goals go_ret
    all_goals
      refine ⟨congrArg (fun b => Ending.returned (Value.bool b)) ?_, (Below.refl _ _).alloc (Nat.le_refl _) _⟩
      refine Bool.eq_iff_iff.2 ?_
      rw [decide_eq_true_iff]
      unfold rightN
      simp [*] <;> omega
set_option maxRecDepth 20000 in
set_option maxHeartbeats 1000000 in
theorem refBytes_ (l : Ln) (A : Option Addr) (n c : Nat) (B : Option Addr) (m d : Nat) (w : World)
    (hp : Rd w w.heap.size 1 A n (l.pv.map B8)) (hq : Rd w w.heap.size 1 B m (l.bd.map B8)) (hok : rightL l) :
    Calls Try.prog 30 #[lnV l A n c B m d] w fun e w' => ∃ A' m' c', e = .returned (.slice A' m' c') ∧ m' ≤ 100 ∧ (bytesL l).length = m' ∧ w'.ownsRow w.heap.size 5 1 (.slice A' m' c') m' ((bytesL l).map B8) ∧ Below w.heap.size w w' := by
  have hbl := Lib.hid (bytesL_len hok)
  have hlp : Hid (l.pv.length ≤ 32) := by rcases hok.2.2 with h | h <;> unfold Hid <;> omega
  have hlb : Hid (l.bd.length = 32) := hok.2.1
  have hl1 := Lib.hid (numL_len l.au)
  have hl2 := Lib.hid (numL_len l.sq)
  have hl3 := Lib.hid (numL_len l.ep)
  have hl4 := Lib.hid (numL_len l.pv.length)
  have hl5 := Lib.hid (numL_len l.bd.length)
  obtain ⟨Y, hY⟩ : ∃ Y, Hid (Y = w.alloc (.cells #[.int .i64 l.au, .int .i64 l.sq, .int .i64 l.ep, .slice A n c, .slice B m d] 40)) := ⟨_, Lib.hid rfl⟩
  have HB0 : Hid (Below w.heap.size w Y) := by rw [hY.out]; exact (Below.refl _ _).alloc (Nat.le_refl _) _
  obtain ⟨G, hG⟩ : ∃ g, Hid (g = w.heap.size) := ⟨_, Lib.hid rfl⟩
  have HRG : Hid (Y.rangeAt G 0 [.int .i64 l.au, .int .i64 l.sq, .int .i64 l.ep, .slice A n c, .slice B m d]) := by rw [hY.out, hG.out]; exact rangeNew w _ _
  have hGY : Hid (G < Y.heap.size) := by unfold Hid; rw [hG.out, hY.out, szAlloc]; exact Nat.lt_succ_self _
  have HP := Lib.hid hp
  have HQ := Lib.hid hq
  clear hp hq hok
  go_enter Try.func30, Try.ntmps30
  unfold lnV
  go_wp2_with fail
  rw [← hY.out, ← hG.out]
  obtain ⟨X, hX⟩ : ∃ W, Hid (W = Y.drew) := ⟨_, Lib.hid rfl⟩
  have dX : Below Y.heap.size Y X := by rw [hX.out]; exact below_drew (Below.refl _ _)
  have RX := Lib.hid (range_keep HRG.out dX hGY.out)
  have hGX : Hid (G < X.heap.size) := Nat.lt_of_lt_of_le hGY.out dX.size
  have BX := Lib.hid (HB0.out.trans (dX.mono HB0.out.size))
  refine wp_region_noPanic ?_
  refine wp_region_held_drew (S := fun w' => w'.rangeAt G 0 [.int .i64 l.au, .int .i64 l.sq, .int .i64 l.ep, .slice A n c, .slice B m d]) (by kernel_rfl) (by rw [← hX.out]; exact RX.out) (fun hS => ?_)
  rw [← hX.out]
  clear hS
  have hS : X.rangeAt G 0 [.int .i64 l.au, .int .i64 l.sq, .int .i64 l.ep, .slice A n c, .slice B m d] := RX.out
  refine wpAnyH_take (i := 0) (v := ?va0) rfl (by kernel_rfl) (by kernel_rfl) (by kernel_rfl) (fun _ _ _ h => h) (Or.inl ⟨by rfl, ?hya0⟩) hS ?resta0
  case hya0 => (intro w' hSw; go_simp; first | done | with_reducible rfl)
  try simp only [Act.put, List.getElem_toArray, List.getElem_cons_zero, List.getElem_cons_succ, List.setIfInBounds_toArray, List.set_cons_zero, List.set_cons_succ]
  refine wpAnyH_take (i := 1) (v := .int .i64 l.au) rfl (by kernel_rfl) (by kernel_rfl) (by kernel_rfl) (fun _ _ _ h => h) (Or.inl ⟨by rfl, ?hya1⟩) hS ?resta1
  case hya1 => (intro w' hSw; have c0 := hSw 0 _ rfl; go_simp; first | done | with_reducible rfl)
  try simp only [Act.put, List.getElem_toArray, List.getElem_cons_zero, List.getElem_cons_succ, List.setIfInBounds_toArray, List.set_cons_zero, List.set_cons_succ]
  refine wpAnyH_take (i := 3) (v := ?va3) rfl (by kernel_rfl) (by kernel_rfl) (by kernel_rfl) (fun _ _ _ h => h) (Or.inl ⟨by rfl, ?hya3⟩) hS ?resta3
  case hya3 => (intro w' hSw; go_simp; first | done | with_reducible rfl)
  try simp only [Act.put, List.getElem_toArray, List.getElem_cons_zero, List.getElem_cons_succ, List.setIfInBounds_toArray, List.set_cons_zero, List.set_cons_succ]
  refine wpAnyH_take (i := 4) (v := .int .i64 l.sq) rfl (by kernel_rfl) (by kernel_rfl) (by kernel_rfl) (fun _ _ _ h => h) (Or.inl ⟨by rfl, ?hya4⟩) hS ?resta4
  case hya4 => (intro w' hSw; have c0 := hSw 1 _ rfl; go_simp; first | done | with_reducible rfl)
  try simp only [Act.put, List.getElem_toArray, List.getElem_cons_zero, List.getElem_cons_succ, List.setIfInBounds_toArray, List.set_cons_zero, List.set_cons_succ]
  refine wpAnyH_take (i := 6) (v := ?va6) rfl (by kernel_rfl) (by kernel_rfl) (by kernel_rfl) (fun _ _ _ h => h) (Or.inl ⟨by rfl, ?hya6⟩) hS ?resta6
  case hya6 => (intro w' hSw; go_simp; first | done | with_reducible rfl)
  try simp only [Act.put, List.getElem_toArray, List.getElem_cons_zero, List.getElem_cons_succ, List.setIfInBounds_toArray, List.set_cons_zero, List.set_cons_succ]
  refine wpAnyH_take (i := 7) (v := .int .i64 l.ep) rfl (by kernel_rfl) (by kernel_rfl) (by kernel_rfl) (fun _ _ _ h => h) (Or.inl ⟨by rfl, ?hya7⟩) hS ?resta7
  case hya7 => (intro w' hSw; have c0 := hSw 2 _ rfl; go_simp; first | done | with_reducible rfl)
  try simp only [Act.put, List.getElem_toArray, List.getElem_cons_zero, List.getElem_cons_succ, List.setIfInBounds_toArray, List.set_cons_zero, List.set_cons_succ]
  refine wpAnyH_ready (rs := [2]) (by kernel_rfl) (by simp) ?_
  refine AllReadyH.cons rfl (fun K hK => ?_) AllReadyH.nil
  go_simp
  refine (refNumber_any none 0 0 [] l.au X (Rd.nil _ _ _ _) (by simp)).mono ?_
  rintro e u1 hb
  obtain ⟨A1, m1, c1, rfl, e1, o1, b1⟩ := hb.v
  have P1 := Lib.hid b1
  have S1 := range_keep RX.out b1 hGX.out
  have hm1 : Hid (m1 ≤ 10) := by have := e1.out; have := hl1.out; simp at *; unfold Hid; omega
  clear hb
  go_wp2_with fail
  refine hK.out _ _ S1 ?_
  intro hS
  clear hK K hS
  try simp only [Act.put, List.getElem_toArray, List.getElem_cons_zero, List.getElem_cons_succ, List.setIfInBounds_toArray, List.set_cons_zero, List.set_cons_succ]
  have hS : u1.rangeAt G 0 [.int .i64 l.au, .int .i64 l.sq, .int .i64 l.ep, .slice A n c, .slice B m d] := S1
  refine wpAnyH_ready (rs := [5]) (by kernel_rfl) (by simp) ?_
  refine AllReadyH.cons rfl (fun K hK => ?_) AllReadyH.nil
  go_simp
  refine (refNumber_any A1 m1 c1 ([] ++ numL l.au) l.sq u1 (Rd.of_own o1.out) (by have := e1.out; have := hm1.out; omega)).mono ?_
  rintro e u2 hb
  obtain ⟨A2, m2, c2, rfl, e2, o2, b2⟩ := hb.v
  have P2 := Lib.hid (P1.out.trans (b2.mono P1.out.size))
  have S2 := range_keep RX.out P2.out hGX.out
  have hm2 : Hid (m2 ≤ 20) := by have h1 := e1.out; have h2 := hm1.out; have h3 := e2.out; have h4 := hl2.out; rw [List.length_append] at h3; unfold Hid; omega
  clear hb b2
  go_wp2_with fail
  refine hK.out _ _ S2 ?_
  intro hS
  clear hK K hS
  try simp only [Act.put, List.getElem_toArray, List.getElem_cons_zero, List.getElem_cons_succ, List.setIfInBounds_toArray, List.set_cons_zero, List.set_cons_succ]
  have hS : u2.rangeAt G 0 [.int .i64 l.au, .int .i64 l.sq, .int .i64 l.ep, .slice A n c, .slice B m d] := S2
  refine wpAnyH_ready (rs := [8]) (by kernel_rfl) (by simp) ?_
  refine AllReadyH.cons rfl (fun K hK => ?_) AllReadyH.nil
  go_simp
  refine (refNumber_any A2 m2 c2 (([] ++ numL l.au) ++ numL l.sq) l.ep u2 (Rd.of_own o2.out) (by have := e2.out; have := hm2.out; omega)).mono ?_
  rintro e u3 hb
  obtain ⟨A3, m3, c3, rfl, e3, o3, b3⟩ := hb.v
  have P3 := Lib.hid (P2.out.trans (b3.mono P2.out.size))
  have S3 := range_keep RX.out P3.out hGX.out
  have hm3 : Hid (m3 ≤ 30) := by have h1 := e2.out; have h2 := hm2.out; have h3 := e3.out; have h4 := hl3.out; rw [List.length_append] at h3; unfold Hid; omega
  clear hb b3
  go_wp2_with fail
  refine hK.out _ _ S3 ?_
  intro hS
  clear hK K hS
  try simp only [Act.put, List.getElem_toArray, List.getElem_cons_zero, List.getElem_cons_succ, List.setIfInBounds_toArray, List.set_cons_zero, List.set_cons_succ]
  have hS : u3.rangeAt G 0 [.int .i64 l.au, .int .i64 l.sq, .int .i64 l.ep, .slice A n c, .slice B m d] := S3
  refine wpAnyH_take (i := 9) (v := ?va9) rfl (by kernel_rfl) (by kernel_rfl) (by kernel_rfl) (fun _ _ _ h => h) (Or.inl ⟨by rfl, ?hya9⟩) hS ?resta9
  case hya9 => (intro w' hSw; go_simp; first | done | with_reducible rfl)
  try simp only [Act.put, List.getElem_toArray, List.getElem_cons_zero, List.getElem_cons_succ, List.setIfInBounds_toArray, List.set_cons_zero, List.set_cons_succ]
  refine wpAnyH_done (by kernel_rfl) (NoPanic.normal ?_) _
  have B3 := Lib.hid (BX.out.trans (P3.out.mono BX.out.size))
  have R3 := Lib.hid (range_keep RX.out P3.out hGX.out)
  have hG3 : Hid (G < u3.heap.size) := Nat.lt_of_lt_of_le hGX.out P3.out.size
  obtain ⟨k3, hk3⟩ : ∃ k, Hid (k = ((([] : List UInt8) ++ numL l.au) ++ numL l.sq) ++ numL l.ep) := ⟨_, Lib.hid rfl⟩
  rw [← hk3.out] at o3 e3
  clear o1 o2 e1 e2 P1 P2 hm1 hm2 b1 hS RX hGX BX hX dX
  go_wp2_with fail
  obtain ⟨T, hT⟩ : ∃ W, Hid (W = u3.drew) := ⟨_, Lib.hid rfl⟩
  have dT : Below u3.heap.size u3 T := by rw [hT.out]; exact below_drew (Below.refl _ _)
  have RT := Lib.hid (range_keep R3.out dT hG3.out)
  have hGT : Hid (G < T.heap.size) := Nat.lt_of_lt_of_le hG3.out dT.size
  have BT := Lib.hid (B3.out.trans (dT.mono B3.out.size))
  have OT := Lib.hid (own_below o3.out dT)
  have PT := Lib.hid (HP.out.to BT.out)
  have QT := Lib.hid (HQ.out.to BT.out)
  refine wp_region_noPanic ?_
  refine wp_region_held_drew (S := fun w' => w'.rangeAt G 0 [.int .i64 l.au, .int .i64 l.sq, .int .i64 l.ep, .slice A n c, .slice B m d]) (by kernel_rfl) (by rw [← hT.out]; exact RT.out) (fun hS => ?_)
  rw [← hT.out]
  clear hS
  have hS : T.rangeAt G 0 [.int .i64 l.au, .int .i64 l.sq, .int .i64 l.ep, .slice A n c, .slice B m d] := RT.out
  refine wpAnyH_take (i := 0) (v := ?vb0) rfl (by kernel_rfl) (by kernel_rfl) (by kernel_rfl) (fun _ _ _ h => h) (Or.inl ⟨by rfl, ?hyb0⟩) hS ?restb0
  case hyb0 => (intro w' hSw; go_simp; first | done | with_reducible rfl)
  try simp only [Act.put, List.getElem_toArray, List.getElem_cons_zero, List.getElem_cons_succ, List.setIfInBounds_toArray, List.set_cons_zero, List.set_cons_succ]
  refine wpAnyH_take (i := 1) (v := ?vb1) rfl (by kernel_rfl) (by kernel_rfl) (by kernel_rfl) (fun _ _ _ h => h) (Or.inl ⟨by rfl, ?hyb1⟩) hS ?restb1
  case hyb1 => (intro w' hSw; go_simp; first | done | with_reducible rfl)
  try simp only [Act.put, List.getElem_toArray, List.getElem_cons_zero, List.getElem_cons_succ, List.setIfInBounds_toArray, List.set_cons_zero, List.set_cons_succ]
  refine wpAnyH_take (i := 2) (v := .slice A n c) rfl (by kernel_rfl) (by kernel_rfl) (by kernel_rfl) (fun _ _ _ h => h) (Or.inl ⟨by rfl, ?hyb2⟩) hS ?restb2
  case hyb2 => (intro w' hSw; have c0 := hSw 3 _ rfl; go_simp; first | done | with_reducible rfl)
  try simp only [Act.put, List.getElem_toArray, List.getElem_cons_zero, List.getElem_cons_succ, List.setIfInBounds_toArray, List.set_cons_zero, List.set_cons_succ]
  refine wpAnyH_take (i := 4) (v := ?vb4) rfl (by kernel_rfl) (by kernel_rfl) (by kernel_rfl) (fun _ _ _ h => h) (Or.inl ⟨by rfl, ?hyb4⟩) hS ?restb4
  case hyb4 => (intro w' hSw; go_simp; first | done | with_reducible rfl)
  try simp only [Act.put, List.getElem_toArray, List.getElem_cons_zero, List.getElem_cons_succ, List.setIfInBounds_toArray, List.set_cons_zero, List.set_cons_succ]
  refine wpAnyH_take (i := 5) (v := .slice B m d) rfl (by kernel_rfl) (by kernel_rfl) (by kernel_rfl) (fun _ _ _ h => h) (Or.inl ⟨by rfl, ?hyb5⟩) hS ?restb5
  case hyb5 => (intro w' hSw; have c0 := hSw 4 _ rfl; go_simp; first | done | with_reducible rfl)
  try simp only [Act.put, List.getElem_toArray, List.getElem_cons_zero, List.getElem_cons_succ, List.setIfInBounds_toArray, List.set_cons_zero, List.set_cons_succ]
  refine wpAnyH_ready (rs := [3]) (by kernel_rfl) (by simp) ?_
  refine AllReadyH.cons rfl (fun K hK => ?_) AllReadyH.nil
  go_simp
  refine (refText_any A3 m3 c3 k3 A n c l.pv T (Rd.of_own OT.out) PT.out (by have := e3.out; have := hm3.out; have := hlp.out; omega)).mono ?_
  rintro e u4 hb
  obtain ⟨A4, m4, c4, rfl, e4, o4, b4⟩ := hb.v
  have P4 := Lib.hid b4
  have S4 := range_keep RT.out b4 hGT.out
  have Q4 := Lib.hid (QT.out.to b4)
  have hm4 : Hid (m4 ≤ 80) := by have h1 := e3.out; have h2 := hm3.out; have h3 := e4.out; have h4 := hl4.out; have h5 := hlp.out; unfold textL at h3; rw [List.length_append, List.length_append] at h3; unfold Hid; omega
  clear hb b4
  go_wp2_with fail
  refine hK.out _ _ S4 ?_
  intro hS
  clear hK K hS
  try simp only [Act.put, List.getElem_toArray, List.getElem_cons_zero, List.getElem_cons_succ, List.setIfInBounds_toArray, List.set_cons_zero, List.set_cons_succ]
  have hS : u4.rangeAt G 0 [.int .i64 l.au, .int .i64 l.sq, .int .i64 l.ep, .slice A n c, .slice B m d] := S4
  refine wpAnyH_ready (rs := [6]) (by kernel_rfl) (by simp) ?_
  refine AllReadyH.cons rfl (fun K hK => ?_) AllReadyH.nil
  go_simp
  refine (refText_any A4 m4 c4 (k3 ++ textL l.pv) B m d l.bd u4 (Rd.of_own o4.out) Q4.out (by have := e4.out; have := hm4.out; have := hlb.out; omega)).mono ?_
  rintro e u5 hb
  obtain ⟨A5, m5, c5, rfl, e5, o5, b5⟩ := hb.v
  have P5 := Lib.hid (P4.out.trans (b5.mono P4.out.size))
  have S5 := range_keep RT.out P5.out hGT.out
  have hbytes : Hid (k3 ++ textL l.pv ++ textL l.bd = bytesL l) := by unfold Hid; rw [hk3.out, List.nil_append]; rfl
  rw [hbytes.out] at o5 e5
  have hm5 : Hid (m5 ≤ 100) := by have h3 := e5.out; have := hbl.out; unfold Hid; omega
  have B5 := Lib.hid (BT.out.trans (P5.out.mono BT.out.size))
  have hu4 := Lib.hid (Nat.le_trans BT.out.size P4.out.size)
  clear hb b5
  go_wp2_with fail
  refine hK.out _ _ S5 ?_
  intro hS
  clear hK K hS
  try simp only [Act.put, List.getElem_toArray, List.getElem_cons_zero, List.getElem_cons_succ, List.setIfInBounds_toArray, List.set_cons_zero, List.set_cons_succ]
  have hS : u5.rangeAt G 0 [.int .i64 l.au, .int .i64 l.sq, .int .i64 l.ep, .slice A n c, .slice B m d] := S5
  refine wpAnyH_take (i := 7) (v := ?vb7) rfl (by kernel_rfl) (by kernel_rfl) (by kernel_rfl) (fun _ _ _ h => h) (Or.inl ⟨by rfl, ?hyb7⟩) hS ?restb7
  case hyb7 => (intro w' hSw; go_simp; first | done | with_reducible rfl)
  try simp only [Act.put, List.getElem_toArray, List.getElem_cons_zero, List.getElem_cons_succ, List.setIfInBounds_toArray, List.set_cons_zero, List.set_cons_succ]
  refine wpAnyH_done (by kernel_rfl) (NoPanic.normal ?_) _
  go_wp2_with fail
  go_ret
  exact ⟨A5, m5, c5, rfl, hm5.out, e5.out, own_base o5.out hu4.out, B5.out⟩
end Go.Proofs.Ytabcbpcfleociaa

/- The document's vault: its terms in memory; same, Called. (Printed by gen_vab.py.) -/
namespace Go.Proofs.Ytabcbpcfleociaa
open Go.RowKit
attribute [local go_sem ↓] Go.wp_at_zero Go.wp_at_succ
set_option linter.unusedSimpArgs false
set_option linter.unusedVariables false
/-- A slice of one text. -/
def OneAt (w : World) (B : Nat) (qb qo : Nat) (h : List UInt8) : Prop := qb < B ∧ ∃ Ai ci, w.cell? ⟨qb, qo, none⟩ = some (.slice Ai h.length ci) ∧ Rd w B 1 Ai h.length (h.map B8)
def trC (q : Nat × Nat × Nat) : List Value := [.int .u8 104, .slice (some ⟨q.1, q.2.1, none⟩) 1 q.2.2]
/-- A vault's terms. -/
def VtL (w : World) (B : Nat) (A : Option Addr) (n : Nat) (hs : List (List UInt8)) : Prop := ∃ Qs : List (Nat × Nat × Nat), Qs.length = n ∧ hs.length = n ∧ Rd w B 2 A n (Qs.flatMap trC) ∧ ∀ (i : Nat) (q : Nat × Nat × Nat) (h : List UInt8), Qs[i]? = some q → hs[i]? = some h → OneAt w B q.1 q.2.1 h
theorem OneAt.below {w w' : World} {B qb qo : Nat} {h : List UInt8} (H : OneAt w B qb qo h) (hb : Below B w w') : OneAt w' B qb qo h := by
  obtain ⟨h1, A, c, h2, h3⟩ := H
  exact ⟨h1, A, c, (World.cell?_of_block (a := ⟨qb, qo, none⟩) (hb.block qb h1)).trans h2, h3.below hb⟩
theorem OneAt.more {w : World} {B B' qb qo : Nat} {h : List UInt8} (H : OneAt w B qb qo h) (hb : B ≤ B') : OneAt w B' qb qo h := by
  obtain ⟨h1, A, c, h2, h3⟩ := H
  exact ⟨Nat.lt_of_lt_of_le h1 hb, A, c, h2, h3.more hb⟩
theorem VtL.below {w w' : World} {B n : Nat} {A : Option Addr} {hs : List (List UInt8)} (H : VtL w B A n hs) (hb : Below B w w') : VtL w' B A n hs := by
  obtain ⟨Qs, h1, h2, h3, h4⟩ := H
  exact ⟨Qs, h1, h2, h3.below hb, fun i q h e1 e2 => (h4 i q h e1 e2).below hb⟩
theorem VtL.more {w : World} {B B' n : Nat} {A : Option Addr} {hs : List (List UInt8)} (H : VtL w B A n hs) (hb : B ≤ B') : VtL w B' A n hs := by
  obtain ⟨Qs, h1, h2, h3, h4⟩ := H
  exact ⟨Qs, h1, h2, h3.more hb, fun i q h e1 e2 => (h4 i q h e1 e2).more hb⟩
theorem VtL.to {w w' : World} {n : Nat} {A : Option Addr} {hs : List (List UInt8)} (H : VtL w w.heap.size A n hs) (hb : Below w.heap.size w w') : VtL w' w'.heap.size A n hs := (H.below hb).more hb.size
theorem VtL.nil (w : World) (B : Nat) (A : Option Addr) : VtL w B A 0 [] := ⟨[], rfl, rfl, Rd.nil _ _ _ _, fun i q h hi => by simp at hi⟩
theorem flat_get {α : Type} {f : α → List Value} {s : Nat} : ∀ (L : List α), (∀ k ∈ L, (f k).length = s) → ∀ (i : Nat) (k : α), L[i]? = some k → ∀ j v, (f k)[j]? = some v → (L.flatMap f)[i * s + j]? = some v := by
  intro L
  induction L with
  | nil => intro _ i k h; simp at h
  | cons a t ih =>
    intro hL i k hi j v hj
    have ha := hL a (by simp)
    rw [List.flatMap_cons]
    rcases i with _ | i
    · simp at hi
      subst hi
      have hjl : j < (f a).length := by
        rcases Nat.lt_or_ge j (f a).length with h | h
        · exact h
        · rw [List.getElem?_eq_none h] at hj; cases hj
      rw [Nat.zero_mul, Nat.zero_add, List.getElem?_append_left hjl]
      exact hj
    · rw [List.getElem?_append_right (by rw [ha, Nat.succ_mul]; omega), ha, show (i + 1) * s + j - s = i * s + j by rw [Nat.succ_mul]; omega]
      exact ih (fun k hk => hL k (by simp [hk])) i k (by simpa using hi) j v hj
/-- The i-th element's cells of a row. -/
theorem Rd.elem {α : Type} {f : α → List Value} {s : Nat} {w : World} {B n : Nat} {A : Option Addr} {L : List α} (h : Rd w B s A n (L.flatMap f)) (hf : ∀ k ∈ L, (f k).length = s) (hn : L.length = n) {i : Nat} {k : α} (hk : L[i]? = some k) :
    ∃ b o, A = some ⟨b, o, none⟩ ∧ b < B ∧ w.rangeAt b (o + i * s) (f k) := by
  have hi : i < L.length := by
    rcases Nat.lt_or_ge i L.length with h | h
    · exact h
    · rw [List.getElem?_eq_none h] at hk; cases hk
  obtain ⟨b, o, e, hb, hc⟩ := h.2 (by omega)
  refine ⟨b, o, e, hb, fun j v hj => ?_⟩
  have := hc (i * s + j) v (flat_get L hf i k hk j v hj)
  rwa [← Nat.add_assoc] at this
theorem VtL.at_ {w : World} {B n : Nat} {A : Option Addr} {hs : List (List UInt8)} (H : VtL w B A n hs) {i : Nat} {h : List UInt8} (hi : hs[i]? = some h) : ∃ b o qb qo qc, A = some ⟨b, o, none⟩ ∧ b < B ∧ w.rangeAt b (o + i * 2) [.int .u8 104, .slice (some ⟨qb, qo, none⟩) 1 qc] ∧ OneAt w B qb qo h := by
  obtain ⟨Qs, h1, h2, h3, h4⟩ := H
  have hil : i < Qs.length := by
    rcases Nat.lt_or_ge i hs.length with h | h
    · omega
    · rw [List.getElem?_eq_none h] at hi; cases hi
  obtain ⟨b, o, e, hb, hr⟩ := h3.elem (fun _ _ => rfl) h1 (List.getElem?_eq_getElem hil)
  exact ⟨b, o, _, _, _, e, hb, hr, h4 i _ h (List.getElem?_eq_getElem hil) hi⟩
theorem OneAt.to {w w' : World} {qb qo : Nat} {h : List UInt8} (H : OneAt w w.heap.size qb qo h) (hb : Below w.heap.size w w') : OneAt w' w'.heap.size qb qo h := (H.below hb).more hb.size
theorem neq_str (a b : List UInt8) : ((str a).toList != (str b).toList) = !decide (a = b) := by
  rw [bne, eq_str]
set_option maxHeartbeats 1000000 in
theorem same_ (qb qo qc qb' qo' qc' : Nat) (h h' : List UInt8) (w : World) (h1 : OneAt w w.heap.size qb qo h) (h2 : OneAt w w.heap.size qb' qo' h') :
    Calls Try.prog 73 #[.agg #[.int .u8 104, .slice (some ⟨qb, qo, none⟩) 1 qc], .agg #[.int .u8 104, .slice (some ⟨qb', qo', none⟩) 1 qc']] w fun e w' => e = .returned (.bool (decide (h = h'))) ∧ Below w.heap.size w w' := by
  obtain ⟨W, hW⟩ : ∃ W, Hid (W = (w.alloc (.cells #[.int .u8 104, .slice (some ⟨qb, qo, none⟩) 1 qc] 124)).alloc (.cells #[.int .u8 104, .slice (some ⟨qb', qo', none⟩) 1 qc'] 124)) := ⟨_, Lib.hid rfl⟩
  obtain ⟨G, hG⟩ : ∃ g, Hid (g = w.heap.size) := ⟨_, Lib.hid rfl⟩
  have hs1 : (w.alloc (.cells #[.int .u8 104, .slice (some ⟨qb, qo, none⟩) 1 qc] 124)).heap.size = w.heap.size + 1 := szAlloc _ _
  have BW : Hid (Below w.heap.size w W) := by rw [hW.out]; exact ((Below.refl _ _).alloc (Nat.le_refl _) _).alloc (by rw [szAlloc]; omega) _
  have R1 : Hid (W.rangeAt G 0 [.int .u8 104, .slice (some ⟨qb, qo, none⟩) 1 qc]) := by rw [hW.out, hG.out]; exact fun j v hj => (World.cell?_alloc_lt _ _ _ (by rw [hs1]; exact Nat.lt_succ_self _)).trans (rangeNew w _ _ j v hj)
  have R2 : Hid (W.rangeAt (G + 1) 0 [.int .u8 104, .slice (some ⟨qb', qo', none⟩) 1 qc']) := by rw [hW.out, hG.out, ← hs1]; exact rangeNew _ _ _
  have hGs : Hid (G + 1 < W.heap.size) := by unfold Hid; rw [hG.out, hW.out, szAlloc, hs1]; exact Nat.lt_succ_self _
  have H1 := Lib.hid (h1.to BW.out)
  have H2 := Lib.hid (h2.to BW.out)
  have c10 := R1.out 0 _ rfl
  have c11 := R1.out 1 _ rfl
  have c20 := R2.out 0 _ rfl
  have c21 := R2.out 1 _ rfl
  rw [hW.out, hG.out] at c10 c11 c20 c21
  clear h1 h2 hs1
  go_enter Try.func73, Try.ntmps73
  go_wp2_with fail
  rw [← hW.out, ← hG.out]
  clear c10 c11 c20 c21
  obtain ⟨bb, hbb⟩ : ∃ b, Hid (decide (h = h') = b) := ⟨_, Lib.hid rfl⟩
  go_loopw [5] (fun x5 wr => ∃ i : Nat, x5 = .int .i64 i ∧ i ≤ 1 ∧ (i = 1 → bb = true) ∧ Hid (Below W.heap.size W wr)) (fun x5 _ => 1 - (intOf x5).toNat)
  case atStart => exact ⟨0, rfl, by omega, fun h => absurd h (by omega), Below.refl _ _⟩
  case round =>
    obtain ⟨i, rfl, hi, hib, hb⟩ := hrel
    have r1 := range_keep R1.out hb.out (Nat.lt_of_succ_lt hGs.out)
    have r2 := range_keep R2.out hb.out hGs.out
    have c11 := r1 1 _ rfl
    have c21 := r2 1 _ rfl
    by_cases h0 : i = 0
    · subst h0
      obtain ⟨q1, A1, n1, k1, k2⟩ := H1.out.to hb.out
      obtain ⟨q2, A2, n2, k3, k4⟩ := H2.out.to hb.out
      have e8 : IntKind.i64.wrap (0 + 1) = 1 := by decide
      obtain ⟨ln1, hln1⟩ : ∃ n, Hid (n = h.length) := ⟨_, Lib.hid rfl⟩
      obtain ⟨ln2, hln2⟩ : ∃ n, Hid (n = h'.length) := ⟨_, Lib.hid rfl⟩
      rw [← hln1.out] at k1 k2
      rw [← hln2.out] at k3 k4
      have K2 := Lib.hid k2
      have K4 := Lib.hid k4
      clear k2 k4
      go_wp2_with fail
      obtain ⟨X, hX⟩ : ∃ W, Hid (W = wr.drew) := ⟨_, Lib.hid rfl⟩
      have dX : Below wr.heap.size wr X := by rw [hX.out]; exact below_drew (Below.refl _ _)
      have x11 := (range_keep r1 dX (Nat.lt_of_lt_of_le (Nat.lt_of_succ_lt hGs.out) hb.out.size)) 1 _ rfl
      have x21 := (range_keep r2 dX (Nat.lt_of_lt_of_le hGs.out hb.out.size)) 1 _ rfl
      have y1 : X.cell? ⟨qb, qo, none⟩ = some (.slice A1 ln1 n1) := (World.cell?_of_block (a := ⟨qb, qo, none⟩) (dX.block qb q1)).trans k1
      have y2 : X.cell? ⟨qb', qo', none⟩ = some (.slice A2 ln2 n2) := (World.cell?_of_block (a := ⟨qb', qo', none⟩) (dX.block qb' q2)).trans k3
      have v1 := conv8 X A1 ln1 n1 h (K2.out.to dX)
      have v2 := conv8 X A2 ln2 n2 h' (K4.out.to dX)
      have BX := Lib.hid (hb.out.trans (dX.mono hb.out.size))
      clear c11 c21
      refine wp_region_noPanic ?_
      refine wp_region_held_drew (S := fun w' => w' = X) (by kernel_rfl) hX.out.symm (fun hS => ?_)
      rw [← hX.out]
      clear hS
      have hS : X = X := rfl
      refine wpAnyH_take (i := 0) (v := ?v0) rfl (by kernel_rfl) (by kernel_rfl) (by kernel_rfl) (fun _ _ _ h => h) (Or.inl ⟨by rfl, ?hy0⟩) hS ?rest0
      case hy0 => ((intro w' hSw; subst hSw; go_simp; first | done | with_reducible rfl))
      try simp only [Act.put, List.getElem_toArray, List.getElem_cons_zero, List.getElem_cons_succ, List.setIfInBounds_toArray, List.set_cons_zero, List.set_cons_succ]
      refine wpAnyH_take (i := 1) (v := .slice (some ⟨qb, qo, none⟩) 1 qc) rfl (by kernel_rfl) (by kernel_rfl) (by kernel_rfl) (fun _ _ _ h => h) (Or.inl ⟨by rfl, ?hy1⟩) hS ?rest1
      case hy1 => ((intro w' hSw; subst hSw; go_simp; first | done | with_reducible rfl))
      try simp only [Act.put, List.getElem_toArray, List.getElem_cons_zero, List.getElem_cons_succ, List.setIfInBounds_toArray, List.set_cons_zero, List.set_cons_succ]
      refine wpAnyH_take (i := 2) (v := ?v2) rfl (by kernel_rfl) (by kernel_rfl) (by kernel_rfl) (fun _ _ _ h => h) (Or.inl ⟨by rfl, ?hy2⟩) hS ?rest2
      case hy2 => ((intro w' hSw; subst hSw; go_simp; first | done | with_reducible rfl))
      try simp only [Act.put, List.getElem_toArray, List.getElem_cons_zero, List.getElem_cons_succ, List.setIfInBounds_toArray, List.set_cons_zero, List.set_cons_succ]
      refine wpAnyH_take (i := 3) (v := .pointer (some ⟨qb, qo, none⟩)) rfl (by kernel_rfl) (by kernel_rfl) (by kernel_rfl) (fun _ _ _ h => h) (Or.inl ⟨by rfl, ?hy3⟩) hS ?rest3
      case hy3 => ((intro w' hSw; subst hSw; go_simp; first | done | with_reducible rfl))
      try simp only [Act.put, List.getElem_toArray, List.getElem_cons_zero, List.getElem_cons_succ, List.setIfInBounds_toArray, List.set_cons_zero, List.set_cons_succ]
      refine wpAnyH_take (i := 4) (v := .slice A1 ln1 n1) rfl (by kernel_rfl) (by kernel_rfl) (by kernel_rfl) (fun _ _ _ h => h) (Or.inl ⟨by rfl, ?hy4⟩) hS ?rest4
      case hy4 => ((intro w' hSw; subst hSw; go_simp; first | done | with_reducible rfl))
      try simp only [Act.put, List.getElem_toArray, List.getElem_cons_zero, List.getElem_cons_succ, List.setIfInBounds_toArray, List.set_cons_zero, List.set_cons_succ]
      refine wpAnyH_take (i := 5) (v := .string (str h)) rfl (by kernel_rfl) (by kernel_rfl) (by kernel_rfl) (fun _ _ _ h => h) (Or.inl ⟨by rfl, ?hy5⟩) hS ?rest5
      case hy5 => ((intro w' hSw; subst hSw; go_simp; first | done | with_reducible rfl))
      try simp only [Act.put, List.getElem_toArray, List.getElem_cons_zero, List.getElem_cons_succ, List.setIfInBounds_toArray, List.set_cons_zero, List.set_cons_succ]
      refine wpAnyH_take (i := 6) (v := ?v6) rfl (by kernel_rfl) (by kernel_rfl) (by kernel_rfl) (fun _ _ _ h => h) (Or.inl ⟨by rfl, ?hy6⟩) hS ?rest6
      case hy6 => ((intro w' hSw; subst hSw; go_simp; first | done | with_reducible rfl))
      try simp only [Act.put, List.getElem_toArray, List.getElem_cons_zero, List.getElem_cons_succ, List.setIfInBounds_toArray, List.set_cons_zero, List.set_cons_succ]
      refine wpAnyH_take (i := 7) (v := .slice (some ⟨qb', qo', none⟩) 1 qc') rfl (by kernel_rfl) (by kernel_rfl) (by kernel_rfl) (fun _ _ _ h => h) (Or.inl ⟨by rfl, ?hy7⟩) hS ?rest7
      case hy7 => ((intro w' hSw; subst hSw; go_simp; first | done | with_reducible rfl))
      try simp only [Act.put, List.getElem_toArray, List.getElem_cons_zero, List.getElem_cons_succ, List.setIfInBounds_toArray, List.set_cons_zero, List.set_cons_succ]
      refine wpAnyH_take (i := 8) (v := ?v8) rfl (by kernel_rfl) (by kernel_rfl) (by kernel_rfl) (fun _ _ _ h => h) (Or.inl ⟨by rfl, ?hy8⟩) hS ?rest8
      case hy8 => ((intro w' hSw; subst hSw; go_simp; first | done | with_reducible rfl))
      try simp only [Act.put, List.getElem_toArray, List.getElem_cons_zero, List.getElem_cons_succ, List.setIfInBounds_toArray, List.set_cons_zero, List.set_cons_succ]
      refine wpAnyH_take (i := 9) (v := .pointer (some ⟨qb', qo', none⟩)) rfl (by kernel_rfl) (by kernel_rfl) (by kernel_rfl) (fun _ _ _ h => h) (Or.inl ⟨by rfl, ?hy9⟩) hS ?rest9
      case hy9 => ((intro w' hSw; subst hSw; go_simp; first | done | with_reducible rfl))
      try simp only [Act.put, List.getElem_toArray, List.getElem_cons_zero, List.getElem_cons_succ, List.setIfInBounds_toArray, List.set_cons_zero, List.set_cons_succ]
      refine wpAnyH_take (i := 10) (v := .slice A2 ln2 n2) rfl (by kernel_rfl) (by kernel_rfl) (by kernel_rfl) (fun _ _ _ h => h) (Or.inl ⟨by rfl, ?hy10⟩) hS ?rest10
      case hy10 => ((intro w' hSw; subst hSw; go_simp; first | done | with_reducible rfl))
      try simp only [Act.put, List.getElem_toArray, List.getElem_cons_zero, List.getElem_cons_succ, List.setIfInBounds_toArray, List.set_cons_zero, List.set_cons_succ]
      refine wpAnyH_take (i := 11) (v := .string (str h')) rfl (by kernel_rfl) (by kernel_rfl) (by kernel_rfl) (fun _ _ _ h => h) (Or.inl ⟨by rfl, ?hy11⟩) hS ?rest11
      case hy11 => ((intro w' hSw; subst hSw; go_simp; first | done | with_reducible rfl))
      try simp only [Act.put, List.getElem_toArray, List.getElem_cons_zero, List.getElem_cons_succ, List.setIfInBounds_toArray, List.set_cons_zero, List.set_cons_succ]
      refine wpAnyH_take (i := 12) (v := .bool (!decide (h = h'))) rfl (by kernel_rfl) (by kernel_rfl) (by kernel_rfl) (fun _ _ _ h => h) (Or.inl ⟨by rfl, ?hy12⟩) hS ?rest12
      case hy12 => ((intro w' hSw; subst hSw; go_simp; first | done | with_reducible rfl | exact eq_str h h'))
      try simp only [Act.put, List.getElem_toArray, List.getElem_cons_zero, List.getElem_cons_succ, List.setIfInBounds_toArray, List.set_cons_zero, List.set_cons_succ]
      refine wpAnyH_done (by kernel_rfl) (NoPanic.normal ?_) _
      rw [hbb.out]
      clear x11 x21 y1 y2 v1 v2 hS
      cases bb
      · go_wp2_with fail
        go_ret
        exact ⟨by rw [hbb.out]; rfl, BW.out.trans (BX.out.mono BW.out.size)⟩
      · go_wp2_with fail
        go_roundw
        case rel => exact ⟨1, rfl, by omega, by simp, BX⟩
        case measure => simp only [intOf]; omega
    · have h1 : i = 1 := by omega
      subst h1
      have hbt := hib rfl
      go_wp2_with fail
      go_ret
      exact ⟨by rw [hbb.out, hbt]; rfl, BW.out.trans (hb.out.mono BW.out.size)⟩
theorem hname_take9 (k : Nat) : (hname k).take 9 = [104] ++ eightL k := by
  show (104 :: (eightL k ++ List.replicate 23 0)).take 9 = _
  rw [List.take_succ_cons, List.take_append_of_le_length (by rw [eightL_len]; exact Nat.le_refl _), List.take_of_length_le (by rw [eightL_len]; exact Nat.le_refl _)]
  rfl
theorem hname_step (k : Nat) {n : Nat} (h9 : 9 ≤ n) (h : n < 32) : (hname k).take n ++ [0] = (hname k).take (n + 1) := by
  rw [List.take_add_one]
  congr 1
  obtain ⟨j, rfl⟩ : ∃ j, n = 9 + j := ⟨n - 9, by omega⟩
  show _ = ((104 :: (eightL k ++ List.replicate 23 0))[9 + j]?).toList
  rw [show 9 + j = (8 + j) + 1 by omega, List.getElem?_cons_succ, List.getElem?_append_right (by rw [eightL_len]; omega), eightL_len, show 8 + j - 8 = j by omega, List.getElem?_replicate, if_pos (by omega)]
  rfl
set_option maxRecDepth 20000 in
set_option maxHeartbeats 2000000 in
theorem refCalled_ (Q : Option Addr) (n c k : Nat) (w : World) (hk : k < 4611686018427387904) :
    Calls Try.prog 74 #[.agg #[.int .u8 104, .slice Q n c], .int .i64 k] w fun e w' => ∃ A c', e = .returned (.slice A 32 c') ∧ OwnS w' w.heap.size A 32 c' ((hname k).map B8) ∧ Below w.heap.size w w' := by
  obtain ⟨Y, hY⟩ : ∃ Y, Hid (Y = w.alloc (.cells #[.int .u8 104, .slice Q n c] 124)) := ⟨_, Lib.hid rfl⟩
  have hb0 : Below w.heap.size w Y := by rw [hY.out]; exact (Below.refl _ _).alloc (Nat.le_refl _) _
  have hsW : Y.heap.size = w.heap.size + 1 := by rw [hY.out]; exact szAlloc _ _
  have hrg : Y.rangeAt w.heap.size 0 [.int .u8 104, .slice Q n c] := by
    rw [hY.out]
    intro j v hj
    refine cell_blk (heap_alloc_new w _) _ ?_
    rw [Nat.zero_add, ← hj]; simp
  have HB0 := Lib.hid hb0
  have HRG := Lib.hid hrg
  have HSW := Lib.hid hsW
  obtain ⟨G, hG⟩ : ∃ g, Hid (g = w.heap.size) := ⟨_, Lib.hid rfl⟩
  have hGW : G < Y.heap.size := by rw [hG.out, hsW]; exact Nat.lt_succ_self _
  rw [← hG.out] at HRG
  clear hb0 hrg hsW
  have hc0' : (w.alloc (.cells #[.int .u8 104, .slice Q n c] 124)).cell? ⟨w.heap.size, 0, none⟩ = some (.int .u8 104) := cell_blk (heap_alloc_new w _) 0 rfl
  go_enter Try.func74, Try.ntmps74
  go_wp2_with fail
  clear hc0'
  rw [← hY.out, ← hG.out]
  have hB : Hid (Below Y.heap.size Y Y) := Below.refl _ _
  obtain ⟨X, hX⟩ : ∃ W, Hid (W = Y.drew) := ⟨_, Lib.hid rfl⟩
  have dX : Below Y.heap.size Y X := by rw [hX.out]; exact below_drew (Below.refl _ _)
  have HX := Lib.hid (range_keep HRG.out dX hGW)
  have ho8 := Lib.hid (oneB (eightL k))
  refine wp_region_noPanic ?_
  refine wp_region_held_drew (S := fun w' => Below X.heap.size X w') (by kernel_rfl) (by rw [hX.out]; exact Below.refl _ _) (fun hS => ?_)
  rw [← hX.out]
  clear hS
  have hS : Below X.heap.size X X := Below.refl _ _
  refine wpAnyH_take (i := 0) (v := ?v0) rfl (by kernel_rfl) (by kernel_rfl) (by kernel_rfl) (fun _ _ _ h => h) (Or.inl ⟨by rfl, ?hy0⟩) hS ?rest0
  case hy0 => (intro w hSw; go_simp; first | done | with_reducible rfl)
  try simp only [Act.put, List.getElem_toArray, List.getElem_cons_zero, List.getElem_cons_succ, List.setIfInBounds_toArray, List.set_cons_zero, List.set_cons_succ]
  refine wpAnyH_take (i := 1) (v := .int .u8 104) rfl (by kernel_rfl) (by kernel_rfl) (by kernel_rfl) (fun _ _ _ h => h) (Or.inl ⟨by rfl, ?hy1⟩) hS ?rest1
  case hy1 => (intro w' hSw; have hc := range_keep HX.out hSw (Nat.lt_of_lt_of_le hGW dX.size) 0 _ rfl; go_simp; first | done | with_reducible rfl)
  try simp only [Act.put, List.getElem_toArray, List.getElem_cons_zero, List.getElem_cons_succ, List.setIfInBounds_toArray, List.set_cons_zero, List.set_cons_succ]
  refine wpAnyH_take (i := 3) (v := ?v3) rfl (by kernel_rfl) (by kernel_rfl) (by kernel_rfl) (fun _ _ _ h => h) (Or.inl ⟨by rfl, ?hy3⟩) hS ?rest3
  case hy3 => (intro w hSw; go_simp; first | done | with_reducible rfl)
  try simp only [Act.put, List.getElem_toArray, List.getElem_cons_zero, List.getElem_cons_succ, List.setIfInBounds_toArray, List.set_cons_zero, List.set_cons_succ]
  refine wpAnyH_ready (rs := [2, 4]) (by kernel_rfl) (by simp) ?_
  refine AllReadyH.cons rfl (fun K hK => ?_) (AllReadyH.cons rfl (fun K hK => ?_) AllReadyH.nil)
  · go_simp
    have p13 := (Below.refl X.heap.size X).alloc (Nat.le_refl _) (.cells #[.int .u8 104] 5)
    refine hK.out _ _ p13 ?_
    intro hS
    clear hK K
    try simp only [Act.put, List.getElem_toArray, List.getElem_cons_zero, List.getElem_cons_succ, List.setIfInBounds_toArray, List.set_cons_zero, List.set_cons_succ]
    have l8 := Lib.hid (own104 X)
    obtain ⟨U, hU⟩ : ∃ U, Hid (U = X.alloc (.cells #[.int .u8 104] 5)) := ⟨_, Lib.hid rfl⟩
    rw [← hU.out] at p13 l8 ⊢
    clear hS
    refine wpAnyH_ready (rs := [4]) (by kernel_rfl) (by simp) ?_
    refine AllReadyH.cons rfl (fun K hK => ?_) AllReadyH.nil
    go_simp
    refine (refEight_ k U hk).mono ?_
    rintro e V ⟨A9, c9, rfl, o9, p9⟩
    have P := Lib.hid (p13.trans (p9.mono p13.size))
    have q9 := Lib.hid o9.rd
    have q8 := Lib.hid (own_below l8.out p9)
    clear o9 l8
    go_wp2_with fail
    refine hK.out _ _ P.out ?_
    intro hS
    clear hK K
    try simp only [Act.put, List.getElem_toArray, List.getElem_cons_zero, List.getElem_cons_succ, List.setIfInBounds_toArray, List.set_cons_zero, List.set_cons_succ]
    refine wpAnyH_ready (rs := [5]) (by kernel_rfl) (by simp) ?_
    refine AllReadyH.cons rfl (fun K hK => ?_) AllReadyH.nil
    refine step_app (.tmp 21) (.tmp 23) 38 rfl rfl X.heap.size 5 1 1 (.int .u8 0) Try.underlying38 infoB rfl (by decide) _ 1 _ rfl q8.out _ A9 8 c9 _ rfl q9.out ho8.out (by simp [maxLen]) (by decide) P.out.size ?_
    intro A' c' u' o' g' _
    have P' := Lib.hid (P.out.trans (below_grown g' (own_block_ge q8.out) P.out.size))
    refine hK.out _ _ P'.out ?_
    intro hS
    clear hK K
    try simp only [Act.put, List.getElem_toArray, List.getElem_cons_zero, List.getElem_cons_succ, List.setIfInBounds_toArray, List.set_cons_zero, List.set_cons_succ]
    refine wpAnyH_take (i := 6) (v := ?va6) rfl (by kernel_rfl) (by kernel_rfl) (by kernel_rfl) (fun _ _ _ h => h) (Or.inl ⟨by rfl, ?hya6⟩) hS ?resta6
    case hya6 => (intro w hSw; go_simp; first | done | with_reducible rfl)
    try simp only [Act.put, List.getElem_toArray, List.getElem_cons_zero, List.getElem_cons_succ, List.setIfInBounds_toArray, List.set_cons_zero, List.set_cons_succ]
    refine wpAnyH_done (by kernel_rfl) (NoPanic.normal ?_) _
    have O := Lib.hid (own_base o' dX.size)
    have HU := Lib.hid (range_keep HX.out P'.out (Nat.lt_of_lt_of_le hGW dX.size))
    have hc0 := HU.out 0 _ rfl
    have hc1 := HU.out 1 _ rfl
    have PW := Lib.hid (dX.trans (P'.out.mono dX.size))
    clear o' g' hS
    clear hc0 hc1 HU P'
    rw [show (1 : Nat) + 8 = 9 from rfl] at O ⊢
    go_wp2_with fail
    go_loopw [6] (fun x6 wr => ∃ (n : Nat) (A : Option Addr) (c : Nat), x6 = .slice A n c ∧ 9 ≤ n ∧ n ≤ 32 ∧ Hid (OwnS wr Y.heap.size A n c (((hname k).take n).map B8)) ∧ Hid (Below Y.heap.size Y wr)) (fun x6 _ => 32 - slN x6)
    case atStart => exact ⟨9, _, _, rfl, by omega, by omega, by unfold Hid; rw [hname_take9]; exact OwnS.of_own O.out, PW.out⟩
    case round =>
      obtain ⟨n, A, c, rfl, hn9, hn, hO, hb⟩ := hrel
      by_cases h32 : n < 32
      · have h32' : (n : Int) < 32 := by omega
        have hO1 := Lib.hid (hO.out.to ((Below.refl wr.heap.size wr).alloc (Nat.le_refl _) (.cells #[.int .u8 0] 5)))
        have hb1 := Lib.hid (hb.out.trans ((Below.refl Y.heap.size wr).alloc hb.out.size (.cells #[.int .u8 0] 5)))
        have hl1 : Hid (Rd (wr.alloc (.cells #[.int .u8 0] 5)) (wr.alloc (.cells #[.int .u8 0] 5)).heap.size 1 (some ⟨wr.heap.size, 0, none⟩) 1 (([0] : List UInt8).map B8)) := one_lit wr 0
        have hoz := Lib.hid (oneB [0])
        have hsn := Lib.hid (hname_step k hn9 h32)
        go_wp2_with (at_builtin
                     refine wpList_apT rfl (.tmp 29) (.tmp 30) 38 rfl Y.heap.size 5 1 (.int .u8 0) Try.underlying38 infoB rfl A n c _ rfl hO1.out _ (some ⟨wr.heap.size, 0, none⟩) 1 1 (([0] : List UInt8).map B8) rfl hl1.out hoz.out (by simp only [maxLen]; omega) (by omega) hb1.out.size ?_
                     intro A3 c3 w3 o3 b3 _ _ _
                     rw [← List.map_append, hsn.out] at o3
                     have O3 := Lib.hid o3
                     have B3 := Lib.hid (hb1.out.trans b3)
                     clear o3 b3)
        go_roundw
        case rel => exact ⟨n + 1, A3, c3, rfl, by omega, h32, O3, B3⟩
        case measure => simp only [slN]; omega
      · have hnS : Hid (n = 32) := (by omega : n = 32)
        have h32' : ¬ (n : Int) < 32 := by omega
        go_wp2_with fail
        go_ret
        have ho := hO.out
        rw [hnS.out, List.take_of_length_le (by rw [hname_len]; exact Nat.le_refl _)] at ho
        exact ⟨A, c, by rw [hnS.out]; rfl, ho.mono (Nat.le_of_lt (hG.out ▸ hGW)), HB0.out.trans (hb.out.mono HB0.out.size)⟩
  · go_simp
    refine (refEight_ k X hk).mono ?_
    rintro e U ⟨A9, c9, rfl, o9, p9⟩
    go_wp2_with fail
    refine hK.out _ _ p9 ?_
    intro hS
    clear hK K
    try simp only [Act.put, List.getElem_toArray, List.getElem_cons_zero, List.getElem_cons_succ, List.setIfInBounds_toArray, List.set_cons_zero, List.set_cons_succ]
    refine wpAnyH_ready (rs := [2]) (by kernel_rfl) (by simp) ?_
    refine AllReadyH.cons rfl (fun K hK => ?_) AllReadyH.nil
    go_simp
    have P := Lib.hid (p9.trans ((Below.refl X.heap.size U).alloc p9.size (.cells #[.int .u8 104] 5)))
    refine hK.out _ _ P.out ?_
    intro hS
    clear hK K
    try simp only [Act.put, List.getElem_toArray, List.getElem_cons_zero, List.getElem_cons_succ, List.setIfInBounds_toArray, List.set_cons_zero, List.set_cons_succ]
    have q8 := Lib.hid (own_base (own104 U) p9.size)
    have q9 := Lib.hid (o9.rd.at0 ((Below.refl U.heap.size U).alloc (Nat.le_refl _) (.cells #[.int .u8 104] 5)) (by rw [szAlloc]; omega))
    obtain ⟨V, hV⟩ : ∃ V, Hid (V = U.alloc (.cells #[.int .u8 104] 5)) := ⟨_, Lib.hid rfl⟩
    rw [← hV.out] at P q8 q9 ⊢
    clear o9
    refine wpAnyH_ready (rs := [5]) (by kernel_rfl) (by simp) ?_
    refine AllReadyH.cons rfl (fun K hK => ?_) AllReadyH.nil
    refine step_app (.tmp 21) (.tmp 23) 38 rfl rfl X.heap.size 5 1 1 (.int .u8 0) Try.underlying38 infoB rfl (by decide) _ 1 _ rfl q8.out _ A9 8 c9 _ rfl q9.out ho8.out (by simp [maxLen]) (by decide) P.out.size ?_
    intro A' c' u' o' g' _
    have P' := Lib.hid (P.out.trans (below_grown g' (own_block_ge q8.out) P.out.size))
    refine hK.out _ _ P'.out ?_
    intro hS
    clear hK K
    try simp only [Act.put, List.getElem_toArray, List.getElem_cons_zero, List.getElem_cons_succ, List.setIfInBounds_toArray, List.set_cons_zero, List.set_cons_succ]
    refine wpAnyH_take (i := 6) (v := ?vb6) rfl (by kernel_rfl) (by kernel_rfl) (by kernel_rfl) (fun _ _ _ h => h) (Or.inl ⟨by rfl, ?hyb6⟩) hS ?restb6
    case hyb6 => (intro w hSw; go_simp; first | done | with_reducible rfl)
    try simp only [Act.put, List.getElem_toArray, List.getElem_cons_zero, List.getElem_cons_succ, List.setIfInBounds_toArray, List.set_cons_zero, List.set_cons_succ]
    refine wpAnyH_done (by kernel_rfl) (NoPanic.normal ?_) _
    have O := Lib.hid (own_base o' dX.size)
    have HU := Lib.hid (range_keep HX.out P'.out (Nat.lt_of_lt_of_le hGW dX.size))
    have hc0 := HU.out 0 _ rfl
    have hc1 := HU.out 1 _ rfl
    have PW := Lib.hid (dX.trans (P'.out.mono dX.size))
    clear o' g' hS
    clear hc0 hc1 HU P'
    rw [show (1 : Nat) + 8 = 9 from rfl] at O ⊢
    go_wp2_with fail
    go_loopw [6] (fun x6 wr => ∃ (n : Nat) (A : Option Addr) (c : Nat), x6 = .slice A n c ∧ 9 ≤ n ∧ n ≤ 32 ∧ Hid (OwnS wr Y.heap.size A n c (((hname k).take n).map B8)) ∧ Hid (Below Y.heap.size Y wr)) (fun x6 _ => 32 - slN x6)
    case atStart => exact ⟨9, _, _, rfl, by omega, by omega, by unfold Hid; rw [hname_take9]; exact OwnS.of_own O.out, PW.out⟩
    case round =>
      obtain ⟨n, A, c, rfl, hn9, hn, hO, hb⟩ := hrel
      by_cases h32 : n < 32
      · have h32' : (n : Int) < 32 := by omega
        have hO1 := Lib.hid (hO.out.to ((Below.refl wr.heap.size wr).alloc (Nat.le_refl _) (.cells #[.int .u8 0] 5)))
        have hb1 := Lib.hid (hb.out.trans ((Below.refl Y.heap.size wr).alloc hb.out.size (.cells #[.int .u8 0] 5)))
        have hl1 : Hid (Rd (wr.alloc (.cells #[.int .u8 0] 5)) (wr.alloc (.cells #[.int .u8 0] 5)).heap.size 1 (some ⟨wr.heap.size, 0, none⟩) 1 (([0] : List UInt8).map B8)) := one_lit wr 0
        have hoz := Lib.hid (oneB [0])
        have hsn := Lib.hid (hname_step k hn9 h32)
        go_wp2_with (at_builtin
                     refine wpList_apT rfl (.tmp 29) (.tmp 30) 38 rfl Y.heap.size 5 1 (.int .u8 0) Try.underlying38 infoB rfl A n c _ rfl hO1.out _ (some ⟨wr.heap.size, 0, none⟩) 1 1 (([0] : List UInt8).map B8) rfl hl1.out hoz.out (by simp only [maxLen]; omega) (by omega) hb1.out.size ?_
                     intro A3 c3 w3 o3 b3 _ _ _
                     rw [← List.map_append, hsn.out] at o3
                     have O3 := Lib.hid o3
                     have B3 := Lib.hid (hb1.out.trans b3)
                     clear o3 b3)
        go_roundw
        case rel => exact ⟨n + 1, A3, c3, rfl, by omega, h32, O3, B3⟩
        case measure => simp only [slN]; omega
      · have hnS : Hid (n = 32) := (by omega : n = 32)
        have h32' : ¬ (n : Int) < 32 := by omega
        go_wp2_with fail
        go_ret
        have ho := hO.out
        rw [hnS.out, List.take_of_length_le (by rw [hname_len]; exact Nat.le_refl _)] at ho
        exact ⟨A, c, by rw [hnS.out]; rfl, ho.mono (Nat.le_of_lt (hG.out ▸ hGW)), HB0.out.trans (hb.out.mono HB0.out.size)⟩
end Go.Proofs.Ytabcbpcfleociaa

/- The document's vault: Name, Hash. (Printed by gen_vac.py.) -/
namespace Go.Proofs.Ytabcbpcfleociaa
open Go.RowKit
attribute [local go_sem ↓] Go.wp_at_zero Go.wp_at_succ
set_option linter.unusedSimpArgs false
set_option linter.unusedVariables false
/-- A row of values whose block is one of 'ok'. -/
def RdP (w : World) (ok : Nat → Prop) (size : Nat) (A : Option Addr) (n : Nat) (xs : List Value) : Prop := xs.length = n * size ∧ (0 < n → ∃ b o, A = some ⟨b, o, none⟩ ∧ ok b ∧ ∀ j u, xs[j]? = some u → w.cell? ⟨b, o + j, none⟩ = some u)
theorem RdP.rd {w : World} {ok : Nat → Prop} {size n B : Nat} {A : Option Addr} {xs : List Value} (h : RdP w ok size A n xs) (hB : ∀ b, ok b → b < B) : Rd w B size A n xs :=
  ⟨h.1, fun h0 => by obtain ⟨b, o, e, hb, hc⟩ := h.2 h0; exact ⟨b, o, e, hB b hb, hc⟩⟩
theorem RdP.same {w w' : World} {ok ok' : Nat → Prop} {size n : Nat} {A : Option Addr} {xs : List Value} (h : RdP w ok size A n xs) (e : ∀ b, ok b → w'.heap[b]? = w.heap[b]?) (hk : ∀ b, ok b → ok' b) : RdP w' ok' size A n xs :=
  ⟨h.1, fun h0 => by obtain ⟨b, o, e1, hb, hc⟩ := h.2 h0; exact ⟨b, o, e1, hk b hb, fun j u hu => (World.cell?_of_block (a := ⟨b, o + j, none⟩) (e b hb)).trans (hc j u hu)⟩⟩
def OneP (w : World) (ok : Nat → Prop) (qb qo : Nat) (h : List UInt8) : Prop := ok qb ∧ ∃ Ai ci, w.cell? ⟨qb, qo, none⟩ = some (.slice Ai h.length ci) ∧ RdP w ok 1 Ai h.length (h.map B8)
theorem OneP.one {w : World} {ok : Nat → Prop} {B qb qo : Nat} {h : List UInt8} (H : OneP w ok qb qo h) (hB : ∀ b, ok b → b < B) : OneAt w B qb qo h := by
  obtain ⟨h1, A, c, h2, h3⟩ := H
  exact ⟨hB _ h1, A, c, h2, h3.rd hB⟩
theorem OneP.same {w w' : World} {ok ok' : Nat → Prop} {qb qo : Nat} {h : List UInt8} (H : OneP w ok qb qo h) (e : ∀ b, ok b → w'.heap[b]? = w.heap[b]?) (hk : ∀ b, ok b → ok' b) : OneP w' ok' qb qo h := by
  obtain ⟨h1, A, c, h2, h3⟩ := H
  exact ⟨hk _ h1, A, c, (World.cell?_of_block (a := ⟨qb, qo, none⟩) (e _ h1)).trans h2, h3.same e hk⟩
/-- A vault's terms, all in blocks of 'ok'. -/
def VtP (w : World) (ok : Nat → Prop) (A : Option Addr) (n : Nat) (hs : List (List UInt8)) : Prop := ∃ Qs : List (Nat × Nat × Nat), Qs.length = n ∧ hs.length = n ∧ RdP w ok 2 A n (Qs.flatMap trC) ∧ ∀ (i : Nat) (q : Nat × Nat × Nat) (h : List UInt8), Qs[i]? = some q → hs[i]? = some h → OneP w ok q.1 q.2.1 h
theorem VtP.l {w : World} {ok : Nat → Prop} {B n : Nat} {A : Option Addr} {hs : List (List UInt8)} (H : VtP w ok A n hs) (hB : ∀ b, ok b → b < B) : VtL w B A n hs := by
  obtain ⟨Qs, h1, h2, h3, h4⟩ := H
  exact ⟨Qs, h1, h2, h3.rd hB, fun i q h e1 e2 => (h4 i q h e1 e2).one hB⟩
theorem VtP.same {w w' : World} {ok ok' : Nat → Prop} {n : Nat} {A : Option Addr} {hs : List (List UInt8)} (H : VtP w ok A n hs) (e : ∀ b, ok b → w'.heap[b]? = w.heap[b]?) (hk : ∀ b, ok b → ok' b) : VtP w' ok' A n hs := by
  obtain ⟨Qs, h1, h2, h3, h4⟩ := H
  exact ⟨Qs, h1, h2, h3.same e hk, fun i q h e1 e2 => (h4 i q h e1 e2).same e hk⟩
theorem VtL.p {w : World} {B n : Nat} {A : Option Addr} {hs : List (List UInt8)} (H : VtL w B A n hs) : VtP w (fun b => b < B) A n hs := H
theorem step_store_row {P : Program} {w : World} {ops : Array Oper} {E : Prop} {o : Oper} {a : Act} {K : Act → World → Prop} {Q : Exit → Act → World → Prop} (ty : TypeId) (x y : Operand) (hgd : o.guard = none) (ho : o.op = .store ty x y)
    (g : Nat) (cells : Array Value) (hx : a.eval x = .pointer (some ⟨g, 0, none⟩)) (hy : a.eval y = .agg cells)
    (t : TypeId) (old : Array Value) (hg : w.heap[g]? = some (.cells old t (0, 0))) (hi : (P.info? ty).map (·.size) = some cells.size)
    (hold : old.size = cells.size) (h1 : cells.all (·.oneCell') = true)
    (h : K (a.put o.dst undef) (w.setRow g cells)) : if Region.wanted o (yielded ops a.tmps) = true then Oper.wp P o a w K Q else E := by
  rw [if_pos (by simp [Region.wanted, hgd])]
  exact wp_store_row ty x y ho g cells hx hy t old hg hi hold h1 h
theorem results_cell_tmp {P : Program} {fn : Func} {tmps : Array Value} {w : World} {a u : Nat} {t : TypeId} {v : Value} {p : Addr} (h : fn.results = #[.cell a t, .tmp u]) (ha : tmps.getD a undef = .pointer (some p)) (hl : (loadVar t p).run P w = .ok v w) : (results fn tmps).run P w = .ok (.tuple #[v, tmps.getD u undef]) w := by
  unfold results
  rw [h]
  have ha' : tmps[a]?.getD undef = .pointer (some p) := by simpa using ha
  simp [ha', hl, asAddr]
theorem range_row {w : World} {g k o : Nat} {cs : List Value} (cells : Array Value) (h : w.rangeAt g o cs) (hn : g ≠ k) : (w.setRow k cells).rangeAt g o cs := fun j v hj => (cell_setRow_other w k cells ⟨g, o + j, none⟩ hn).trans (h j v hj)
theorem idxOf_first {hs : List (List UInt8)} {h : List UInt8} {i : Nat} (hi : hs[i]? = some h) (hb : ∀ j, j < i → hs[j]? ≠ some h) : hs.idxOf h = i := by
  induction hs generalizing i with
  | nil => simp at hi
  | cons a t ih =>
    rcases i with _ | i
    · simp at hi; subst hi; simp
    · have h0 := hb 0 (by omega)
      have hne : a ≠ h := by intro e; apply h0; simp [e]
      have hbe : (a == h) = false := by simpa using hne
      rw [List.idxOf_cons, hbe, ih (by simpa using hi) (fun j hj => by simpa using hb (j + 1) (by omega))]
      rfl
theorem not_in {hs : List (List UInt8)} {h : List UInt8} (hb : ∀ j, j < hs.length → hs[j]? ≠ some h) : h ∉ hs := by
  intro hm
  obtain ⟨j, hj, e⟩ := List.getElem_of_mem hm
  exact hb j hj (by rw [List.getElem?_eq_getElem hj, e])
theorem own_block_ge2 {w : World} {base n c size : Nat} {A : Option Addr} {xs : List Value} {e : TypeId} (h : w.ownsRow base e size (.slice A n c) n xs) : ∀ k, (Value.slice A n c).ownBlock = some k → base ≤ k := by
  intro k hk
  rcases h.2 with ⟨e1, _⟩ | ⟨g, cap, cur, e1, hb, _⟩
  · rw [e1] at hk; simp [Value.ownBlock] at hk
  · rw [e1] at hk; simp [Value.ownBlock] at hk; omega
theorem infoT : (Try.prog.info? 124).map (fun i => (i.zero, i.size, i.bytes)) = some (some (.agg #[.int .u8 0, .slice none 0 0]), 2, 32) := by kernel_rfl
theorem trC_one (q : Nat × Nat × Nat) : ∀ u ∈ trC q, u.oneCell' = true := by
  intro u hu
  simp [trC] at hu
  rcases hu with rfl | rfl <;> rfl
theorem trCs_one (Qs : List (Nat × Nat × Nat)) : ∀ u ∈ Qs.flatMap trC, u.oneCell' = true := by
  intro u hu
  obtain ⟨q, _, hq⟩ := List.mem_flatMap.1 hu
  exact trC_one q u hq
set_option maxRecDepth 20000 in
set_option maxHeartbeats 4000000 in
theorem refName_ (A : Option Addr) (n c : Nat) (dr : Int) (qb qo qc : Nat) (hs : List (List UInt8)) (h : List UInt8) (w : World) (ok : Nat → Prop) (hok : ∀ b, ok b → b < w.heap.size) (hv : VtP w ok A n hs) (ho : OneP w ok qb qo h) (hn : n ≤ 1000000) (hnc : n ≤ c) :
    Calls Try.prog 60 #[.agg #[.slice A n c, .int .i64 dr], .agg #[.int .u8 104, .slice (some ⟨qb, qo, none⟩) 1 qc]] w fun e w' => ∃ A' n' c' D dc, e = .returned (.tuple #[.agg #[.slice A' n' c', .int .i64 dr], .slice D 32 dc]) ∧ n' ≤ c' ∧ VtP w' (fun b => ok b ∨ w.heap.size ≤ b ∧ b < w'.heap.size) A' n' (note hs h) ∧ OwnS w' w.heap.size D 32 dc ((hname (hs.idxOf h + 1)).map B8) ∧ Below w.heap.size w w' := by
  obtain ⟨W, hW⟩ : ∃ W, Hid (W = ((w.alloc (.cells #[.slice A n c, .int .i64 dr] 33)).alloc (.cells #[.int .u8 104, .slice (some ⟨qb, qo, none⟩) 1 qc] 124)).alloc (.cells #[.slice none 0 0, .int .i64 0] 33)) := ⟨_, Lib.hid rfl⟩
  obtain ⟨G, hG⟩ : ∃ g, Hid (g = w.heap.size) := ⟨_, Lib.hid rfl⟩
  have hs1 : (w.alloc (.cells #[.slice A n c, .int .i64 dr] 33)).heap.size = w.heap.size + 1 := szAlloc _ _
  have hs2 : ((w.alloc (.cells #[.slice A n c, .int .i64 dr] 33)).alloc (.cells #[.int .u8 104, .slice (some ⟨qb, qo, none⟩) 1 qc] 124)).heap.size = w.heap.size + 2 := by rw [szAlloc, hs1]
  have BW : Hid (Below w.heap.size w W) := by rw [hW.out]; exact (((Below.refl _ _).alloc (Nat.le_refl _) _).alloc (by rw [hs1]; omega) _).alloc (by rw [hs2]; omega) _
  have R0 : Hid (W.rangeAt G 0 [.slice A n c, .int .i64 dr]) := by rw [hW.out, hG.out]; exact fun j v hj => (World.cell?_alloc_lt _ _ _ (by rw [hs2]; show w.heap.size < _; omega)).trans ((World.cell?_alloc_lt _ _ _ (by rw [hs1]; exact Nat.lt_succ_self _)).trans (rangeNew w _ _ j v hj))
  have R1 : Hid (W.rangeAt (G + 1) 0 [.int .u8 104, .slice (some ⟨qb, qo, none⟩) 1 qc]) := by rw [hW.out, hG.out, ← hs1]; exact fun j v hj => (World.cell?_alloc_lt _ _ _ (by rw [hs2, hs1]; exact Nat.lt_succ_self _)).trans (rangeNew _ _ _ j v hj)
  have R2 : Hid (W.heap[G + 2]? = some (.cells #[.slice none 0 0, .int .i64 0] 33 (0, 0))) := by
    unfold Hid
    rw [hW.out, hG.out, ← hs2]
    exact heap_alloc_new _ _
  have hGs : Hid (G + 2 < W.heap.size) := lt_of_blk R2.out
  have HOK := Lib.hid hok
  have HV := Lib.hid ((hv.l hok).to BW.out)
  have HV0 := Lib.hid hv
  have HO := Lib.hid ((ho.one hok).to BW.out)
  have HO0 := Lib.hid ho
  have hlen : Hid (hs.length = n) := by obtain ⟨_, _, h2, _⟩ := hv; exact h2
  have c00 := R0.out 0 _ rfl
  rw [hW.out, hG.out] at c00
  clear hv ho hok hs1 hs2
  go_enter Try.func60, Try.ntmps60
  go_wp2_with fail
  rw [← hW.out, ← hG.out]
  clear c00
  go_loopw [6] (fun x6 wr => ∃ i : Nat, x6 = .int .i64 i ∧ i ≤ n ∧ Hid (∀ j, j < i → hs[j]? ≠ some h) ∧ Hid (Below W.heap.size W wr)) (fun x6 _ => n - (intOf x6).toNat)
  case atStart => exact ⟨0, rfl, by omega, fun j hj => absurd hj (by omega), Below.refl _ _⟩
  case round =>
    obtain ⟨i, rfl, hi, hib, hb⟩ := hrel
    have r0 := range_keep R0.out hb.out (by have := hGs.out; omega)
    have r1 := range_keep R1.out hb.out (by have := hGs.out; omega)
    have hGr : Hid (G + 2 < wr.heap.size) := Nat.lt_of_lt_of_le hGs.out hb.out.size
    have c00 := r0 0 _ rfl
    by_cases hin : i < n
    · have hin' : (i : Int) < (n : Int) := by omega
      have hi0 : (0 : Int) ≤ (i : Int) := by omega
      obtain ⟨hx, hhx⟩ : ∃ x, hs[i]? = some x := ⟨_, List.getElem?_eq_getElem (by rw [hlen.out]; exact hin)⟩
      obtain ⟨b, o, qb2, qo2, qc2, rfl, hbb, hrb, hone⟩ := (HV.out.to hb.out).at_ hhx
      have HRB := Lib.hid hrb
      have HBB := Lib.hid hbb
      have HONE := Lib.hid hone
      have e8 : IntKind.i64.wrap ((i : Int) + 1) = ((i + 1 : Nat) : Int) := by rw [IntWalk.i64_in _ (by omega)]; omega
      obtain ⟨bo, hbo⟩ : ∃ b, Hid (decide (hx = h) = b) := ⟨_, Lib.hid rfl⟩
      clear hrb hbb hone
      go_wp2_with fail
      obtain ⟨X, hX⟩ : ∃ W, Hid (W = wr.drew) := ⟨_, Lib.hid rfl⟩
      have dX : Below wr.heap.size wr X := by rw [hX.out]; exact below_drew (Below.refl _ _)
      have X0 := range_keep r0 dX (by have := hGr.out; omega)
      have X1 := range_keep r1 dX (by have := hGr.out; omega)
      have X2 : X.rangeAt b (o + i * 2) [.int .u8 104, .slice (some ⟨qb2, qo2, none⟩) 1 qc2] := fun j v hj => (World.cell?_of_block (a := ⟨b, o + i * 2 + j, none⟩) (dX.block b HBB.out)).trans (HRB.out j v hj)
      have BX := Lib.hid (hb.out.trans (dX.mono hb.out.size))
      have hGX : Hid (G + 2 < X.heap.size) := Nat.lt_of_lt_of_le hGr.out dX.size
      have hbX : Hid (b < X.heap.size) := Nat.lt_of_lt_of_le HBB.out dX.size
      have O1 := Lib.hid (HONE.out.to dX)
      have O2 := Lib.hid (HO.out.to BX.out)
      have SX : X.rangeAt G 0 [.slice (some ⟨b, o, none⟩) n c, .int .i64 dr] ∧ X.rangeAt (G + 1) 0 [.int .u8 104, .slice (some ⟨qb, qo, none⟩) 1 qc] ∧ X.rangeAt b (o + i * 2) [.int .u8 104, .slice (some ⟨qb2, qo2, none⟩) 1 qc2] := ⟨X0, X1, X2⟩
      clear c00
      refine wp_region_noPanic ?_
      refine wp_region_held_drew (S := fun w' => w'.rangeAt G 0 [.slice (some ⟨b, o, none⟩) n c, .int .i64 dr] ∧ w'.rangeAt (G + 1) 0 [.int .u8 104, .slice (some ⟨qb, qo, none⟩) 1 qc] ∧ w'.rangeAt b (o + i * 2) [.int .u8 104, .slice (some ⟨qb2, qo2, none⟩) 1 qc2]) (by kernel_rfl) (by rw [← hX.out]; exact SX) (fun hS => ?_)
      rw [← hX.out]
      clear hS
      have hS : X.rangeAt G 0 [.slice (some ⟨b, o, none⟩) n c, .int .i64 dr] ∧ X.rangeAt (G + 1) 0 [.int .u8 104, .slice (some ⟨qb, qo, none⟩) 1 qc] ∧ X.rangeAt b (o + i * 2) [.int .u8 104, .slice (some ⟨qb2, qo2, none⟩) 1 qc2] := SX
      refine wpAnyH_take (i := 0) (v := ?va0) rfl (by kernel_rfl) (by kernel_rfl) (by kernel_rfl) (fun _ _ _ h => h) (Or.inl ⟨by rfl, ?hya0⟩) hS ?resta0
      case hya0 => (intro w' hSw; go_simp; first | done | with_reducible rfl)
      try simp only [Act.put, List.getElem_toArray, List.getElem_cons_zero, List.getElem_cons_succ, List.setIfInBounds_toArray, List.set_cons_zero, List.set_cons_succ]
      refine wpAnyH_take (i := 1) (v := .slice (some ⟨b, o, none⟩) n c) rfl (by kernel_rfl) (by kernel_rfl) (by kernel_rfl) (fun _ _ _ h => h) (Or.inl ⟨by rfl, ?hya1⟩) hS ?resta1
      case hya1 => (intro w' hSw; have c0 := hSw.1 0 _ rfl; go_simp; first | done | with_reducible rfl)
      try simp only [Act.put, List.getElem_toArray, List.getElem_cons_zero, List.getElem_cons_succ, List.setIfInBounds_toArray, List.set_cons_zero, List.set_cons_succ]
      refine wpAnyH_take (i := 2) (v := ?va2) rfl (by kernel_rfl) (by kernel_rfl) (by kernel_rfl) (fun _ _ _ h => h) (Or.inl ⟨by rfl, ?hya2⟩) hS ?resta2
      case hya2 => (intro w' hSw; go_simp; first | done | with_reducible rfl)
      try simp only [Act.put, List.getElem_toArray, List.getElem_cons_zero, List.getElem_cons_succ, List.setIfInBounds_toArray, List.set_cons_zero, List.set_cons_succ]
      refine wpAnyH_take (i := 3) (v := .pointer (some ⟨b, o + i * 2, none⟩)) rfl (by kernel_rfl) (by kernel_rfl) (by kernel_rfl) (fun _ _ _ h => h) (Or.inl ⟨by rfl, ?hya3⟩) hS ?resta3
      case hya3 => (intro w' hSw; have h1 := hi0; have h2 := hin'; have h3 := hin; go_simp; first | done | with_reducible rfl)
      try simp only [Act.put, List.getElem_toArray, List.getElem_cons_zero, List.getElem_cons_succ, List.setIfInBounds_toArray, List.set_cons_zero, List.set_cons_succ]
      refine wpAnyH_take (i := 4) (v := .agg #[.int .u8 104, .slice (some ⟨qb2, qo2, none⟩) 1 qc2]) rfl (by kernel_rfl) (by kernel_rfl) (by kernel_rfl) (fun _ _ _ h => h) (Or.inl ⟨by rfl, ?hya4⟩) hS ?resta4
      case hya4 => (intro w' hSw; have c0 : w'.cell? ⟨b, o + i * 2, none⟩ = some (.int .u8 104) := hSw.2.2 0 _ rfl; have c1 : w'.cell? ⟨b, o + i * 2 + 1, none⟩ = some (.slice (some ⟨qb2, qo2, none⟩) 1 qc2) := hSw.2.2 1 _ rfl; go_simp; first | done | with_reducible rfl)
      try simp only [Act.put, List.getElem_toArray, List.getElem_cons_zero, List.getElem_cons_succ, List.setIfInBounds_toArray, List.set_cons_zero, List.set_cons_succ]
      refine wpAnyH_take (i := 5) (v := .agg #[.int .u8 104, .slice (some ⟨qb, qo, none⟩) 1 qc]) rfl (by kernel_rfl) (by kernel_rfl) (by kernel_rfl) (fun _ _ _ h => h) (Or.inl ⟨by rfl, ?hya5⟩) hS ?resta5
      case hya5 => (intro w' hSw; have c0 := hSw.2.1 0 _ rfl; have c1 := hSw.2.1 1 _ rfl; go_simp; first | done | with_reducible rfl)
      try simp only [Act.put, List.getElem_toArray, List.getElem_cons_zero, List.getElem_cons_succ, List.setIfInBounds_toArray, List.set_cons_zero, List.set_cons_succ]
      refine wpAnyH_ready (rs := [6]) (by kernel_rfl) (by simp) ?_
      refine AllReadyH.cons rfl (fun K hK => ?_) AllReadyH.nil
      go_simp
      refine (same_ qb2 qo2 qc2 qb qo qc hx h X O1.out O2.out).mono ?_
      rintro e y ⟨he, by1⟩
      rw [hbo.out] at he
      subst he
      have SY : y.rangeAt G 0 [.slice (some ⟨b, o, none⟩) n c, .int .i64 dr] ∧ y.rangeAt (G + 1) 0 [.int .u8 104, .slice (some ⟨qb, qo, none⟩) 1 qc] ∧ y.rangeAt b (o + i * 2) [.int .u8 104, .slice (some ⟨qb2, qo2, none⟩) 1 qc2] := ⟨range_keep X0 by1 (by have := hGX.out; omega), range_keep X1 by1 (by have := hGX.out; omega), fun j v hj => (World.cell?_of_block (a := ⟨b, o + i * 2 + j, none⟩) (by1.block b hbX.out)).trans (X2 j v hj)⟩
      have BYy := Lib.hid (BX.out.trans (by1.mono BX.out.size))
      have hGy : Hid (G + 2 < y.heap.size) := Nat.lt_of_lt_of_le hGX.out by1.size
      clear by1
      go_wp2_with fail
      refine hK.out _ _ SY ?_
      intro hS
      clear hK K hS
      try simp only [Act.put, List.getElem_toArray, List.getElem_cons_zero, List.getElem_cons_succ, List.setIfInBounds_toArray, List.set_cons_zero, List.set_cons_succ]
      refine wpAnyH_done (by kernel_rfl) (NoPanic.normal ?_) _
      cases bo
      · go_wp2_with fail
        go_roundw
        case rel => exact ⟨i + 1, by go_num, hin, fun j hj => by
          rcases Nat.lt_or_ge j i with h1 | h1
          · exact hib.out j h1
          · obtain rfl : j = i := by omega
            rw [hhx]
            intro e; injection e with e; exact of_decide_eq_false hbo.out e, BYy⟩
        case measure => simp only [intOf]; omega
      · go_wp2_with fail
        obtain ⟨Z, hZ⟩ : ∃ W, Hid (W = y.drew) := ⟨_, Lib.hid rfl⟩
        have dZ : Below y.heap.size y Z := by rw [hZ.out]; exact below_drew (Below.refl _ _)
        have Z0 := range_keep SY.1 dZ (by have := hGy.out; omega)
        have Z1 := range_keep SY.2.1 dZ (by have := hGy.out; omega)
        have BZ := Lib.hid (BYy.out.trans (dZ.mono BYy.out.size))
        have hGz : Hid (G + 2 < Z.heap.size) := Nat.lt_of_lt_of_le hGy.out dZ.size
        have SZ : Z.rangeAt G 0 [.slice (some ⟨b, o, none⟩) n c, .int .i64 dr] ∧ Z.rangeAt (G + 1) 0 [.int .u8 104, .slice (some ⟨qb, qo, none⟩) 1 qc] := ⟨Z0, Z1⟩
        refine wp_region_noPanic ?_
        refine wp_region_held_drew (S := fun w' => w'.rangeAt G 0 [.slice (some ⟨b, o, none⟩) n c, .int .i64 dr] ∧ w'.rangeAt (G + 1) 0 [.int .u8 104, .slice (some ⟨qb, qo, none⟩) 1 qc]) (by kernel_rfl) (by rw [← hZ.out]; exact SZ) (fun hS => ?_)
        rw [← hZ.out]
        clear hS
        have hS : Z.rangeAt G 0 [.slice (some ⟨b, o, none⟩) n c, .int .i64 dr] ∧ Z.rangeAt (G + 1) 0 [.int .u8 104, .slice (some ⟨qb, qo, none⟩) 1 qc] := SZ
        refine wpAnyH_take (i := 0) (v := .agg #[.slice (some ⟨b, o, none⟩) n c, .int .i64 dr]) rfl (by kernel_rfl) (by kernel_rfl) (by kernel_rfl) (fun _ _ _ h => h) (Or.inl ⟨by rfl, ?hyb0⟩) hS ?restb0
        case hyb0 => (intro w' hSw; have c0 := hSw.1 0 _ rfl; have c1 := hSw.1 1 _ rfl; go_simp; first | done | with_reducible rfl)
        try simp only [Act.put, List.getElem_toArray, List.getElem_cons_zero, List.getElem_cons_succ, List.setIfInBounds_toArray, List.set_cons_zero, List.set_cons_succ]
        refine wpAnyH_take (i := 1) (v := .agg #[.int .u8 104, .slice (some ⟨qb, qo, none⟩) 1 qc]) rfl (by kernel_rfl) (by kernel_rfl) (by kernel_rfl) (fun _ _ _ h => h) (Or.inl ⟨by rfl, ?hyb1⟩) hS ?restb1
        case hyb1 => (intro w' hSw; have c0 := hSw.2 0 _ rfl; have c1 := hSw.2 1 _ rfl; go_simp; first | done | with_reducible rfl)
        try simp only [Act.put, List.getElem_toArray, List.getElem_cons_zero, List.getElem_cons_succ, List.setIfInBounds_toArray, List.set_cons_zero, List.set_cons_succ]
        refine wpAnyH_take (i := 2) (v := ?vb2) rfl (by kernel_rfl) (by kernel_rfl) (by kernel_rfl) (fun _ _ _ h => h) (Or.inl ⟨by rfl, ?hyb2⟩) hS ?restb2
        case hyb2 => (intro w' hSw; go_simp; first | done | with_reducible rfl)
        try simp only [Act.put, List.getElem_toArray, List.getElem_cons_zero, List.getElem_cons_succ, List.setIfInBounds_toArray, List.set_cons_zero, List.set_cons_succ]
        refine wpAnyH_take (i := 3) (v := .int .i64 ((i + 1 : Nat) : Int)) rfl (by kernel_rfl) (by kernel_rfl) (by kernel_rfl) (fun _ _ _ h => h) (Or.inl ⟨by rfl, ?hyb3⟩) hS ?restb3
        case hyb3 => (intro w' hSw; have h := e8; go_simp; first | done | with_reducible rfl)
        try simp only [Act.put, List.getElem_toArray, List.getElem_cons_zero, List.getElem_cons_succ, List.setIfInBounds_toArray, List.set_cons_zero, List.set_cons_succ]
        refine wpAnyH_ready (rs := [4]) (by kernel_rfl) (by simp) ?_
        refine AllReadyH.cons rfl (fun K hK => ?_) AllReadyH.nil
        go_simp
        refine (refCalled_ (some ⟨qb, qo, none⟩) 1 qc (i + 1) Z (by omega)).mono ?_
        rintro e t ⟨D, dc, rfl, o5, b5⟩
        have S1 : t.rangeAt G 0 [.slice (some ⟨b, o, none⟩) n c, .int .i64 dr] ∧ t.rangeAt (G + 1) 0 [.int .u8 104, .slice (some ⟨qb, qo, none⟩) 1 qc] := ⟨range_keep Z0 b5 (by have := hGz.out; omega), range_keep Z1 b5 (by have := hGz.out; omega)⟩
        have Bt := Lib.hid (BZ.out.trans (b5.mono BZ.out.size))
        have O5 := Lib.hid o5
        have hGt : Hid (t.heap[G + 2]? = some (.cells #[.slice none 0 0, .int .i64 0] 33 (0, 0))) := (Bt.out.block (G + 2) hGs.out).trans R2.out
        clear o5 b5
        go_wp2_with fail
        refine hK.out _ _ S1 ?_
        intro hS
        clear hK K hS
        try simp only [Act.put, List.getElem_toArray, List.getElem_cons_zero, List.getElem_cons_succ, List.setIfInBounds_toArray, List.set_cons_zero, List.set_cons_succ]
        have hS := S1
        refine wpAnyH_ready (rs := [5]) (by kernel_rfl) (by simp) ?_
        refine AllReadyH.cons rfl (fun K hK => ?_) AllReadyH.nil
        refine step_store_row 33 (.tmp 4) (.tmp 22) rfl rfl (G + 2) #[.slice (some ⟨b, o, none⟩) n c, .int .i64 dr] rfl rfl _ _ hGt.out (by kernel_rfl) rfl (by kernel_rfl) ?_
        have S2 : (t.setRow (G + 2) #[.slice (some ⟨b, o, none⟩) n c, .int .i64 dr]).rangeAt G 0 [.slice (some ⟨b, o, none⟩) n c, .int .i64 dr] ∧ (t.setRow (G + 2) #[.slice (some ⟨b, o, none⟩) n c, .int .i64 dr]).rangeAt (G + 1) 0 [.int .u8 104, .slice (some ⟨qb, qo, none⟩) 1 qc] := ⟨range_row _ S1.1 (by omega), range_row _ S1.2 (by omega)⟩
        refine hK.out _ _ S2 ?_
        intro hS
        clear hK K hS
        try simp only [Act.put, List.getElem_toArray, List.getElem_cons_zero, List.getElem_cons_succ, List.setIfInBounds_toArray, List.set_cons_zero, List.set_cons_succ]
        have hS := S2
        refine wpAnyH_take (i := 6) (v := ?vb6) rfl (by kernel_rfl) (by kernel_rfl) (by kernel_rfl) (fun _ _ _ h => h) (Or.inl ⟨by rfl, ?hyb6⟩) hS ?restb6
        case hyb6 => (intro w' hSw; go_simp; first | done | with_reducible rfl)
        try simp only [Act.put, List.getElem_toArray, List.getElem_cons_zero, List.getElem_cons_succ, List.setIfInBounds_toArray, List.set_cons_zero, List.set_cons_succ]
        refine wpAnyH_done (by kernel_rfl) (NoPanic.normal ?_) _
        go_wp2_with fail
        generalize hQ : World.setRow _ _ _ = Qz
        have hQg : Qz.heap[G + 2]? = some (.cells #[.slice (some ⟨b, o, none⟩) n c, .int .i64 dr] 33 (0, 0)) := by rw [← hQ]; exact setRow_heap _ _ _ _ _ _ hGt.out
        have hQb : Below w.heap.size w Qz := by rw [← hQ]; exact below_setRow (BW.out.trans (Bt.out.mono BW.out.size)) (by have := hG.out; omega) _
        have hOq : OwnS Qz w.heap.size D 32 dc ((hname (i + 1)).map B8) := by
          rw [← hQ]
          refine (O5.out.same fun b' o' e' _ => setRow_other _ _ _ _ ?_).mono (Nat.le_trans BW.out.size BZ.out.size)
          obtain ⟨b2, o2, e2, hb2, _⟩ := O5.out.mem (by have := O5.out.le; omega)
          rw [e'] at e2; injection e2 with e2; injection e2 with e3
          have := hGz.out; omega
        have hnt : note hs h = hs := if_pos (List.mem_of_getElem? (i := i) (by rw [hhx, of_decide_eq_true hbo.out]))
        have hix : hs.idxOf h = i := idxOf_first (by rw [hhx, of_decide_eq_true hbo.out]) hib.out
        refine bodyPost_ret (v := .tuple #[.agg #[.slice (some ⟨b, o, none⟩) n c, .int .i64 dr], .slice D 32 dc]) ?_ rfl ?_
        · exact results_cell_tmp Try.results60 rfl (run_loadVar_mid (P := Try.prog) Qz (G + 2) 0 33 _ _ (range_of hQg) Try.underlying33 rfl (by kernel_rfl))
        · refine ⟨_, n, c, D, dc, rfl, hnc, ?_, ?_, hQb⟩
          · rw [hnt]; exact HV0.out.same (fun b hb => hQb.block b (HOK.out b hb)) (fun b hb => Or.inl hb)
          · rw [hix]; exact hOq
    · have hin' : ¬ (i : Int) < (n : Int) := by omega
      have hni : h ∉ hs := not_in (fun j hj => hib.out j (by rw [hlen.out] at hj; omega))
      have hnt : Hid (note hs h = hs ++ [h]) := if_neg hni
      have hix : Hid (hs.idxOf h + 1 = n + 1) := by unfold Hid; rw [List.idxOf_eq_length hni, hlen.out]
      go_wp2_with fail
      obtain ⟨X, hX⟩ : ∃ W, Hid (W = wr.drew) := ⟨_, Lib.hid rfl⟩
      have dX : Below wr.heap.size wr X := by rw [hX.out]; exact below_drew (Below.refl _ _)
      have X0 := range_keep r0 dX (by have := hGr.out; omega)
      have X1 := range_keep r1 dX (by have := hGr.out; omega)
      have BX := Lib.hid (hb.out.trans (dX.mono hb.out.size))
      have hGX : Hid (G + 2 < X.heap.size) := Nat.lt_of_lt_of_le hGr.out dX.size
      have SX : X.rangeAt G 0 [.slice A n c, .int .i64 dr] ∧ X.rangeAt (G + 1) 0 [.int .u8 104, .slice (some ⟨qb, qo, none⟩) 1 qc] := ⟨X0, X1⟩
      obtain ⟨Qs, hq1, hq2, hq3, hq4⟩ := HV0.out
      have HQ3 := Lib.hid ((hq3.rd HOK.out).to (BW.out.trans (BX.out.mono BW.out.size)))
      have HQ4 := Lib.hid hq4
      have HQ1 := Lib.hid hq1
      have hTq : Hid (trC (qb, qo, qc) = [.int .u8 104, .slice (some ⟨qb, qo, none⟩) 1 qc]) := rfl
      clear hq1 hq2 hq3 hq4 c00
      refine wp_region_noPanic ?_
      refine wp_region_held_drew (S := fun w' => w'.rangeAt G 0 [.slice A n c, .int .i64 dr] ∧ w'.rangeAt (G + 1) 0 [.int .u8 104, .slice (some ⟨qb, qo, none⟩) 1 qc]) (by kernel_rfl) (by rw [← hX.out]; exact SX) (fun hS => ?_)
      rw [← hX.out]
      clear hS
      have hS : X.rangeAt G 0 [.slice A n c, .int .i64 dr] ∧ X.rangeAt (G + 1) 0 [.int .u8 104, .slice (some ⟨qb, qo, none⟩) 1 qc] := SX
      refine wpAnyH_take (i := 1) (v := ?vc1) rfl (by kernel_rfl) (by kernel_rfl) (by kernel_rfl) (fun _ _ _ h => h) (Or.inl ⟨by rfl, ?hyc1⟩) hS ?restc1
      case hyc1 => (intro w' hSw; go_simp; first | done | with_reducible rfl)
      try simp only [Act.put, List.getElem_toArray, List.getElem_cons_zero, List.getElem_cons_succ, List.setIfInBounds_toArray, List.set_cons_zero, List.set_cons_succ]
      refine wpAnyH_take (i := 2) (v := .slice A n c) rfl (by kernel_rfl) (by kernel_rfl) (by kernel_rfl) (fun _ _ _ h => h) (Or.inl ⟨by rfl, ?hyc2⟩) hS ?restc2
      case hyc2 => (intro w' hSw; have c0 := hSw.1 0 _ rfl; go_simp; first | done | with_reducible rfl)
      try simp only [Act.put, List.getElem_toArray, List.getElem_cons_zero, List.getElem_cons_succ, List.setIfInBounds_toArray, List.set_cons_zero, List.set_cons_succ]
      refine wpAnyH_take (i := 4) (v := .agg #[.int .u8 104, .slice (some ⟨qb, qo, none⟩) 1 qc]) rfl (by kernel_rfl) (by kernel_rfl) (by kernel_rfl) (fun _ _ _ h => h) (Or.inl ⟨by rfl, ?hyc4⟩) hS ?restc4
      case hyc4 => (intro w' hSw; have c0 := hSw.2 0 _ rfl; have c1 := hSw.2 1 _ rfl; go_simp; first | done | with_reducible rfl)
      try simp only [Act.put, List.getElem_toArray, List.getElem_cons_zero, List.getElem_cons_succ, List.setIfInBounds_toArray, List.set_cons_zero, List.set_cons_succ]
      have PX : Hid (Below X.heap.size X X) := Below.refl _ _
      refine wpAnyH_ready (rs := [0, 5]) (by kernel_rfl) (by simp) ?_
      refine AllReadyH.cons rfl (fun K hK => ?_) (AllReadyH.cons rfl (fun K hK => ?_) AllReadyH.nil)
      · go_simp
        obtain ⟨U, hU⟩ : ∃ W0, Hid (W0 = X.alloc (.cells #[] 124)) := ⟨_, Lib.hid rfl⟩
        obtain ⟨q0, hq0⟩ : ∃ q, Hid (q = X.heap.size) := ⟨_, Lib.hid rfl⟩
        have PU : Hid (Below X.heap.size X U) := by rw [hU.out]; exact PX.out.alloc PX.out.size _
        have L0 : Hid (U.ownsRow X.heap.size 124 2 (.slice (some ⟨q0, 0, none⟩) 0 0) 0 []) := by rw [hU.out, hq0.out]; exact own_mono (World.ownsRow_lit X #[] 0 (Nat.le_refl _) (by simp [maxLen]) rfl) PX.out.size
        have gU : Below X.heap.size X U := by rw [hU.out]; exact (Below.refl _ _).alloc (Nat.le_refl _) _
        rw [← hU.out, ← hq0.out]
        have hq0X : Hid (X.heap.size ≤ q0) := Nat.le_of_eq hq0.out.symm
        have SU : U.rangeAt G 0 [.slice A n c, .int .i64 dr] ∧ U.rangeAt (G + 1) 0 [.int .u8 104, .slice (some ⟨qb, qo, none⟩) 1 qc] := ⟨range_keep X0 PU.out (by have := hGX.out; omega), range_keep X1 PU.out (by have := hGX.out; omega)⟩
        refine hK.out _ _ SU ?_
        intro hS
        clear hK K hS
        try simp only [Act.put, List.getElem_toArray, List.getElem_cons_zero, List.getElem_cons_succ, List.setIfInBounds_toArray, List.set_cons_zero, List.set_cons_succ]
        refine wpAnyH_ready (rs := [3, 5]) (by kernel_rfl) (by simp) ?_
        refine AllReadyH.cons rfl (fun K hK => ?_) (AllReadyH.cons rfl (fun K hK => ?_) AllReadyH.nil)
        · have hQc := Lib.hid (HQ3.out.below PU.out)
          refine step_app (.tmp 27) (.tmp 29) 31 rfl rfl X.heap.size 124 2 32 _ Try.underlying31 infoT rfl (by decide) (.slice (some ⟨q0, 0, none⟩) 0 0) 0 [] rfl L0.out X.heap.size A n c (Qs.flatMap trC) rfl hQc.out (trCs_one Qs) (by simp only [maxLen]; omega) (by omega) PU.out.size ?_
          intro A3 c3 V1 o3 g3 _
          simp only [Nat.zero_add, List.nil_append] at o3 ⊢
          have L3 := Lib.hid o3
          have G3 := Lib.hid g3
          have PV1 := Lib.hid (PU.out.trans (⟨g3.os, g3.tape, g3.output, g3.size, fun k hk => g3.block k (Nat.lt_of_lt_of_le hk PU.out.size) (fun e => by simp [Value.ownBlock] at e; have := hq0X.out; omega)⟩ : Below X.heap.size U V1))
          clear o3 g3
          have SV1 : V1.rangeAt G 0 [.slice A n c, .int .i64 dr] ∧ V1.rangeAt (G + 1) 0 [.int .u8 104, .slice (some ⟨qb, qo, none⟩) 1 qc] := ⟨range_keep X0 PV1.out (by have := hGX.out; omega), range_keep X1 PV1.out (by have := hGX.out; omega)⟩
          refine hK.out _ _ SV1 ?_
          intro hS
          clear hK K hS
          try simp only [Act.put, List.getElem_toArray, List.getElem_cons_zero, List.getElem_cons_succ, List.setIfInBounds_toArray, List.set_cons_zero, List.set_cons_succ]
          refine wpAnyH_ready (rs := [5]) (by kernel_rfl) (by simp) ?_
          refine AllReadyH.cons rfl (fun K hK => ?_) AllReadyH.nil
          go_simp
          obtain ⟨V2, hV2⟩ : ∃ W0, Hid (W0 = V1.alloc (.cells #[.int .u8 104, .slice (some ⟨qb, qo, none⟩) 1 qc] 124)) := ⟨_, Lib.hid rfl⟩
          obtain ⟨q5, hq5⟩ : ∃ q, Hid (q = V1.heap.size) := ⟨_, Lib.hid rfl⟩
          have PV2 : Hid (Below X.heap.size X V2) := by rw [hV2.out]; exact PV1.out.alloc PV1.out.size _
          have L5 : Hid (Rd V2 V2.heap.size 2 (some ⟨q5, 0, none⟩) 1 (trC (qb, qo, qc))) := by rw [hV2.out, hq5.out]; exact (two_cells V1 124 (.int .u8 104) (.slice (some ⟨qb, qo, none⟩) 1 qc)).more (by rw [szAlloc]; exact Nat.le_refl _)
          have gV2 : Below V1.heap.size V1 V2 := by rw [hV2.out]; exact (Below.refl _ _).alloc (Nat.le_refl _) _
          rw [← hV2.out, ← hq5.out]
          replace L3 := Lib.hid (own_to L3.out gV2)
          have SV2 : V2.rangeAt G 0 [.slice A n c, .int .i64 dr] ∧ V2.rangeAt (G + 1) 0 [.int .u8 104, .slice (some ⟨qb, qo, none⟩) 1 qc] := ⟨range_keep X0 PV2.out (by have := hGX.out; omega), range_keep X1 PV2.out (by have := hGX.out; omega)⟩
          refine hK.out _ _ SV2 ?_
          intro hS
          clear hK K hS
          try simp only [Act.put, List.getElem_toArray, List.getElem_cons_zero, List.getElem_cons_succ, List.setIfInBounds_toArray, List.set_cons_zero, List.set_cons_succ]
          refine wpAnyH_ready (rs := [6]) (by kernel_rfl) (by simp) ?_
          refine AllReadyH.cons rfl (fun K hK => ?_) AllReadyH.nil
          refine step_app (.tmp 30) (.tmp 32) 31 rfl rfl X.heap.size 124 2 32 _ Try.underlying31 infoT rfl (by decide) (.slice A3 n c3) n _ rfl L3.out _ (some ⟨q5, 0, none⟩) 1 1 (trC (qb, qo, qc)) rfl L5.out (trC_one _) (by simp only [maxLen]; omega) (by omega) PV2.out.size ?_
          intro A6 c6 V3 o6 g6 _
          have L6 := Lib.hid o6
          have PV3 := Lib.hid (PV2.out.trans (below_grown g6 (own_block_ge2 L3.out) PV2.out.size))
          clear o6 g6
          have SV3 : V3.rangeAt G 0 [.slice A n c, .int .i64 dr] ∧ V3.rangeAt (G + 1) 0 [.int .u8 104, .slice (some ⟨qb, qo, none⟩) 1 qc] := ⟨range_keep X0 PV3.out (by have := hGX.out; omega), range_keep X1 PV3.out (by have := hGX.out; omega)⟩
          refine hK.out _ _ SV3 ?_
          intro hS
          clear hK K hS
          try simp only [Act.put, List.getElem_toArray, List.getElem_cons_zero, List.getElem_cons_succ, List.setIfInBounds_toArray, List.set_cons_zero, List.set_cons_succ]
          have hS : V3.rangeAt G 0 [.slice A n c, .int .i64 dr] ∧ V3.rangeAt (G + 1) 0 [.int .u8 104, .slice (some ⟨qb, qo, none⟩) 1 qc] := SV3
          refine wpAnyH_take (i := 7) (v := ?vd7) rfl (by kernel_rfl) (by kernel_rfl) (by kernel_rfl) (fun _ _ _ h => h) (Or.inl ⟨by rfl, ?hyd7⟩) hS ?restd7
          case hyd7 => (intro w' hSw; go_simp; first | done | with_reducible rfl)
          try simp only [Act.put, List.getElem_toArray, List.getElem_cons_zero, List.getElem_cons_succ, List.setIfInBounds_toArray, List.set_cons_zero, List.set_cons_succ]
          refine wpAnyH_done (by kernel_rfl) (NoPanic.normal ?_) _
          go_wp2_with fail
          obtain ⟨Z, hZ⟩ : ∃ W, Hid (W = V3.drew) := ⟨_, Lib.hid rfl⟩
          have dZ : Below V3.heap.size V3 Z := by rw [hZ.out]; exact below_drew (Below.refl _ _)
          have Z0 := range_keep SV3.1 dZ (by have := hGX.out; have := PV3.out.size; omega)
          have Z1 := range_keep SV3.2 dZ (by have := hGX.out; have := PV3.out.size; omega)
          have BZ := Lib.hid ((BX.out.trans (PV3.out.mono BX.out.size)).trans (dZ.mono (Nat.le_trans BX.out.size PV3.out.size)))
          have hGz : Hid (G + 2 < Z.heap.size) := Nat.lt_of_lt_of_le hGX.out (Nat.le_trans PV3.out.size dZ.size)
          have LZ := Lib.hid (own_to L6.out dZ)
          have SZ : Z.rangeAt G 0 [.slice A n c, .int .i64 dr] ∧ Z.rangeAt (G + 1) 0 [.int .u8 104, .slice (some ⟨qb, qo, none⟩) 1 qc] := ⟨Z0, Z1⟩
          have hw1 : IntKind.i64.wrap (((n + 1 : Nat) : Int)) = ((n + 1 : Nat) : Int) := IntWalk.i64_in _ (by omega)
          refine wp_region_noPanic ?_
          refine wp_region_held_drew (S := fun w' => w'.rangeAt G 0 [.slice A n c, .int .i64 dr] ∧ w'.rangeAt (G + 1) 0 [.int .u8 104, .slice (some ⟨qb, qo, none⟩) 1 qc]) (by kernel_rfl) (by rw [← hZ.out]; exact SZ) (fun hS => ?_)
          rw [← hZ.out]
          clear hS
          have hS : Z.rangeAt G 0 [.slice A n c, .int .i64 dr] ∧ Z.rangeAt (G + 1) 0 [.int .u8 104, .slice (some ⟨qb, qo, none⟩) 1 qc] := SZ
          refine wpAnyH_take (i := 0) (v := ?ve0) rfl (by kernel_rfl) (by kernel_rfl) (by kernel_rfl) (fun _ _ _ h => h) (Or.inl ⟨by rfl, ?hye0⟩) hS ?reste0
          case hye0 => (intro w' hSw; go_simp; first | done | with_reducible rfl)
          try simp only [Act.put, List.getElem_toArray, List.getElem_cons_zero, List.getElem_cons_succ, List.setIfInBounds_toArray, List.set_cons_zero, List.set_cons_succ]
          refine wpAnyH_take (i := 1) (v := ?ve1) rfl (by kernel_rfl) (by kernel_rfl) (by kernel_rfl) (fun _ _ _ h => h) (Or.inl ⟨by rfl, ?hye1⟩) hS ?reste1
          case hye1 => (intro w' hSw; go_simp; first | done | with_reducible rfl)
          try simp only [Act.put, List.getElem_toArray, List.getElem_cons_zero, List.getElem_cons_succ, List.setIfInBounds_toArray, List.set_cons_zero, List.set_cons_succ]
          refine wpAnyH_take (i := 2) (v := .int .i64 dr) rfl (by kernel_rfl) (by kernel_rfl) (by kernel_rfl) (fun _ _ _ h => h) (Or.inl ⟨by rfl, ?hye2⟩) hS ?reste2
          case hye2 => (intro w' hSw; have c0 := hSw.1 1 _ rfl; go_simp; first | done | with_reducible rfl)
          try simp only [Act.put, List.getElem_toArray, List.getElem_cons_zero, List.getElem_cons_succ, List.setIfInBounds_toArray, List.set_cons_zero, List.set_cons_succ]
          refine wpAnyH_take (i := 3) (v := .agg #[.slice A6 (n + 1) c6, .int .i64 dr]) rfl (by kernel_rfl) (by kernel_rfl) (by kernel_rfl) (fun _ _ _ h => h) (Or.inl ⟨by rfl, ?hye3⟩) hS ?reste3
          case hye3 => (intro w' hSw; go_simp; first | done | with_reducible rfl)
          try simp only [Act.put, List.getElem_toArray, List.getElem_cons_zero, List.getElem_cons_succ, List.setIfInBounds_toArray, List.set_cons_zero, List.set_cons_succ]
          refine wpAnyH_take (i := 4) (v := .agg #[.int .u8 104, .slice (some ⟨qb, qo, none⟩) 1 qc]) rfl (by kernel_rfl) (by kernel_rfl) (by kernel_rfl) (fun _ _ _ h => h) (Or.inl ⟨by rfl, ?hye4⟩) hS ?reste4
          case hye4 => (intro w' hSw; have c0 := hSw.2 0 _ rfl; have c1 := hSw.2 1 _ rfl; go_simp; first | done | with_reducible rfl)
          try simp only [Act.put, List.getElem_toArray, List.getElem_cons_zero, List.getElem_cons_succ, List.setIfInBounds_toArray, List.set_cons_zero, List.set_cons_succ]
          refine wpAnyH_take (i := 5) (v := ?ve5) rfl (by kernel_rfl) (by kernel_rfl) (by kernel_rfl) (fun _ _ _ h => h) (Or.inl ⟨by rfl, ?hye5⟩) hS ?reste5
          case hye5 => (intro w' hSw; go_simp; first | done | with_reducible rfl)
          try simp only [Act.put, List.getElem_toArray, List.getElem_cons_zero, List.getElem_cons_succ, List.setIfInBounds_toArray, List.set_cons_zero, List.set_cons_succ]
          refine wpAnyH_take (i := 6) (v := .int .i64 ((n + 1 : Nat) : Int)) rfl (by kernel_rfl) (by kernel_rfl) (by kernel_rfl) (fun _ _ _ h => h) (Or.inl ⟨by rfl, ?hye6⟩) hS ?reste6
          case hye6 => (intro w' hSw; go_simp; first | done | with_reducible rfl)
          try simp only [Act.put, List.getElem_toArray, List.getElem_cons_zero, List.getElem_cons_succ, List.setIfInBounds_toArray, List.set_cons_zero, List.set_cons_succ]
          refine wpAnyH_ready (rs := [7]) (by kernel_rfl) (by simp) ?_
          refine AllReadyH.cons rfl (fun K hK => ?_) AllReadyH.nil
          go_simp
          refine (refCalled_ (some ⟨qb, qo, none⟩) 1 qc (n + 1) Z (by omega)).mono ?_
          rintro e t ⟨D, dc, rfl, o5, b5⟩
          have S1 : t.rangeAt G 0 [.slice A n c, .int .i64 dr] ∧ t.rangeAt (G + 1) 0 [.int .u8 104, .slice (some ⟨qb, qo, none⟩) 1 qc] := ⟨range_keep Z0 b5 (by have := hGz.out; omega), range_keep Z1 b5 (by have := hGz.out; omega)⟩
          have Bt := Lib.hid (BZ.out.trans (b5.mono BZ.out.size))
          have O5 := Lib.hid o5
          have Lt := Lib.hid (own_to LZ.out b5)
          have hGt : Hid (t.heap[G + 2]? = some (.cells #[.slice none 0 0, .int .i64 0] 33 (0, 0))) := (Bt.out.block (G + 2) hGs.out).trans R2.out
          clear o5 b5
          go_wp2_with fail
          refine hK.out _ _ S1 ?_
          intro hS
          clear hK K hS
          try simp only [Act.put, List.getElem_toArray, List.getElem_cons_zero, List.getElem_cons_succ, List.setIfInBounds_toArray, List.set_cons_zero, List.set_cons_succ]
          have hS := S1
          refine wpAnyH_ready (rs := [8]) (by kernel_rfl) (by simp) ?_
          refine AllReadyH.cons rfl (fun K hK => ?_) AllReadyH.nil
          refine step_store_row 33 (.tmp 4) (.tmp 37) rfl rfl (G + 2) #[.slice A6 (n + 1) c6, .int .i64 dr] rfl rfl _ _ hGt.out (by kernel_rfl) rfl (by kernel_rfl) ?_
          have S2 : (t.setRow (G + 2) #[.slice A6 (n + 1) c6, .int .i64 dr]).rangeAt G 0 [.slice A n c, .int .i64 dr] ∧ (t.setRow (G + 2) #[.slice A6 (n + 1) c6, .int .i64 dr]).rangeAt (G + 1) 0 [.int .u8 104, .slice (some ⟨qb, qo, none⟩) 1 qc] := ⟨range_row _ S1.1 (by omega), range_row _ S1.2 (by omega)⟩
          refine hK.out _ _ S2 ?_
          intro hS
          clear hK K hS
          try simp only [Act.put, List.getElem_toArray, List.getElem_cons_zero, List.getElem_cons_succ, List.setIfInBounds_toArray, List.set_cons_zero, List.set_cons_succ]
          have hS := S2
          refine wpAnyH_take (i := 9) (v := ?ve9) rfl (by kernel_rfl) (by kernel_rfl) (by kernel_rfl) (fun _ _ _ h => h) (Or.inl ⟨by rfl, ?hye9⟩) hS ?reste9
          case hye9 => (intro w' hSw; go_simp; first | done | with_reducible rfl)
          try simp only [Act.put, List.getElem_toArray, List.getElem_cons_zero, List.getElem_cons_succ, List.setIfInBounds_toArray, List.set_cons_zero, List.set_cons_succ]
          refine wpAnyH_done (by kernel_rfl) (NoPanic.normal ?_) _
          go_wp2_with fail
          generalize hQ : World.setRow _ _ _ = Qz
          have hQg : Qz.heap[G + 2]? = some (.cells #[.slice A6 (n + 1) c6, .int .i64 dr] 33 (0, 0)) := by rw [← hQ]; exact setRow_heap _ _ _ _ _ _ hGt.out
          have hQb : Below w.heap.size w Qz := by rw [← hQ]; exact below_setRow (BW.out.trans (Bt.out.mono BW.out.size)) (by have := hG.out; omega) _
          have hOq : OwnS Qz w.heap.size D 32 dc ((hname (n + 1)).map B8) := by
            rw [← hQ]
            refine (O5.out.same fun b' o' e' _ => setRow_other _ _ _ _ ?_).mono (Nat.le_trans BW.out.size BZ.out.size)
            obtain ⟨b2, o2, e2, hb2, _⟩ := O5.out.mem (by have := O5.out.le; omega)
            rw [e'] at e2; injection e2 with e2; injection e2 with e3
            have := hGz.out; omega
          have hLq : RdP Qz (fun b => ok b ∨ w.heap.size ≤ b ∧ b < Qz.heap.size) 2 A6 (n + 1) ((Qs ++ [(qb, qo, qc)]).flatMap trC) := by
            have h1 := Rd.of_own Lt.out
            rw [List.flatMap_append, show [(qb, qo, qc)].flatMap trC = trC (qb, qo, qc) from rfl]
            obtain ⟨g', e2, h3, h4⟩ := own_addr Lt.out (by omega)
            have h5 := h1.same (w' := Qz) (fun b' o' h0 e' => by rw [← hQ]; refine setRow_other _ _ _ _ ?_; rw [e'] at e2; injection e2 with e2; injection e2 with e3; have := hGX.out; omega)
            refine ⟨h5.1, fun h0 => ?_⟩
            obtain ⟨b', o', e', _, hc⟩ := h5.2 h0
            refine ⟨b', o', e', Or.inr ?_, hc⟩
            rw [e'] at e2; injection e2 with e2; injection e2 with e3
            rw [← hQ, setRow_size]
            have h6 := hGX.out; have h7 := hG.out; omega
          refine bodyPost_ret (v := .tuple #[.agg #[.slice A6 (n + 1) c6, .int .i64 dr], .slice D 32 dc]) ?_ rfl ?_
          · exact results_cell_tmp Try.results60 rfl (run_loadVar_mid (P := Try.prog) Qz (G + 2) 0 33 _ _ (range_of hQg) Try.underlying33 rfl (by kernel_rfl))
          · refine ⟨_, n + 1, c6, D, dc, rfl, own_cap Lt.out, ?_, ?_, hQb⟩
            · rw [hnt.out]
              refine ⟨Qs ++ [(qb, qo, qc)], by simp [HQ1.out], by simp [hlen.out], hLq, fun j q h' e1 e2 => ?_⟩
              rcases Nat.lt_or_ge j Qs.length with hj | hj
              · rw [List.getElem?_append_left hj] at e1
                rw [List.getElem?_append_left (by rw [hlen.out, ← HQ1.out]; exact hj)] at e2
                exact (HQ4.out j q h' e1 e2).same (fun b hb => hQb.block b (HOK.out b hb)) (fun b hb => Or.inl hb)
              · rw [List.getElem?_append_right hj] at e1
                rw [List.getElem?_append_right (by rw [hlen.out, ← HQ1.out]; exact hj)] at e2
                rcases hz : j - Qs.length with _ | z
                · rw [hz] at e1; rw [hlen.out, ← HQ1.out, hz] at e2
                  simp at e1 e2
                  subst e1 e2
                  exact HO0.out.same (fun b hb => hQb.block b (HOK.out b hb)) (fun b hb => Or.inl hb)
                · rw [hz] at e1; simp at e1
            · rw [hix.out]; exact hOq
        · go_simp
          obtain ⟨V1, hV1⟩ : ∃ W0, Hid (W0 = U.alloc (.cells #[.int .u8 104, .slice (some ⟨qb, qo, none⟩) 1 qc] 124)) := ⟨_, Lib.hid rfl⟩
          obtain ⟨q5, hq5⟩ : ∃ q, Hid (q = U.heap.size) := ⟨_, Lib.hid rfl⟩
          have PV1 : Hid (Below X.heap.size X V1) := by rw [hV1.out]; exact PU.out.alloc PU.out.size _
          have L5 : Hid (Rd V1 V1.heap.size 2 (some ⟨q5, 0, none⟩) 1 (trC (qb, qo, qc))) := by rw [hV1.out, hq5.out]; exact (two_cells U 124 (.int .u8 104) (.slice (some ⟨qb, qo, none⟩) 1 qc)).more (by rw [szAlloc]; exact Nat.le_refl _)
          have gV1 : Below U.heap.size U V1 := by rw [hV1.out]; exact (Below.refl _ _).alloc (Nat.le_refl _) _
          rw [← hV1.out, ← hq5.out]
          replace L0 := Lib.hid (own_to L0.out gV1)
          have hq5c : Hid (q5 < V1.heap.size) := by unfold Hid; rw [hq5.out, hV1.out, szAlloc]; exact Nat.lt_succ_self _
          have hq05 : Hid (¬ q5 = q0) := by unfold Hid; have h1 := hq5.out; have h2 := hq0.out; have h3 : U.heap.size = X.heap.size + 1 := (by rw [hU.out, szAlloc]); omega
          have SV1 : V1.rangeAt G 0 [.slice A n c, .int .i64 dr] ∧ V1.rangeAt (G + 1) 0 [.int .u8 104, .slice (some ⟨qb, qo, none⟩) 1 qc] := ⟨range_keep X0 PV1.out (by have := hGX.out; omega), range_keep X1 PV1.out (by have := hGX.out; omega)⟩
          refine hK.out _ _ SV1 ?_
          intro hS
          clear hK K hS
          try simp only [Act.put, List.getElem_toArray, List.getElem_cons_zero, List.getElem_cons_succ, List.setIfInBounds_toArray, List.set_cons_zero, List.set_cons_succ]
          refine wpAnyH_ready (rs := [3]) (by kernel_rfl) (by simp) ?_
          refine AllReadyH.cons rfl (fun K hK => ?_) AllReadyH.nil
          have hQc := Lib.hid (HQ3.out.below PV1.out)
          refine step_app (.tmp 27) (.tmp 29) 31 rfl rfl X.heap.size 124 2 32 _ Try.underlying31 infoT rfl (by decide) (.slice (some ⟨q0, 0, none⟩) 0 0) 0 [] rfl L0.out X.heap.size A n c (Qs.flatMap trC) rfl hQc.out (trCs_one Qs) (by simp only [maxLen]; omega) (by omega) PV1.out.size ?_
          intro A3 c3 V2 o3 g3 _
          simp only [Nat.zero_add, List.nil_append] at o3 ⊢
          have L3 := Lib.hid o3
          have G3 := Lib.hid g3
          have PV2 := Lib.hid (PV1.out.trans (⟨g3.os, g3.tape, g3.output, g3.size, fun k hk => g3.block k (Nat.lt_of_lt_of_le hk PV1.out.size) (fun e => by simp [Value.ownBlock] at e; have := hq0X.out; omega)⟩ : Below X.heap.size V1 V2))
          clear o3 g3
          replace L5 := Lib.hid ((L5.out.same (fun b' o' _ e' => G3.out.block b' (by injection e' with e'; injection e' with e1; rw [← e1]; exact hq5c.out) (by simp [Value.ownBlock]; injection e' with e'; injection e' with e1; rw [← e1]; exact hq05.out))).more G3.out.size)
          have SV2 : V2.rangeAt G 0 [.slice A n c, .int .i64 dr] ∧ V2.rangeAt (G + 1) 0 [.int .u8 104, .slice (some ⟨qb, qo, none⟩) 1 qc] := ⟨range_keep X0 PV2.out (by have := hGX.out; omega), range_keep X1 PV2.out (by have := hGX.out; omega)⟩
          refine hK.out _ _ SV2 ?_
          intro hS
          clear hK K hS
          try simp only [Act.put, List.getElem_toArray, List.getElem_cons_zero, List.getElem_cons_succ, List.setIfInBounds_toArray, List.set_cons_zero, List.set_cons_succ]
          refine wpAnyH_ready (rs := [6]) (by kernel_rfl) (by simp) ?_
          refine AllReadyH.cons rfl (fun K hK => ?_) AllReadyH.nil
          refine step_app (.tmp 30) (.tmp 32) 31 rfl rfl X.heap.size 124 2 32 _ Try.underlying31 infoT rfl (by decide) (.slice A3 n c3) n _ rfl L3.out _ (some ⟨q5, 0, none⟩) 1 1 (trC (qb, qo, qc)) rfl L5.out (trC_one _) (by simp only [maxLen]; omega) (by omega) PV2.out.size ?_
          intro A6 c6 V3 o6 g6 _
          have L6 := Lib.hid o6
          have PV3 := Lib.hid (PV2.out.trans (below_grown g6 (own_block_ge2 L3.out) PV2.out.size))
          clear o6 g6
          have SV3 : V3.rangeAt G 0 [.slice A n c, .int .i64 dr] ∧ V3.rangeAt (G + 1) 0 [.int .u8 104, .slice (some ⟨qb, qo, none⟩) 1 qc] := ⟨range_keep X0 PV3.out (by have := hGX.out; omega), range_keep X1 PV3.out (by have := hGX.out; omega)⟩
          refine hK.out _ _ SV3 ?_
          intro hS
          clear hK K hS
          try simp only [Act.put, List.getElem_toArray, List.getElem_cons_zero, List.getElem_cons_succ, List.setIfInBounds_toArray, List.set_cons_zero, List.set_cons_succ]
          have hS : V3.rangeAt G 0 [.slice A n c, .int .i64 dr] ∧ V3.rangeAt (G + 1) 0 [.int .u8 104, .slice (some ⟨qb, qo, none⟩) 1 qc] := SV3
          refine wpAnyH_take (i := 7) (v := ?vf7) rfl (by kernel_rfl) (by kernel_rfl) (by kernel_rfl) (fun _ _ _ h => h) (Or.inl ⟨by rfl, ?hyf7⟩) hS ?restf7
          case hyf7 => (intro w' hSw; go_simp; first | done | with_reducible rfl)
          try simp only [Act.put, List.getElem_toArray, List.getElem_cons_zero, List.getElem_cons_succ, List.setIfInBounds_toArray, List.set_cons_zero, List.set_cons_succ]
          refine wpAnyH_done (by kernel_rfl) (NoPanic.normal ?_) _
          go_wp2_with fail
          obtain ⟨Z, hZ⟩ : ∃ W, Hid (W = V3.drew) := ⟨_, Lib.hid rfl⟩
          have dZ : Below V3.heap.size V3 Z := by rw [hZ.out]; exact below_drew (Below.refl _ _)
          have Z0 := range_keep SV3.1 dZ (by have := hGX.out; have := PV3.out.size; omega)
          have Z1 := range_keep SV3.2 dZ (by have := hGX.out; have := PV3.out.size; omega)
          have BZ := Lib.hid ((BX.out.trans (PV3.out.mono BX.out.size)).trans (dZ.mono (Nat.le_trans BX.out.size PV3.out.size)))
          have hGz : Hid (G + 2 < Z.heap.size) := Nat.lt_of_lt_of_le hGX.out (Nat.le_trans PV3.out.size dZ.size)
          have LZ := Lib.hid (own_to L6.out dZ)
          have SZ : Z.rangeAt G 0 [.slice A n c, .int .i64 dr] ∧ Z.rangeAt (G + 1) 0 [.int .u8 104, .slice (some ⟨qb, qo, none⟩) 1 qc] := ⟨Z0, Z1⟩
          have hw1 : IntKind.i64.wrap (((n + 1 : Nat) : Int)) = ((n + 1 : Nat) : Int) := IntWalk.i64_in _ (by omega)
          refine wp_region_noPanic ?_
          refine wp_region_held_drew (S := fun w' => w'.rangeAt G 0 [.slice A n c, .int .i64 dr] ∧ w'.rangeAt (G + 1) 0 [.int .u8 104, .slice (some ⟨qb, qo, none⟩) 1 qc]) (by kernel_rfl) (by rw [← hZ.out]; exact SZ) (fun hS => ?_)
          rw [← hZ.out]
          clear hS
          have hS : Z.rangeAt G 0 [.slice A n c, .int .i64 dr] ∧ Z.rangeAt (G + 1) 0 [.int .u8 104, .slice (some ⟨qb, qo, none⟩) 1 qc] := SZ
          refine wpAnyH_take (i := 0) (v := ?vg0) rfl (by kernel_rfl) (by kernel_rfl) (by kernel_rfl) (fun _ _ _ h => h) (Or.inl ⟨by rfl, ?hyg0⟩) hS ?restg0
          case hyg0 => (intro w' hSw; go_simp; first | done | with_reducible rfl)
          try simp only [Act.put, List.getElem_toArray, List.getElem_cons_zero, List.getElem_cons_succ, List.setIfInBounds_toArray, List.set_cons_zero, List.set_cons_succ]
          refine wpAnyH_take (i := 1) (v := ?vg1) rfl (by kernel_rfl) (by kernel_rfl) (by kernel_rfl) (fun _ _ _ h => h) (Or.inl ⟨by rfl, ?hyg1⟩) hS ?restg1
          case hyg1 => (intro w' hSw; go_simp; first | done | with_reducible rfl)
          try simp only [Act.put, List.getElem_toArray, List.getElem_cons_zero, List.getElem_cons_succ, List.setIfInBounds_toArray, List.set_cons_zero, List.set_cons_succ]
          refine wpAnyH_take (i := 2) (v := .int .i64 dr) rfl (by kernel_rfl) (by kernel_rfl) (by kernel_rfl) (fun _ _ _ h => h) (Or.inl ⟨by rfl, ?hyg2⟩) hS ?restg2
          case hyg2 => (intro w' hSw; have c0 := hSw.1 1 _ rfl; go_simp; first | done | with_reducible rfl)
          try simp only [Act.put, List.getElem_toArray, List.getElem_cons_zero, List.getElem_cons_succ, List.setIfInBounds_toArray, List.set_cons_zero, List.set_cons_succ]
          refine wpAnyH_take (i := 3) (v := .agg #[.slice A6 (n + 1) c6, .int .i64 dr]) rfl (by kernel_rfl) (by kernel_rfl) (by kernel_rfl) (fun _ _ _ h => h) (Or.inl ⟨by rfl, ?hyg3⟩) hS ?restg3
          case hyg3 => (intro w' hSw; go_simp; first | done | with_reducible rfl)
          try simp only [Act.put, List.getElem_toArray, List.getElem_cons_zero, List.getElem_cons_succ, List.setIfInBounds_toArray, List.set_cons_zero, List.set_cons_succ]
          refine wpAnyH_take (i := 4) (v := .agg #[.int .u8 104, .slice (some ⟨qb, qo, none⟩) 1 qc]) rfl (by kernel_rfl) (by kernel_rfl) (by kernel_rfl) (fun _ _ _ h => h) (Or.inl ⟨by rfl, ?hyg4⟩) hS ?restg4
          case hyg4 => (intro w' hSw; have c0 := hSw.2 0 _ rfl; have c1 := hSw.2 1 _ rfl; go_simp; first | done | with_reducible rfl)
          try simp only [Act.put, List.getElem_toArray, List.getElem_cons_zero, List.getElem_cons_succ, List.setIfInBounds_toArray, List.set_cons_zero, List.set_cons_succ]
          refine wpAnyH_take (i := 5) (v := ?vg5) rfl (by kernel_rfl) (by kernel_rfl) (by kernel_rfl) (fun _ _ _ h => h) (Or.inl ⟨by rfl, ?hyg5⟩) hS ?restg5
          case hyg5 => (intro w' hSw; go_simp; first | done | with_reducible rfl)
          try simp only [Act.put, List.getElem_toArray, List.getElem_cons_zero, List.getElem_cons_succ, List.setIfInBounds_toArray, List.set_cons_zero, List.set_cons_succ]
          refine wpAnyH_take (i := 6) (v := .int .i64 ((n + 1 : Nat) : Int)) rfl (by kernel_rfl) (by kernel_rfl) (by kernel_rfl) (fun _ _ _ h => h) (Or.inl ⟨by rfl, ?hyg6⟩) hS ?restg6
          case hyg6 => (intro w' hSw; go_simp; first | done | with_reducible rfl)
          try simp only [Act.put, List.getElem_toArray, List.getElem_cons_zero, List.getElem_cons_succ, List.setIfInBounds_toArray, List.set_cons_zero, List.set_cons_succ]
          refine wpAnyH_ready (rs := [7]) (by kernel_rfl) (by simp) ?_
          refine AllReadyH.cons rfl (fun K hK => ?_) AllReadyH.nil
          go_simp
          refine (refCalled_ (some ⟨qb, qo, none⟩) 1 qc (n + 1) Z (by omega)).mono ?_
          rintro e t ⟨D, dc, rfl, o5, b5⟩
          have S1 : t.rangeAt G 0 [.slice A n c, .int .i64 dr] ∧ t.rangeAt (G + 1) 0 [.int .u8 104, .slice (some ⟨qb, qo, none⟩) 1 qc] := ⟨range_keep Z0 b5 (by have := hGz.out; omega), range_keep Z1 b5 (by have := hGz.out; omega)⟩
          have Bt := Lib.hid (BZ.out.trans (b5.mono BZ.out.size))
          have O5 := Lib.hid o5
          have Lt := Lib.hid (own_to LZ.out b5)
          have hGt : Hid (t.heap[G + 2]? = some (.cells #[.slice none 0 0, .int .i64 0] 33 (0, 0))) := (Bt.out.block (G + 2) hGs.out).trans R2.out
          clear o5 b5
          go_wp2_with fail
          refine hK.out _ _ S1 ?_
          intro hS
          clear hK K hS
          try simp only [Act.put, List.getElem_toArray, List.getElem_cons_zero, List.getElem_cons_succ, List.setIfInBounds_toArray, List.set_cons_zero, List.set_cons_succ]
          have hS := S1
          refine wpAnyH_ready (rs := [8]) (by kernel_rfl) (by simp) ?_
          refine AllReadyH.cons rfl (fun K hK => ?_) AllReadyH.nil
          refine step_store_row 33 (.tmp 4) (.tmp 37) rfl rfl (G + 2) #[.slice A6 (n + 1) c6, .int .i64 dr] rfl rfl _ _ hGt.out (by kernel_rfl) rfl (by kernel_rfl) ?_
          have S2 : (t.setRow (G + 2) #[.slice A6 (n + 1) c6, .int .i64 dr]).rangeAt G 0 [.slice A n c, .int .i64 dr] ∧ (t.setRow (G + 2) #[.slice A6 (n + 1) c6, .int .i64 dr]).rangeAt (G + 1) 0 [.int .u8 104, .slice (some ⟨qb, qo, none⟩) 1 qc] := ⟨range_row _ S1.1 (by omega), range_row _ S1.2 (by omega)⟩
          refine hK.out _ _ S2 ?_
          intro hS
          clear hK K hS
          try simp only [Act.put, List.getElem_toArray, List.getElem_cons_zero, List.getElem_cons_succ, List.setIfInBounds_toArray, List.set_cons_zero, List.set_cons_succ]
          have hS := S2
          refine wpAnyH_take (i := 9) (v := ?vg9) rfl (by kernel_rfl) (by kernel_rfl) (by kernel_rfl) (fun _ _ _ h => h) (Or.inl ⟨by rfl, ?hyg9⟩) hS ?restg9
          case hyg9 => (intro w' hSw; go_simp; first | done | with_reducible rfl)
          try simp only [Act.put, List.getElem_toArray, List.getElem_cons_zero, List.getElem_cons_succ, List.setIfInBounds_toArray, List.set_cons_zero, List.set_cons_succ]
          refine wpAnyH_done (by kernel_rfl) (NoPanic.normal ?_) _
          go_wp2_with fail
          generalize hQ : World.setRow _ _ _ = Qz
          have hQg : Qz.heap[G + 2]? = some (.cells #[.slice A6 (n + 1) c6, .int .i64 dr] 33 (0, 0)) := by rw [← hQ]; exact setRow_heap _ _ _ _ _ _ hGt.out
          have hQb : Below w.heap.size w Qz := by rw [← hQ]; exact below_setRow (BW.out.trans (Bt.out.mono BW.out.size)) (by have := hG.out; omega) _
          have hOq : OwnS Qz w.heap.size D 32 dc ((hname (n + 1)).map B8) := by
            rw [← hQ]
            refine (O5.out.same fun b' o' e' _ => setRow_other _ _ _ _ ?_).mono (Nat.le_trans BW.out.size BZ.out.size)
            obtain ⟨b2, o2, e2, hb2, _⟩ := O5.out.mem (by have := O5.out.le; omega)
            rw [e'] at e2; injection e2 with e2; injection e2 with e3
            have := hGz.out; omega
          have hLq : RdP Qz (fun b => ok b ∨ w.heap.size ≤ b ∧ b < Qz.heap.size) 2 A6 (n + 1) ((Qs ++ [(qb, qo, qc)]).flatMap trC) := by
            have h1 := Rd.of_own Lt.out
            rw [List.flatMap_append, show [(qb, qo, qc)].flatMap trC = trC (qb, qo, qc) from rfl]
            obtain ⟨g', e2, h3, h4⟩ := own_addr Lt.out (by omega)
            have h5 := h1.same (w' := Qz) (fun b' o' h0 e' => by rw [← hQ]; refine setRow_other _ _ _ _ ?_; rw [e'] at e2; injection e2 with e2; injection e2 with e3; have := hGX.out; omega)
            refine ⟨h5.1, fun h0 => ?_⟩
            obtain ⟨b', o', e', _, hc⟩ := h5.2 h0
            refine ⟨b', o', e', Or.inr ?_, hc⟩
            rw [e'] at e2; injection e2 with e2; injection e2 with e3
            rw [← hQ, setRow_size]
            have h6 := hGX.out; have h7 := hG.out; omega
          refine bodyPost_ret (v := .tuple #[.agg #[.slice A6 (n + 1) c6, .int .i64 dr], .slice D 32 dc]) ?_ rfl ?_
          · exact results_cell_tmp Try.results60 rfl (run_loadVar_mid (P := Try.prog) Qz (G + 2) 0 33 _ _ (range_of hQg) Try.underlying33 rfl (by kernel_rfl))
          · refine ⟨_, n + 1, c6, D, dc, rfl, own_cap Lt.out, ?_, ?_, hQb⟩
            · rw [hnt.out]
              refine ⟨Qs ++ [(qb, qo, qc)], by simp [HQ1.out], by simp [hlen.out], hLq, fun j q h' e1 e2 => ?_⟩
              rcases Nat.lt_or_ge j Qs.length with hj | hj
              · rw [List.getElem?_append_left hj] at e1
                rw [List.getElem?_append_left (by rw [hlen.out, ← HQ1.out]; exact hj)] at e2
                exact (HQ4.out j q h' e1 e2).same (fun b hb => hQb.block b (HOK.out b hb)) (fun b hb => Or.inl hb)
              · rw [List.getElem?_append_right hj] at e1
                rw [List.getElem?_append_right (by rw [hlen.out, ← HQ1.out]; exact hj)] at e2
                rcases hz : j - Qs.length with _ | z
                · rw [hz] at e1; rw [hlen.out, ← HQ1.out, hz] at e2
                  simp at e1 e2
                  subst e1 e2
                  exact HO0.out.same (fun b hb => hQb.block b (HOK.out b hb)) (fun b hb => Or.inl hb)
                · rw [hz] at e1; simp at e1
            · rw [hix.out]; exact hOq
      · go_simp
        obtain ⟨U, hU⟩ : ∃ W0, Hid (W0 = X.alloc (.cells #[.int .u8 104, .slice (some ⟨qb, qo, none⟩) 1 qc] 124)) := ⟨_, Lib.hid rfl⟩
        obtain ⟨q5, hq5⟩ : ∃ q, Hid (q = X.heap.size) := ⟨_, Lib.hid rfl⟩
        have PU : Hid (Below X.heap.size X U) := by rw [hU.out]; exact PX.out.alloc PX.out.size _
        have L5 : Hid (Rd U U.heap.size 2 (some ⟨q5, 0, none⟩) 1 (trC (qb, qo, qc))) := by rw [hU.out, hq5.out]; exact (two_cells X 124 (.int .u8 104) (.slice (some ⟨qb, qo, none⟩) 1 qc)).more (by rw [szAlloc]; exact Nat.le_refl _)
        have gU : Below X.heap.size X U := by rw [hU.out]; exact (Below.refl _ _).alloc (Nat.le_refl _) _
        rw [← hU.out, ← hq5.out]
        have SU : U.rangeAt G 0 [.slice A n c, .int .i64 dr] ∧ U.rangeAt (G + 1) 0 [.int .u8 104, .slice (some ⟨qb, qo, none⟩) 1 qc] := ⟨range_keep X0 PU.out (by have := hGX.out; omega), range_keep X1 PU.out (by have := hGX.out; omega)⟩
        refine hK.out _ _ SU ?_
        intro hS
        clear hK K hS
        try simp only [Act.put, List.getElem_toArray, List.getElem_cons_zero, List.getElem_cons_succ, List.setIfInBounds_toArray, List.set_cons_zero, List.set_cons_succ]
        refine wpAnyH_ready (rs := [0]) (by kernel_rfl) (by simp) ?_
        refine AllReadyH.cons rfl (fun K hK => ?_) AllReadyH.nil
        go_simp
        obtain ⟨V1, hV1⟩ : ∃ W0, Hid (W0 = U.alloc (.cells #[] 124)) := ⟨_, Lib.hid rfl⟩
        obtain ⟨q0, hq0⟩ : ∃ q, Hid (q = U.heap.size) := ⟨_, Lib.hid rfl⟩
        have PV1 : Hid (Below X.heap.size X V1) := by rw [hV1.out]; exact PU.out.alloc PU.out.size _
        have L0 : Hid (V1.ownsRow X.heap.size 124 2 (.slice (some ⟨q0, 0, none⟩) 0 0) 0 []) := by rw [hV1.out, hq0.out]; exact own_mono (World.ownsRow_lit U #[] 0 (Nat.le_refl _) (by simp [maxLen]) rfl) PU.out.size
        have gV1 : Below U.heap.size U V1 := by rw [hV1.out]; exact (Below.refl _ _).alloc (Nat.le_refl _) _
        rw [← hV1.out, ← hq0.out]
        replace L5 := Lib.hid (L5.out.to gV1)
        have hq0X : Hid (X.heap.size ≤ q0) := by unfold Hid; rw [hq0.out]; exact PU.out.size
        have hq5c : Hid (q5 < V1.heap.size) := by unfold Hid; have h1 := hq5.out; have h2 : U.heap.size = X.heap.size + 1 := (by rw [hU.out, szAlloc]); have h3 := gV1.size; omega
        have hq05 : Hid (¬ q5 = q0) := by unfold Hid; have h1 := hq5.out; have h2 := hq0.out; have h3 : U.heap.size = X.heap.size + 1 := (by rw [hU.out, szAlloc]); omega
        have SV1 : V1.rangeAt G 0 [.slice A n c, .int .i64 dr] ∧ V1.rangeAt (G + 1) 0 [.int .u8 104, .slice (some ⟨qb, qo, none⟩) 1 qc] := ⟨range_keep X0 PV1.out (by have := hGX.out; omega), range_keep X1 PV1.out (by have := hGX.out; omega)⟩
        refine hK.out _ _ SV1 ?_
        intro hS
        clear hK K hS
        try simp only [Act.put, List.getElem_toArray, List.getElem_cons_zero, List.getElem_cons_succ, List.setIfInBounds_toArray, List.set_cons_zero, List.set_cons_succ]
        refine wpAnyH_ready (rs := [3]) (by kernel_rfl) (by simp) ?_
        refine AllReadyH.cons rfl (fun K hK => ?_) AllReadyH.nil
        have hQc := Lib.hid (HQ3.out.below PV1.out)
        refine step_app (.tmp 27) (.tmp 29) 31 rfl rfl X.heap.size 124 2 32 _ Try.underlying31 infoT rfl (by decide) (.slice (some ⟨q0, 0, none⟩) 0 0) 0 [] rfl L0.out X.heap.size A n c (Qs.flatMap trC) rfl hQc.out (trCs_one Qs) (by simp only [maxLen]; omega) (by omega) PV1.out.size ?_
        intro A3 c3 V2 o3 g3 _
        simp only [Nat.zero_add, List.nil_append] at o3 ⊢
        have L3 := Lib.hid o3
        have G3 := Lib.hid g3
        have PV2 := Lib.hid (PV1.out.trans (⟨g3.os, g3.tape, g3.output, g3.size, fun k hk => g3.block k (Nat.lt_of_lt_of_le hk PV1.out.size) (fun e => by simp [Value.ownBlock] at e; have := hq0X.out; omega)⟩ : Below X.heap.size V1 V2))
        clear o3 g3
        replace L5 := Lib.hid ((L5.out.same (fun b' o' _ e' => G3.out.block b' (by injection e' with e'; injection e' with e1; rw [← e1]; exact hq5c.out) (by simp [Value.ownBlock]; injection e' with e'; injection e' with e1; rw [← e1]; exact hq05.out))).more G3.out.size)
        have SV2 : V2.rangeAt G 0 [.slice A n c, .int .i64 dr] ∧ V2.rangeAt (G + 1) 0 [.int .u8 104, .slice (some ⟨qb, qo, none⟩) 1 qc] := ⟨range_keep X0 PV2.out (by have := hGX.out; omega), range_keep X1 PV2.out (by have := hGX.out; omega)⟩
        refine hK.out _ _ SV2 ?_
        intro hS
        clear hK K hS
        try simp only [Act.put, List.getElem_toArray, List.getElem_cons_zero, List.getElem_cons_succ, List.setIfInBounds_toArray, List.set_cons_zero, List.set_cons_succ]
        refine wpAnyH_ready (rs := [6]) (by kernel_rfl) (by simp) ?_
        refine AllReadyH.cons rfl (fun K hK => ?_) AllReadyH.nil
        refine step_app (.tmp 30) (.tmp 32) 31 rfl rfl X.heap.size 124 2 32 _ Try.underlying31 infoT rfl (by decide) (.slice A3 n c3) n _ rfl L3.out _ (some ⟨q5, 0, none⟩) 1 1 (trC (qb, qo, qc)) rfl L5.out (trC_one _) (by simp only [maxLen]; omega) (by omega) PV2.out.size ?_
        intro A6 c6 V3 o6 g6 _
        have L6 := Lib.hid o6
        have PV3 := Lib.hid (PV2.out.trans (below_grown g6 (own_block_ge2 L3.out) PV2.out.size))
        clear o6 g6
        have SV3 : V3.rangeAt G 0 [.slice A n c, .int .i64 dr] ∧ V3.rangeAt (G + 1) 0 [.int .u8 104, .slice (some ⟨qb, qo, none⟩) 1 qc] := ⟨range_keep X0 PV3.out (by have := hGX.out; omega), range_keep X1 PV3.out (by have := hGX.out; omega)⟩
        refine hK.out _ _ SV3 ?_
        intro hS
        clear hK K hS
        try simp only [Act.put, List.getElem_toArray, List.getElem_cons_zero, List.getElem_cons_succ, List.setIfInBounds_toArray, List.set_cons_zero, List.set_cons_succ]
        have hS : V3.rangeAt G 0 [.slice A n c, .int .i64 dr] ∧ V3.rangeAt (G + 1) 0 [.int .u8 104, .slice (some ⟨qb, qo, none⟩) 1 qc] := SV3
        refine wpAnyH_take (i := 7) (v := ?vh7) rfl (by kernel_rfl) (by kernel_rfl) (by kernel_rfl) (fun _ _ _ h => h) (Or.inl ⟨by rfl, ?hyh7⟩) hS ?resth7
        case hyh7 => (intro w' hSw; go_simp; first | done | with_reducible rfl)
        try simp only [Act.put, List.getElem_toArray, List.getElem_cons_zero, List.getElem_cons_succ, List.setIfInBounds_toArray, List.set_cons_zero, List.set_cons_succ]
        refine wpAnyH_done (by kernel_rfl) (NoPanic.normal ?_) _
        go_wp2_with fail
        obtain ⟨Z, hZ⟩ : ∃ W, Hid (W = V3.drew) := ⟨_, Lib.hid rfl⟩
        have dZ : Below V3.heap.size V3 Z := by rw [hZ.out]; exact below_drew (Below.refl _ _)
        have Z0 := range_keep SV3.1 dZ (by have := hGX.out; have := PV3.out.size; omega)
        have Z1 := range_keep SV3.2 dZ (by have := hGX.out; have := PV3.out.size; omega)
        have BZ := Lib.hid ((BX.out.trans (PV3.out.mono BX.out.size)).trans (dZ.mono (Nat.le_trans BX.out.size PV3.out.size)))
        have hGz : Hid (G + 2 < Z.heap.size) := Nat.lt_of_lt_of_le hGX.out (Nat.le_trans PV3.out.size dZ.size)
        have LZ := Lib.hid (own_to L6.out dZ)
        have SZ : Z.rangeAt G 0 [.slice A n c, .int .i64 dr] ∧ Z.rangeAt (G + 1) 0 [.int .u8 104, .slice (some ⟨qb, qo, none⟩) 1 qc] := ⟨Z0, Z1⟩
        have hw1 : IntKind.i64.wrap (((n + 1 : Nat) : Int)) = ((n + 1 : Nat) : Int) := IntWalk.i64_in _ (by omega)
        refine wp_region_noPanic ?_
        refine wp_region_held_drew (S := fun w' => w'.rangeAt G 0 [.slice A n c, .int .i64 dr] ∧ w'.rangeAt (G + 1) 0 [.int .u8 104, .slice (some ⟨qb, qo, none⟩) 1 qc]) (by kernel_rfl) (by rw [← hZ.out]; exact SZ) (fun hS => ?_)
        rw [← hZ.out]
        clear hS
        have hS : Z.rangeAt G 0 [.slice A n c, .int .i64 dr] ∧ Z.rangeAt (G + 1) 0 [.int .u8 104, .slice (some ⟨qb, qo, none⟩) 1 qc] := SZ
        refine wpAnyH_take (i := 0) (v := ?vi0) rfl (by kernel_rfl) (by kernel_rfl) (by kernel_rfl) (fun _ _ _ h => h) (Or.inl ⟨by rfl, ?hyi0⟩) hS ?resti0
        case hyi0 => (intro w' hSw; go_simp; first | done | with_reducible rfl)
        try simp only [Act.put, List.getElem_toArray, List.getElem_cons_zero, List.getElem_cons_succ, List.setIfInBounds_toArray, List.set_cons_zero, List.set_cons_succ]
        refine wpAnyH_take (i := 1) (v := ?vi1) rfl (by kernel_rfl) (by kernel_rfl) (by kernel_rfl) (fun _ _ _ h => h) (Or.inl ⟨by rfl, ?hyi1⟩) hS ?resti1
        case hyi1 => (intro w' hSw; go_simp; first | done | with_reducible rfl)
        try simp only [Act.put, List.getElem_toArray, List.getElem_cons_zero, List.getElem_cons_succ, List.setIfInBounds_toArray, List.set_cons_zero, List.set_cons_succ]
        refine wpAnyH_take (i := 2) (v := .int .i64 dr) rfl (by kernel_rfl) (by kernel_rfl) (by kernel_rfl) (fun _ _ _ h => h) (Or.inl ⟨by rfl, ?hyi2⟩) hS ?resti2
        case hyi2 => (intro w' hSw; have c0 := hSw.1 1 _ rfl; go_simp; first | done | with_reducible rfl)
        try simp only [Act.put, List.getElem_toArray, List.getElem_cons_zero, List.getElem_cons_succ, List.setIfInBounds_toArray, List.set_cons_zero, List.set_cons_succ]
        refine wpAnyH_take (i := 3) (v := .agg #[.slice A6 (n + 1) c6, .int .i64 dr]) rfl (by kernel_rfl) (by kernel_rfl) (by kernel_rfl) (fun _ _ _ h => h) (Or.inl ⟨by rfl, ?hyi3⟩) hS ?resti3
        case hyi3 => (intro w' hSw; go_simp; first | done | with_reducible rfl)
        try simp only [Act.put, List.getElem_toArray, List.getElem_cons_zero, List.getElem_cons_succ, List.setIfInBounds_toArray, List.set_cons_zero, List.set_cons_succ]
        refine wpAnyH_take (i := 4) (v := .agg #[.int .u8 104, .slice (some ⟨qb, qo, none⟩) 1 qc]) rfl (by kernel_rfl) (by kernel_rfl) (by kernel_rfl) (fun _ _ _ h => h) (Or.inl ⟨by rfl, ?hyi4⟩) hS ?resti4
        case hyi4 => (intro w' hSw; have c0 := hSw.2 0 _ rfl; have c1 := hSw.2 1 _ rfl; go_simp; first | done | with_reducible rfl)
        try simp only [Act.put, List.getElem_toArray, List.getElem_cons_zero, List.getElem_cons_succ, List.setIfInBounds_toArray, List.set_cons_zero, List.set_cons_succ]
        refine wpAnyH_take (i := 5) (v := ?vi5) rfl (by kernel_rfl) (by kernel_rfl) (by kernel_rfl) (fun _ _ _ h => h) (Or.inl ⟨by rfl, ?hyi5⟩) hS ?resti5
        case hyi5 => (intro w' hSw; go_simp; first | done | with_reducible rfl)
        try simp only [Act.put, List.getElem_toArray, List.getElem_cons_zero, List.getElem_cons_succ, List.setIfInBounds_toArray, List.set_cons_zero, List.set_cons_succ]
        refine wpAnyH_take (i := 6) (v := .int .i64 ((n + 1 : Nat) : Int)) rfl (by kernel_rfl) (by kernel_rfl) (by kernel_rfl) (fun _ _ _ h => h) (Or.inl ⟨by rfl, ?hyi6⟩) hS ?resti6
        case hyi6 => (intro w' hSw; go_simp; first | done | with_reducible rfl)
        try simp only [Act.put, List.getElem_toArray, List.getElem_cons_zero, List.getElem_cons_succ, List.setIfInBounds_toArray, List.set_cons_zero, List.set_cons_succ]
        refine wpAnyH_ready (rs := [7]) (by kernel_rfl) (by simp) ?_
        refine AllReadyH.cons rfl (fun K hK => ?_) AllReadyH.nil
        go_simp
        refine (refCalled_ (some ⟨qb, qo, none⟩) 1 qc (n + 1) Z (by omega)).mono ?_
        rintro e t ⟨D, dc, rfl, o5, b5⟩
        have S1 : t.rangeAt G 0 [.slice A n c, .int .i64 dr] ∧ t.rangeAt (G + 1) 0 [.int .u8 104, .slice (some ⟨qb, qo, none⟩) 1 qc] := ⟨range_keep Z0 b5 (by have := hGz.out; omega), range_keep Z1 b5 (by have := hGz.out; omega)⟩
        have Bt := Lib.hid (BZ.out.trans (b5.mono BZ.out.size))
        have O5 := Lib.hid o5
        have Lt := Lib.hid (own_to LZ.out b5)
        have hGt : Hid (t.heap[G + 2]? = some (.cells #[.slice none 0 0, .int .i64 0] 33 (0, 0))) := (Bt.out.block (G + 2) hGs.out).trans R2.out
        clear o5 b5
        go_wp2_with fail
        refine hK.out _ _ S1 ?_
        intro hS
        clear hK K hS
        try simp only [Act.put, List.getElem_toArray, List.getElem_cons_zero, List.getElem_cons_succ, List.setIfInBounds_toArray, List.set_cons_zero, List.set_cons_succ]
        have hS := S1
        refine wpAnyH_ready (rs := [8]) (by kernel_rfl) (by simp) ?_
        refine AllReadyH.cons rfl (fun K hK => ?_) AllReadyH.nil
        refine step_store_row 33 (.tmp 4) (.tmp 37) rfl rfl (G + 2) #[.slice A6 (n + 1) c6, .int .i64 dr] rfl rfl _ _ hGt.out (by kernel_rfl) rfl (by kernel_rfl) ?_
        have S2 : (t.setRow (G + 2) #[.slice A6 (n + 1) c6, .int .i64 dr]).rangeAt G 0 [.slice A n c, .int .i64 dr] ∧ (t.setRow (G + 2) #[.slice A6 (n + 1) c6, .int .i64 dr]).rangeAt (G + 1) 0 [.int .u8 104, .slice (some ⟨qb, qo, none⟩) 1 qc] := ⟨range_row _ S1.1 (by omega), range_row _ S1.2 (by omega)⟩
        refine hK.out _ _ S2 ?_
        intro hS
        clear hK K hS
        try simp only [Act.put, List.getElem_toArray, List.getElem_cons_zero, List.getElem_cons_succ, List.setIfInBounds_toArray, List.set_cons_zero, List.set_cons_succ]
        have hS := S2
        refine wpAnyH_take (i := 9) (v := ?vi9) rfl (by kernel_rfl) (by kernel_rfl) (by kernel_rfl) (fun _ _ _ h => h) (Or.inl ⟨by rfl, ?hyi9⟩) hS ?resti9
        case hyi9 => (intro w' hSw; go_simp; first | done | with_reducible rfl)
        try simp only [Act.put, List.getElem_toArray, List.getElem_cons_zero, List.getElem_cons_succ, List.setIfInBounds_toArray, List.set_cons_zero, List.set_cons_succ]
        refine wpAnyH_done (by kernel_rfl) (NoPanic.normal ?_) _
        go_wp2_with fail
        generalize hQ : World.setRow _ _ _ = Qz
        have hQg : Qz.heap[G + 2]? = some (.cells #[.slice A6 (n + 1) c6, .int .i64 dr] 33 (0, 0)) := by rw [← hQ]; exact setRow_heap _ _ _ _ _ _ hGt.out
        have hQb : Below w.heap.size w Qz := by rw [← hQ]; exact below_setRow (BW.out.trans (Bt.out.mono BW.out.size)) (by have := hG.out; omega) _
        have hOq : OwnS Qz w.heap.size D 32 dc ((hname (n + 1)).map B8) := by
          rw [← hQ]
          refine (O5.out.same fun b' o' e' _ => setRow_other _ _ _ _ ?_).mono (Nat.le_trans BW.out.size BZ.out.size)
          obtain ⟨b2, o2, e2, hb2, _⟩ := O5.out.mem (by have := O5.out.le; omega)
          rw [e'] at e2; injection e2 with e2; injection e2 with e3
          have := hGz.out; omega
        have hLq : RdP Qz (fun b => ok b ∨ w.heap.size ≤ b ∧ b < Qz.heap.size) 2 A6 (n + 1) ((Qs ++ [(qb, qo, qc)]).flatMap trC) := by
          have h1 := Rd.of_own Lt.out
          rw [List.flatMap_append, show [(qb, qo, qc)].flatMap trC = trC (qb, qo, qc) from rfl]
          obtain ⟨g', e2, h3, h4⟩ := own_addr Lt.out (by omega)
          have h5 := h1.same (w' := Qz) (fun b' o' h0 e' => by rw [← hQ]; refine setRow_other _ _ _ _ ?_; rw [e'] at e2; injection e2 with e2; injection e2 with e3; have := hGX.out; omega)
          refine ⟨h5.1, fun h0 => ?_⟩
          obtain ⟨b', o', e', _, hc⟩ := h5.2 h0
          refine ⟨b', o', e', Or.inr ?_, hc⟩
          rw [e'] at e2; injection e2 with e2; injection e2 with e3
          rw [← hQ, setRow_size]
          have h6 := hGX.out; have h7 := hG.out; omega
        refine bodyPost_ret (v := .tuple #[.agg #[.slice A6 (n + 1) c6, .int .i64 dr], .slice D 32 dc]) ?_ rfl ?_
        · exact results_cell_tmp Try.results60 rfl (run_loadVar_mid (P := Try.prog) Qz (G + 2) 0 33 _ _ (range_of hQg) Try.underlying33 rfl (by kernel_rfl))
        · refine ⟨_, n + 1, c6, D, dc, rfl, own_cap Lt.out, ?_, ?_, hQb⟩
          · rw [hnt.out]
            refine ⟨Qs ++ [(qb, qo, qc)], by simp [HQ1.out], by simp [hlen.out], hLq, fun j q h' e1 e2 => ?_⟩
            rcases Nat.lt_or_ge j Qs.length with hj | hj
            · rw [List.getElem?_append_left hj] at e1
              rw [List.getElem?_append_left (by rw [hlen.out, ← HQ1.out]; exact hj)] at e2
              exact (HQ4.out j q h' e1 e2).same (fun b hb => hQb.block b (HOK.out b hb)) (fun b hb => Or.inl hb)
            · rw [List.getElem?_append_right hj] at e1
              rw [List.getElem?_append_right (by rw [hlen.out, ← HQ1.out]; exact hj)] at e2
              rcases hz : j - Qs.length with _ | z
              · rw [hz] at e1; rw [hlen.out, ← HQ1.out, hz] at e2
                simp at e1 e2
                subst e1 e2
                exact HO0.out.same (fun b hb => hQb.block b (HOK.out b hb)) (fun b hb => Or.inl hb)
              · rw [hz] at e1; simp at e1
          · rw [hix.out]; exact hOq
end Go.Proofs.Ytabcbpcfleociaa

/- The document's Hash. (Printed by gen_vac.py.) -/
namespace Go.Proofs.Ytabcbpcfleociaa
open Go.RowKit
attribute [local go_sem ↓] Go.wp_at_zero Go.wp_at_succ
set_option linter.unusedSimpArgs false
set_option linter.unusedVariables false
set_option maxRecDepth 4000 in
set_option maxHeartbeats 1000000 in
theorem refHash_ (A : Option Addr) (n c : Nat) (dr : Int) (B : Option Addr) (m d : Nat) (hs : List (List UInt8)) (h : List UInt8) (w : World) (hv : VtL w w.heap.size A n hs) (hr : Rd w w.heap.size 1 B m (h.map B8)) (hn : n ≤ 1000000) (hnc : n ≤ c) :
    Calls Try.prog 29 #[.agg #[.slice A n c, .int .i64 dr], .slice B m d] w fun e w' => ∃ A' n' c' D dc, e = .returned (.tuple #[.agg #[.slice A' n' c', .int .i64 dr], .slice D 32 dc]) ∧ n' ≤ c' ∧ VtL w' w'.heap.size A' n' (note hs h) ∧ OwnS w' w.heap.size D 32 dc ((hname (hs.idxOf h + 1)).map B8) ∧ Below w.heap.size w w' := by
  have hm : h.length = m := by simpa using hr.len
  obtain ⟨W, hW⟩ : ∃ W, Hid (W = ((w.alloc (.cells #[.slice A n c, .int .i64 dr] 33)).alloc (.cells #[.slice none 0 0, .int .i64 0] 33)).alloc (.cells #[.slice B m d] 38)) := ⟨_, Lib.hid rfl⟩
  obtain ⟨G, hG⟩ : ∃ g, Hid (g = w.heap.size) := ⟨_, Lib.hid rfl⟩
  have hs1 : (w.alloc (.cells #[.slice A n c, .int .i64 dr] 33)).heap.size = w.heap.size + 1 := szAlloc _ _
  have hs2 : ((w.alloc (.cells #[.slice A n c, .int .i64 dr] 33)).alloc (.cells #[.slice none 0 0, .int .i64 0] 33)).heap.size = w.heap.size + 2 := by rw [szAlloc, hs1]
  have BW : Hid (Below w.heap.size w W) := by rw [hW.out]; exact (((Below.refl _ _).alloc (Nat.le_refl _) _).alloc (by rw [hs1]; omega) _).alloc (by rw [hs2]; omega) _
  have R1 : Hid (W.heap[G + 1]? = some (.cells #[.slice none 0 0, .int .i64 0] 33 (0, 0))) := by
    unfold Hid
    rw [hW.out, hG.out, heap_alloc_old _ _ (by rw [hs2]; omega), ← hs1]
    exact heap_alloc_new _ _
  have hGs : Hid (G + 1 < W.heap.size) := lt_of_blk R1.out
  have hWs : Hid (W.heap.size = G + 3) := by unfold Hid; rw [hW.out, szAlloc, hs2, hG.out]
  have HV : Hid (VtP W (fun b => b < G ∨ b = G + 2) A n hs) := hv.p.same (fun b hb => BW.out.block b hb) (fun b hb => Or.inl (by rw [hG.out]; exact hb))
  have HO : Hid (OneP W (fun b => b < G ∨ b = G + 2) (G + 2) 0 h) := by
    refine ⟨Or.inr rfl, B, d, ?_, ?_⟩
    · rw [hW.out, hG.out, ← hs2, hm]; exact cell_blk (heap_alloc_new _ _) 0 rfl
    · rw [hm]; exact RdP.same (ok := fun b => b < w.heap.size) hr (fun b hb => BW.out.block b hb) (fun b hb => Or.inl (by rw [hG.out]; exact hb))
  clear hv hr hs1 hs2
  go_enter Try.func29, Try.ntmps29
  go_wp2_with fail
  rw [← hW.out, ← hG.out]
  refine (refName_ A n c dr (G + 2) 0 1 hs h W (fun b => b < G ∨ b = G + 2) (fun b hb => by have := hWs.out; omega) HV.out HO.out hn hnc).mono ?_
  rintro e t ⟨A', n', c', D, dc, rfl, q1, q2, q3, q4⟩
  have Q1 := Lib.hid q1
  have Q2 := Lib.hid q2
  have Q3 := Lib.hid q3
  have Bt := Lib.hid q4
  have Rt : Hid (t.heap[G + 1]? = some (.cells #[.slice none 0 0, .int .i64 0] 33 (0, 0))) := (q4.block (G + 1) hGs.out).trans R1.out
  clear q1 q2 q3 q4
  go_wp2_with (refine wpList_store_row rfl 33 (.tmp 4) (.tmp 11) rfl (G + 1) #[.slice A' n' c', .int .i64 dr] rfl rfl _ _ Rt.out (by kernel_rfl) rfl (by kernel_rfl) ?_)
  generalize hQ : World.setRow _ _ _ = Qz
  have hQg : Qz.heap[G + 1]? = some (.cells #[.slice A' n' c', .int .i64 dr] 33 (0, 0)) := by rw [← hQ]; exact setRow_heap _ _ _ _ _ _ Rt.out
  have hQb : Below w.heap.size w Qz := by rw [← hQ]; exact below_setRow (BW.out.trans (Bt.out.mono BW.out.size)) (by have := hG.out; omega) _
  go_wp2_with fail
  refine bodyPost_ret (v := .tuple #[.agg #[.slice A' n' c', .int .i64 dr], .slice D 32 dc]) ?_ rfl ?_
  · exact results_cell_tmp Try.results29 rfl (run_loadVar_mid (P := Try.prog) Qz (G + 1) 0 33 _ _ (range_of hQg) Try.underlying33 rfl (by kernel_rfl))
  · refine ⟨A', n', c', D, dc, rfl, Q1.out, ?_, ?_, hQb⟩
    · refine (Q2.out.same (w' := Qz) (ok' := fun b => b < Qz.heap.size) (fun b hb => ?_) (fun b hb => ?_)).l (fun b hb => hb)
      · rw [← hQ]; exact setRow_other _ _ _ _ (by have := hWs.out; omega)
      · rw [← hQ, setRow_size]; have := hWs.out; have := Bt.out.size; omega
    · rw [← hQ]
      refine (Q3.out.same fun b' o' e' _ => setRow_other _ _ _ _ ?_).mono BW.out.size
      obtain ⟨b2, o2, e2, hb2, _⟩ := Q3.out.mem (by have := Q3.out.le; omega)
      rw [e'] at e2; injection e2 with e2; injection e2 with e3
      have := hGs.out; omega
end Go.Proofs.Ytabcbpcfleociaa

/- The document's vault, clear of some blocks: its Hash. -/
namespace Go.Proofs.Ytabcbpcfleociaa
open Go.RowKit
attribute [local go_sem ↓] Go.wp_at_zero Go.wp_at_succ
set_option linter.unusedSimpArgs false
set_option linter.unusedVariables false
/-- A slice of one text, in none of the blocks 'no'. -/
def OneN (no : List Nat) (w : World) (qb qo : Nat) (h : List UInt8) : Prop := qb ∉ no ∧ ∃ Ai ci, w.cell? ⟨qb, qo, none⟩ = some (.slice Ai h.length ci) ∧ RdN no w 1 Ai h.length (h.map B8)
/-- A vault's terms, in none of the blocks 'no'. -/
def VtN (no : List Nat) (w : World) (A : Option Addr) (n : Nat) (hs : List (List UInt8)) : Prop := ∃ Qs : List (Nat × Nat × Nat), Qs.length = n ∧ hs.length = n ∧ RdN no w 2 A n (Qs.flatMap trC) ∧ ∀ (i : Nat) (q : Nat × Nat × Nat) (h : List UInt8), Qs[i]? = some q → hs[i]? = some h → OneN no w q.1 q.2.1 h
theorem OneN.fr {no no' own own' : List Nat} {w w' : World} {qb qo : Nat} {h : List UInt8} (H : OneN no w qb qo h) (hf : Fr own w w' own') (hs : ∀ k, k ∈ own → k ∈ no) (h2 : ∀ k, k ∈ no' → k ∈ no ∨ w.heap.size ≤ k) : OneN no' w' qb qo h := by
  obtain ⟨h1, A, c, hc, hr⟩ := H
  have hl : qb < w.heap.size := World.block_lt_of_cell? _ _ hc
  refine ⟨fun hm => ?_, A, c, (World.cell?_of_block (a := ⟨qb, qo, none⟩) (hf.block qb hl (fun hm => h1 (hs qb hm)))).trans hc, hr.fr hf hs h2⟩
  rcases h2 qb hm with h3 | h3
  · exact h1 h3
  · omega
theorem VtN.fr {no no' own own' : List Nat} {w w' : World} {n : Nat} {A : Option Addr} {hs : List (List UInt8)} (H : VtN no w A n hs) (hf : Fr own w w' own') (h1 : ∀ k, k ∈ own → k ∈ no) (h2 : ∀ k, k ∈ no' → k ∈ no ∨ w.heap.size ≤ k) : VtN no' w' A n hs := by
  obtain ⟨Qs, e1, e2, e3, e4⟩ := H
  exact ⟨Qs, e1, e2, e3.fr hf h1 h2, fun i q h hq hh => (e4 i q h hq hh).fr hf h1 h2⟩
theorem VtN.below {no : List Nat} {w w' : World} {n : Nat} {A : Option Addr} {hs : List (List UInt8)} (H : VtN no w A n hs) (hb : Below w.heap.size w w') : VtN no w' A n hs :=
  H.fr (own := []) (Fr.below hb) (fun _ h => absurd h (by simp)) (fun _ h => Or.inl h)
theorem VtN.nil (no : List Nat) (w : World) (A : Option Addr) : VtN no w A 0 [] := ⟨[], rfl, rfl, RdN.nil _ _ _, fun i q h hi => by simp at hi⟩
theorem RdN.p {no : List Nat} {w : World} {size n : Nat} {A : Option Addr} {xs : List Value} (h : RdN no w size A n xs) : RdP w (fun b => b ∉ no ∧ b < w.heap.size) size A n xs :=
  ⟨h.1.1, fun h0 => by obtain ⟨b, o, e, hb, hc⟩ := h.1.2 h0; exact ⟨b, o, e, ⟨h.2 b o h0 e, hb⟩, hc⟩⟩
theorem RdP.n {ok : Nat → Prop} {no : List Nat} {w : World} {size n : Nat} {A : Option Addr} {xs : List Value} (h : RdP w ok size A n xs) (h1 : ∀ b, ok b → b ∉ no ∧ b < w.heap.size) : RdN no w size A n xs :=
  ⟨⟨h.1, fun h0 => by obtain ⟨b, o, e, hb, hc⟩ := h.2 h0; exact ⟨b, o, e, (h1 b hb).2, hc⟩⟩, fun b o h0 e => by obtain ⟨b', o', e', hb, _⟩ := h.2 h0; rw [e] at e'; injection e' with e'; injection e' with e1; subst e1; exact (h1 _ hb).1⟩
theorem VtN.p {no : List Nat} {w : World} {n : Nat} {A : Option Addr} {hs : List (List UInt8)} (H : VtN no w A n hs) : VtP w (fun b => b ∉ no ∧ b < w.heap.size) A n hs := by
  obtain ⟨Qs, e1, e2, e3, e4⟩ := H
  refine ⟨Qs, e1, e2, e3.p, fun i q h hq hh => ?_⟩
  obtain ⟨h1, A', c, hc, hr⟩ := e4 i q h hq hh
  exact ⟨⟨h1, World.block_lt_of_cell? _ _ hc⟩, A', c, hc, hr.p⟩
theorem VtP.n {ok : Nat → Prop} {no : List Nat} {w : World} {n : Nat} {A : Option Addr} {hs : List (List UInt8)} (H : VtP w ok A n hs) (h1 : ∀ b, ok b → b ∉ no ∧ b < w.heap.size) : VtN no w A n hs := by
  obtain ⟨Qs, e1, e2, e3, e4⟩ := H
  refine ⟨Qs, e1, e2, e3.n h1, fun i q h hq hh => ?_⟩
  obtain ⟨h2, A', c, hc, hr⟩ := e4 i q h hq hh
  exact ⟨(h1 _ h2).1, A', c, hc, hr.n h1⟩
set_option maxRecDepth 4000 in
set_option maxHeartbeats 1000000 in
theorem refHashN_ (A : Option Addr) (n c : Nat) (dr : Int) (B : Option Addr) (m d : Nat) (hs : List (List UInt8)) (h : List UInt8) (no : List Nat) (w : World) (hv : VtN no w A n hs) (hr : RdN no w 1 B m (h.map B8)) (hn : n ≤ 1000000) (hnc : n ≤ c) (hno : ∀ k, k ∈ no → k < w.heap.size) :
    Calls Try.prog 29 #[.agg #[.slice A n c, .int .i64 dr], .slice B m d] w fun e w' => ∃ A' n' c' D dc, e = .returned (.tuple #[.agg #[.slice A' n' c', .int .i64 dr], .slice D 32 dc]) ∧ n' ≤ c' ∧ VtN no w' A' n' (note hs h) ∧ OwnS w' w.heap.size D 32 dc ((hname (hs.idxOf h + 1)).map B8) ∧ Below w.heap.size w w' := by
  have hm : h.length = m := by simpa using hr.1.len
  obtain ⟨W, hW⟩ : ∃ W, Hid (W = ((w.alloc (.cells #[.slice A n c, .int .i64 dr] 33)).alloc (.cells #[.slice none 0 0, .int .i64 0] 33)).alloc (.cells #[.slice B m d] 38)) := ⟨_, Lib.hid rfl⟩
  obtain ⟨G, hG⟩ : ∃ g, Hid (g = w.heap.size) := ⟨_, Lib.hid rfl⟩
  have hs1 : (w.alloc (.cells #[.slice A n c, .int .i64 dr] 33)).heap.size = w.heap.size + 1 := szAlloc _ _
  have hs2 : ((w.alloc (.cells #[.slice A n c, .int .i64 dr] 33)).alloc (.cells #[.slice none 0 0, .int .i64 0] 33)).heap.size = w.heap.size + 2 := by rw [szAlloc, hs1]
  have BW : Hid (Below w.heap.size w W) := by rw [hW.out]; exact (((Below.refl _ _).alloc (Nat.le_refl _) _).alloc (by rw [hs1]; omega) _).alloc (by rw [hs2]; omega) _
  have R1 : Hid (W.heap[G + 1]? = some (.cells #[.slice none 0 0, .int .i64 0] 33 (0, 0))) := by
    unfold Hid
    rw [hW.out, hG.out, heap_alloc_old _ _ (by rw [hs2]; omega), ← hs1]
    exact heap_alloc_new _ _
  have hGs : Hid (G + 1 < W.heap.size) := lt_of_blk R1.out
  have hWs : Hid (W.heap.size = G + 3) := by unfold Hid; rw [hW.out, szAlloc, hs2, hG.out]
  have hnoG : Hid (∀ k, k ∈ no → k < G) := by rw [hG.out]; exact hno
  have HV : Hid (VtP W (fun b => (b ∉ no ∧ b < G) ∨ b = G + 2) A n hs) := hv.p.same (fun b hb => BW.out.block b hb.2) (fun b hb => Or.inl ⟨hb.1, by rw [hG.out]; exact hb.2⟩)
  have HO : Hid (OneP W (fun b => (b ∉ no ∧ b < G) ∨ b = G + 2) (G + 2) 0 h) := by
    refine ⟨Or.inr rfl, B, d, ?_, ?_⟩
    · rw [hW.out, hG.out, ← hs2, hm]; exact cell_blk (heap_alloc_new _ _) 0 rfl
    · rw [hm]; exact hr.p.same (fun b hb => BW.out.block b hb.2) (fun b hb => Or.inl ⟨hb.1, by rw [hG.out]; exact hb.2⟩)
  clear hv hr hs1 hs2 hno
  go_enter Try.func29, Try.ntmps29
  go_wp2_with fail
  rw [← hW.out, ← hG.out]
  refine (refName_ A n c dr (G + 2) 0 1 hs h W (fun b => (b ∉ no ∧ b < G) ∨ b = G + 2) (fun b hb => by have := hWs.out; omega) HV.out HO.out hn hnc).mono ?_
  rintro e t ⟨A', n', c', D, dc, rfl, q1, q2, q3, q4⟩
  have Q1 := Lib.hid q1
  have Q2 := Lib.hid q2
  have Q3 := Lib.hid q3
  have Bt := Lib.hid q4
  have Rt : Hid (t.heap[G + 1]? = some (.cells #[.slice none 0 0, .int .i64 0] 33 (0, 0))) := (q4.block (G + 1) hGs.out).trans R1.out
  clear q1 q2 q3 q4
  go_wp2_with (refine wpList_store_row rfl 33 (.tmp 4) (.tmp 11) rfl (G + 1) #[.slice A' n' c', .int .i64 dr] rfl rfl _ _ Rt.out (by kernel_rfl) rfl (by kernel_rfl) ?_)
  generalize hQ : World.setRow _ _ _ = Qz
  have hQg : Qz.heap[G + 1]? = some (.cells #[.slice A' n' c', .int .i64 dr] 33 (0, 0)) := by rw [← hQ]; exact setRow_heap _ _ _ _ _ _ Rt.out
  have hQb : Below w.heap.size w Qz := by rw [← hQ]; exact below_setRow (BW.out.trans (Bt.out.mono BW.out.size)) (by have := hG.out; omega) _
  go_wp2_with fail
  refine bodyPost_ret (v := .tuple #[.agg #[.slice A' n' c', .int .i64 dr], .slice D 32 dc]) ?_ rfl ?_
  · exact results_cell_tmp Try.results29 rfl (run_loadVar_mid (P := Try.prog) Qz (G + 1) 0 33 _ _ (range_of hQg) Try.underlying33 rfl (by kernel_rfl))
  · refine ⟨A', n', c', D, dc, rfl, Q1.out, ?_, ?_, hQb⟩
    · refine (Q2.out.same (w' := Qz) (ok' := fun b => b ∉ no ∧ b < Qz.heap.size) (fun b hb => ?_) (fun b hb => ?_)).n (fun b hb => hb)
      · rw [← hQ]; exact setRow_other _ _ _ _ (by have := hWs.out; omega)
      · rw [← hQ, setRow_size]
        have h1 := hWs.out
        have h2 := Bt.out.size
        refine ⟨fun hm => ?_, by omega⟩
        have h3 := hnoG.out b hm
        rcases hb with (⟨h4, _⟩ | h4) | h4
        · exact h4 hm
        · omega
        · omega
    · rw [← hQ]
      refine (Q3.out.same fun b' o' e' _ => setRow_other _ _ _ _ ?_).mono BW.out.size
      obtain ⟨b2, o2, e2, hb2, _⟩ := Q3.out.mem (by have := Q3.out.le; omega)
      rw [e'] at e2; injection e2 with e2; injection e2 with e3
      have := hGs.out; omega
/-- A known link of the document's, as a row's four cells. -/
structure Rk where
  au : Int
  dA : Option Addr
  dn : Nat
  dc : Nat
  bA : Option Addr
  bn : Nat
  bc : Nat
  ep : Int
def rkC (q : Rk) : List Value := [.int .i64 q.au, .slice q.dA q.dn q.dc, .slice q.bA q.bn q.bc, .int .i64 q.ep]
/-- One of them reads as x. -/
structure RkX (no : List Nat) (w : World) (q : Rk) (x : Int × Kn) : Prop where
  au : q.au = x.1
  ep : q.ep = x.2.ep
  dg : RdN no w 1 q.dA q.dn (x.2.dg.map B8)
  dl : q.dn ≤ q.dc
  bd : RdN no w 1 q.bA q.bn (x.2.bd.map B8)
  bl : q.bn ≤ q.bc
/-- The document's links, in none of the blocks 'no'. -/
def RkN (no : List Nat) (w : World) (A : Option Addr) (n : Nat) (S : Bk) : Prop := ∃ Qs : List Rk, Qs.length = n ∧ S.length = n ∧ RdN no w 4 A n (Qs.flatMap rkC) ∧ ∀ (i : Nat) (q : Rk) (x : Int × Kn), Qs[i]? = some q → S[i]? = some x → RkX no w q x
theorem RkX.fr {no no' own own' : List Nat} {w w' : World} {q : Rk} {x : Int × Kn} (H : RkX no w q x) (hf : Fr own w w' own') (hs : ∀ k, k ∈ own → k ∈ no) (h2 : ∀ k, k ∈ no' → k ∈ no ∨ w.heap.size ≤ k) : RkX no' w' q x :=
  ⟨H.au, H.ep, H.dg.fr hf hs h2, H.dl, H.bd.fr hf hs h2, H.bl⟩
theorem RkN.fr {no no' own own' : List Nat} {w w' : World} {n : Nat} {A : Option Addr} {S : Bk} (H : RkN no w A n S) (hf : Fr own w w' own') (h1 : ∀ k, k ∈ own → k ∈ no) (h2 : ∀ k, k ∈ no' → k ∈ no ∨ w.heap.size ≤ k) : RkN no' w' A n S := by
  obtain ⟨Qs, e1, e2, e3, e4⟩ := H
  exact ⟨Qs, e1, e2, e3.fr hf h1 h2, fun i q x hq hx => (e4 i q x hq hx).fr hf h1 h2⟩
theorem RkN.below {no : List Nat} {w w' : World} {n : Nat} {A : Option Addr} {S : Bk} (H : RkN no w A n S) (hb : Below w.heap.size w w') : RkN no w' A n S :=
  H.fr (own := []) (Fr.below hb) (fun _ h => absurd h (by simp)) (fun _ h => Or.inl h)
theorem RkN.nil (no : List Nat) (w : World) (A : Option Addr) : RkN no w A 0 [] := ⟨[], rfl, rfl, RdN.nil _ _ _, fun i q x hi => by simp at hi⟩
theorem RkN.len {no : List Nat} {w : World} {n : Nat} {A : Option Addr} {S : Bk} (H : RkN no w A n S) : S.length = n := by obtain ⟨_, _, h, _⟩ := H; exact h
theorem RkN.at_ {no : List Nat} {w : World} {n : Nat} {A : Option Addr} {S : Bk} (H : RkN no w A n S) {i : Nat} {x : Int × Kn} (hx : S[i]? = some x) :
    ∃ b o q, A = some ⟨b, o, none⟩ ∧ b < w.heap.size ∧ b ∉ no ∧ w.rangeAt b (o + i * 4) (rkC q) ∧ RkX no w q x := by
  obtain ⟨Qs, h1, h2, h3, h4⟩ := H
  have hil : i < Qs.length := by
    rcases Nat.lt_or_ge i S.length with h | h
    · omega
    · rw [List.getElem?_eq_none h] at hx; cases hx
  obtain ⟨b, o, e, hb, hr⟩ := h3.1.elem (fun _ _ => rfl) h1 (List.getElem?_eq_getElem hil)
  exact ⟨b, o, _, e, hb, h3.2 b o (by omega) e, hr, h4 i _ x (List.getElem?_eq_getElem hil) hx⟩
theorem RkN.snoc {no : List Nat} {w : World} {n : Nat} {A A' : Option Addr} {S : Bk} (Qs : List Rk) (h1 : Qs.length = n) (h2 : S.length = n) (h4 : ∀ (i : Nat) (q : Rk) (x : Int × Kn), Qs[i]? = some q → S[i]? = some x → RkX no w q x) {q : Rk} {x : Int × Kn} (hq : RkX no w q x) (hr : RdN no w 4 A' (n + 1) (Qs.flatMap rkC ++ rkC q)) : RkN no w A' (n + 1) (S ++ [x]) := by
  refine ⟨Qs ++ [q], by simp [h1], by simp [h2], by rw [List.flatMap_append, show [q].flatMap rkC = rkC q by simp]; exact hr, fun i q' x' e1 e2 => ?_⟩
  rcases Nat.lt_or_ge i Qs.length with h | h
  · rw [List.getElem?_append_left h] at e1
    rw [List.getElem?_append_left (by omega)] at e2
    exact h4 i q' x' e1 e2
  · rw [List.getElem?_append_right h] at e1
    rw [List.getElem?_append_right (by omega)] at e2
    rcases hz : i - Qs.length with _ | z
    · rw [hz] at e1
      rw [h2, ← h1, hz] at e2
      simp at e1 e2
      subst e1 e2
      exact hq
    · rw [hz] at e1
      simp at e1
/-- An author's links, with the author. -/
def selA (S : Bk) (a : Int) : Bk := S.filter fun x => x.1 == a
theorem selA_of (S : Bk) (a : Int) : ofA S a = (selA S a).map (·.2) := rfl
theorem selA_len (S : Bk) (a : Int) : (selA S a).length = (ofA S a).length := by rw [selA_of, List.length_map]
theorem selA_le (S : Bk) (a : Int) : (selA S a).length ≤ S.length := List.length_filter_le _ _
end Go.Proofs.Ytabcbpcfleociaa
