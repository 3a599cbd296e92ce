/- The document's Low, Eight; may a link be, its bytes. (Printed by gen_vaa.py.) -/
import Derived.Test.YtabcbpcfleociaaChB
import Derived.Test.YtabcbpcfleociaaWkH
import Derived.Test.YtabcbpcfleociaaSuiC
namespace Go.Proofs.Ytabcbpcfleociaa
open Go.RowKit
attribute [local go_sem ↓] Go.wp_at_zero Go.wp_at_succ
set_option linter.unusedSimpArgs false
set_option linter.unusedVariables false
set_option maxHeartbeats 1000000 in
theorem low_ (n : Nat) (w : World) (hn : n < 18446744073709551616) :
    Calls Try.prog 84 #[.int .u64 n, .int .i64 8] w fun e w' => ∃ A c, e = .returned (.slice A 8 c) ∧ OwnS w' w.heap.size A 8 c ((eightL n).map B8) ∧ Below w.heap.size w w' := by
  have hO0 : Hid (OwnS w w.heap.size none 0 0 (((eightL n).take 0).map B8)) := OwnS.nil _ _ _
  go_enter Try.func84, Try.ntmps84
  go_wp2_with fail
  go_loopw [0, 5, 6] (fun x0 x5 x6 wr => ∃ (i q : Nat) (A : Option Addr) (c : Nat), x0 = .int .u64 q ∧ x5 = .slice A i c ∧ x6 = .int .i64 i ∧ i ≤ 8 ∧ Hid (q = n / 2 ^ (8 * i)) ∧ q < 18446744073709551616 ∧ Hid (OwnS wr w.heap.size A i c (((eightL n).take i).map B8)) ∧ Hid (Below w.heap.size w wr)) (fun _ _ x6 _ => 8 - (intOf x6).toNat)
  case atStart => exact ⟨0, n, none, 0, rfl, rfl, rfl, by omega, (by simp : n = n / 2 ^ (8 * 0)), hn, hO0, Below.refl _ _⟩
  case round =>
    obtain ⟨i, q, A, c, rfl, rfl, rfl, hi, hq, hql, hO, hb⟩ := hrel
    by_cases hi8 : i < 8
    · have hi8' : (i : Int) < 8 := by omega
      obtain ⟨z, hz⟩ : ∃ z : UInt8, Hid (UInt8.ofNat (n / 2 ^ (8 * i)) = z) := ⟨_, Lib.hid rfl⟩
      have hzq : (z.toNat : Int) = (q : Int) % 256 := by rw [← hz.out, UInt8.toNat_ofNat', ← hq.out]; omega
      have fz : IntKind.u8.wrap ((q : Int) % 256) = (z.toNat : Int) := by rw [hzq, IntKind.wrap_u8]; omega
      obtain ⟨q2, hq2⟩ : ∃ k : Nat, Hid (k = q / 256) := ⟨_, Lib.hid rfl⟩
      have f1 : (q : Int) / 256 = (q2 : Int) := by rw [hq2.out]; omega
      have e8 : IntKind.i64.wrap ((i : Int) + 1) = ((i + 1 : Nat) : Int) := by rw [IntWalk.i64_in _ (by omega)]; omega
      have hsn : Hid ((eightL n).take i ++ [z] = (eightL n).take (i + 1)) := by
        unfold Hid
        rw [List.take_add_one]
        congr 1
        rw [eightL, List.getElem?_map, List.getElem?_range hi8]
        simp only [Option.map_some, Option.toList_some]
        rw [hz.out]
      have hO1 := Lib.hid (hO.out.to ((Below.refl wr.heap.size wr).alloc (Nat.le_refl _) (.cells #[.int .u8 (z.toNat : Int)] 5)))
      have hb1 := Lib.hid (hb.out.trans ((Below.refl w.heap.size wr).alloc hb.out.size (.cells #[.int .u8 (z.toNat : Int)] 5)))
      have hl1 := Lib.hid (one_lit wr z)
      have hoz := Lib.hid (oneB [z])
      have hq3 : Hid (q2 = n / 2 ^ (8 * (i + 1))) := by
        unfold Hid
        rw [hq2.out, hq.out, Nat.div_div_eq_div_mul, show 8 * (i + 1) = 8 * i + 8 by omega, Nat.pow_add]
      have hq4 : q2 < 18446744073709551616 := by rw [hq2.out]; omega
      clear hzq
      go_wp2_with (at_builtin
                   refine wpList_apT rfl (.tmp 12) (.tmp 16) 38 rfl w.heap.size 5 1 (.int .u8 0) Try.underlying38 infoB rfl A i c _ rfl hO1.out _ (some ⟨wr.heap.size, 0, none⟩) 1 1 (([z] : List UInt8).map B8) rfl hl1.out hoz.out (by simp only [maxLen]; omega) (by omega) hb1.out.size ?_
                   intro A3 c3 w3 o3 b3 _ _ _
                   rw [← List.map_append, hsn.out] at o3
                   have O3 := Lib.hid o3
                   have B3 := Lib.hid (hb1.out.trans b3)
                   clear o3 b3)
      go_roundw
      case rel => exact ⟨i + 1, q2, A3, c3, by go_num, rfl, by go_num, hi8, hq3, hq4, O3, B3⟩
      case measure => simp only [intOf]; omega
    · have hiS : Hid (i = 8) := (by omega : i = 8)
      have hi8' : ¬ (i : Int) < 8 := by omega
      rw [List.take_of_length_le (by rw [eightL_len]; omega)] at hO
      go_wp2_with fail
      go_ret
      have ho := hO.out
      rw [hiS.out] at ho
      exact ⟨A, c, by rw [hiS.out]; rfl, ho, hb.out⟩
theorem refEight_ (n : Nat) (w : World) (hn : n < 4611686018427387904) :
    Calls Try.prog 82 #[.int .i64 n] w fun e w' => ∃ A c, e = .returned (.slice A 8 c) ∧ OwnS w' w.heap.size A 8 c ((eightL n).map B8) ∧ Below w.heap.size w w' := by
  have fn : IntKind.u64.wrap (n : Int) = (n : Int) := by rw [wrapU, Nat.mod_eq_of_lt (by omega)]
  go_enter Try.func82, Try.ntmps82
  go_wp2_with fail
  refine (low_ n w (by omega)).mono ?_
  rintro e w1 ⟨A, c, rfl, o, b⟩
  go_wp2_with fail
  go_ret
  exact ⟨A, c, rfl, o, b⟩
set_option maxHeartbeats 2000000 in
theorem refRight_ (au sq ep : Int) (A : Option Addr) (n c : Nat) (B : Option Addr) (m d : Nat) (w : World) :
    Calls Try.prog 27 #[.agg #[.int .i64 au, .int .i64 sq, .int .i64 ep, .slice A n c, .slice B m d]] w fun e w' => e = .returned (.bool (decide (rightN au sq ep n m))) ∧ Below w.heap.size w w' := by
  by_cases hm : m = 32
  · subst hm
    go_enter Try.func27, Try.ntmps27
    go_wp2
    all_goals go_ret
    all_goals
      refine ⟨congrArg (fun b => Ending.returned (Value.bool b)) ?_, (Below.refl _ _).alloc (Nat.le_refl _) _⟩
      refine Bool.eq_iff_iff.2 ?_
      rw [decide_eq_true_iff]
      unfold rightN
      simp [*] <;> omega
  · have hm' : ((m : Int) != 32) = true := by rw [bne_iff_ne]; omega
    go_enter Try.func27, Try.ntmps27
    go_wp2
    all_goals go_ret
    all_goals
      refine ⟨congrArg (fun b => Ending.returned (Value.bool b)) ?_, (Below.refl _ _).alloc (Nat.le_refl _) _⟩
      refine Bool.eq_iff_iff.2 ?_
      rw [decide_eq_true_iff]
      unfold rightN
      simp [*] <;> omega
set_option maxRecDepth 20000 in
set_option maxHeartbeats 1000000 in
theorem refBytes_ (l : Ln) (A : Option Addr) (n c : Nat) (B : Option Addr) (m d : Nat) (w : World)
    (hp : Rd w w.heap.size 1 A n (l.pv.map B8)) (hq : Rd w w.heap.size 1 B m (l.bd.map B8)) (hok : rightL l) :
    Calls Try.prog 30 #[lnV l A n c B m d] w fun e w' => ∃ A' m' c', e = .returned (.slice A' m' c') ∧ m' ≤ 100 ∧ (bytesL l).length = m' ∧ w'.ownsRow w.heap.size 5 1 (.slice A' m' c') m' ((bytesL l).map B8) ∧ Below w.heap.size w w' := by
  have hbl := Lib.hid (bytesL_len hok)
  have hlp : Hid (l.pv.length ≤ 32) := by rcases hok.2.2 with h | h <;> unfold Hid <;> omega
  have hlb : Hid (l.bd.length = 32) := hok.2.1
  have hl1 := Lib.hid (numL_len l.au)
  have hl2 := Lib.hid (numL_len l.sq)
  have hl3 := Lib.hid (numL_len l.ep)
  have hl4 := Lib.hid (numL_len l.pv.length)
  have hl5 := Lib.hid (numL_len l.bd.length)
  obtain ⟨Y, hY⟩ : ∃ Y, Hid (Y = w.alloc (.cells #[.int .i64 l.au, .int .i64 l.sq, .int .i64 l.ep, .slice A n c, .slice B m d] 40)) := ⟨_, Lib.hid rfl⟩
  have HB0 : Hid (Below w.heap.size w Y) := by rw [hY.out]; exact (Below.refl _ _).alloc (Nat.le_refl _) _
  obtain ⟨G, hG⟩ : ∃ g, Hid (g = w.heap.size) := ⟨_, Lib.hid rfl⟩
  have HRG : Hid (Y.rangeAt G 0 [.int .i64 l.au, .int .i64 l.sq, .int .i64 l.ep, .slice A n c, .slice B m d]) := by rw [hY.out, hG.out]; exact rangeNew w _ _
  have hGY : Hid (G < Y.heap.size) := by unfold Hid; rw [hG.out, hY.out, szAlloc]; exact Nat.lt_succ_self _
  have HP := Lib.hid hp
  have HQ := Lib.hid hq
  clear hp hq hok
  go_enter Try.func30, Try.ntmps30
  unfold lnV
  go_wp2_with fail
  rw [← hY.out, ← hG.out]
  obtain ⟨X, hX⟩ : ∃ W, Hid (W = Y.drew) := ⟨_, Lib.hid rfl⟩
  have dX : Below Y.heap.size Y X := by rw [hX.out]; exact below_drew (Below.refl _ _)
  have RX := Lib.hid (range_keep HRG.out dX hGY.out)
  have hGX : Hid (G < X.heap.size) := Nat.lt_of_lt_of_le hGY.out dX.size
  have BX := Lib.hid (HB0.out.trans (dX.mono HB0.out.size))
  refine wp_region_noPanic ?_
  refine wp_region_held_drew (S := fun w' => w'.rangeAt G 0 [.int .i64 l.au, .int .i64 l.sq, .int .i64 l.ep, .slice A n c, .slice B m d]) (by kernel_rfl) (by rw [← hX.out]; exact RX.out) (fun hS => ?_)
  rw [← hX.out]
  clear hS
  have hS : X.rangeAt G 0 [.int .i64 l.au, .int .i64 l.sq, .int .i64 l.ep, .slice A n c, .slice B m d] := RX.out
  refine wpAnyH_take (i := 0) (v := ?va0) rfl (by kernel_rfl) (by kernel_rfl) (by kernel_rfl) (fun _ _ _ h => h) (Or.inl ⟨by rfl, ?hya0⟩) hS ?resta0
  case hya0 => (intro w' hSw; go_simp; first | done | with_reducible rfl)
  try simp only [Act.put, List.getElem_toArray, List.getElem_cons_zero, List.getElem_cons_succ, List.setIfInBounds_toArray, List.set_cons_zero, List.set_cons_succ]
  refine wpAnyH_take (i := 1) (v := .int .i64 l.au) rfl (by kernel_rfl) (by kernel_rfl) (by kernel_rfl) (fun _ _ _ h => h) (Or.inl ⟨by rfl, ?hya1⟩) hS ?resta1
  case hya1 => (intro w' hSw; have c0 := hSw 0 _ rfl; go_simp; first | done | with_reducible rfl)
  try simp only [Act.put, List.getElem_toArray, List.getElem_cons_zero, List.getElem_cons_succ, List.setIfInBounds_toArray, List.set_cons_zero, List.set_cons_succ]
  refine wpAnyH_take (i := 3) (v := ?va3) rfl (by kernel_rfl) (by kernel_rfl) (by kernel_rfl) (fun _ _ _ h => h) (Or.inl ⟨by rfl, ?hya3⟩) hS ?resta3
  case hya3 => (intro w' hSw; go_simp; first | done | with_reducible rfl)
  try simp only [Act.put, List.getElem_toArray, List.getElem_cons_zero, List.getElem_cons_succ, List.setIfInBounds_toArray, List.set_cons_zero, List.set_cons_succ]
  refine wpAnyH_take (i := 4) (v := .int .i64 l.sq) rfl (by kernel_rfl) (by kernel_rfl) (by kernel_rfl) (fun _ _ _ h => h) (Or.inl ⟨by rfl, ?hya4⟩) hS ?resta4
  case hya4 => (intro w' hSw; have c0 := hSw 1 _ rfl; go_simp; first | done | with_reducible rfl)
  try simp only [Act.put, List.getElem_toArray, List.getElem_cons_zero, List.getElem_cons_succ, List.setIfInBounds_toArray, List.set_cons_zero, List.set_cons_succ]
  refine wpAnyH_take (i := 6) (v := ?va6) rfl (by kernel_rfl) (by kernel_rfl) (by kernel_rfl) (fun _ _ _ h => h) (Or.inl ⟨by rfl, ?hya6⟩) hS ?resta6
  case hya6 => (intro w' hSw; go_simp; first | done | with_reducible rfl)
  try simp only [Act.put, List.getElem_toArray, List.getElem_cons_zero, List.getElem_cons_succ, List.setIfInBounds_toArray, List.set_cons_zero, List.set_cons_succ]
  refine wpAnyH_take (i := 7) (v := .int .i64 l.ep) rfl (by kernel_rfl) (by kernel_rfl) (by kernel_rfl) (fun _ _ _ h => h) (Or.inl ⟨by rfl, ?hya7⟩) hS ?resta7
  case hya7 => (intro w' hSw; have c0 := hSw 2 _ rfl; go_simp; first | done | with_reducible rfl)
  try simp only [Act.put, List.getElem_toArray, List.getElem_cons_zero, List.getElem_cons_succ, List.setIfInBounds_toArray, List.set_cons_zero, List.set_cons_succ]
  refine wpAnyH_ready (rs := [2]) (by kernel_rfl) (by simp) ?_
  refine AllReadyH.cons rfl (fun K hK => ?_) AllReadyH.nil
  go_simp
  refine (refNumber_any none 0 0 [] l.au X (Rd.nil _ _ _ _) (by simp)).mono ?_
  rintro e u1 hb
  obtain ⟨A1, m1, c1, rfl, e1, o1, b1⟩ := hb.v
  have P1 := Lib.hid b1
  have S1 := range_keep RX.out b1 hGX.out
  have hm1 : Hid (m1 ≤ 10) := by have := e1.out; have := hl1.out; simp at *; unfold Hid; omega
  clear hb
  go_wp2_with fail
  refine hK.out _ _ S1 ?_
  intro hS
  clear hK K hS
  try simp only [Act.put, List.getElem_toArray, List.getElem_cons_zero, List.getElem_cons_succ, List.setIfInBounds_toArray, List.set_cons_zero, List.set_cons_succ]
  have hS : u1.rangeAt G 0 [.int .i64 l.au, .int .i64 l.sq, .int .i64 l.ep, .slice A n c, .slice B m d] := S1
  refine wpAnyH_ready (rs := [5]) (by kernel_rfl) (by simp) ?_
  refine AllReadyH.cons rfl (fun K hK => ?_) AllReadyH.nil
  go_simp
  refine (refNumber_any A1 m1 c1 ([] ++ numL l.au) l.sq u1 (Rd.of_own o1.out) (by have := e1.out; have := hm1.out; omega)).mono ?_
  rintro e u2 hb
  obtain ⟨A2, m2, c2, rfl, e2, o2, b2⟩ := hb.v
  have P2 := Lib.hid (P1.out.trans (b2.mono P1.out.size))
  have S2 := range_keep RX.out P2.out hGX.out
  have hm2 : Hid (m2 ≤ 20) := by have h1 := e1.out; have h2 := hm1.out; have h3 := e2.out; have h4 := hl2.out; rw [List.length_append] at h3; unfold Hid; omega
  clear hb b2
  go_wp2_with fail
  refine hK.out _ _ S2 ?_
  intro hS
  clear hK K hS
  try simp only [Act.put, List.getElem_toArray, List.getElem_cons_zero, List.getElem_cons_succ, List.setIfInBounds_toArray, List.set_cons_zero, List.set_cons_succ]
  have hS : u2.rangeAt G 0 [.int .i64 l.au, .int .i64 l.sq, .int .i64 l.ep, .slice A n c, .slice B m d] := S2
  refine wpAnyH_ready (rs := [8]) (by kernel_rfl) (by simp) ?_
  refine AllReadyH.cons rfl (fun K hK => ?_) AllReadyH.nil
  go_simp
  refine (refNumber_any A2 m2 c2 (([] ++ numL l.au) ++ numL l.sq) l.ep u2 (Rd.of_own o2.out) (by have := e2.out; have := hm2.out; omega)).mono ?_
  rintro e u3 hb
  obtain ⟨A3, m3, c3, rfl, e3, o3, b3⟩ := hb.v
  have P3 := Lib.hid (P2.out.trans (b3.mono P2.out.size))
  have S3 := range_keep RX.out P3.out hGX.out
  have hm3 : Hid (m3 ≤ 30) := by have h1 := e2.out; have h2 := hm2.out; have h3 := e3.out; have h4 := hl3.out; rw [List.length_append] at h3; unfold Hid; omega
  clear hb b3
  go_wp2_with fail
  refine hK.out _ _ S3 ?_
  intro hS
  clear hK K hS
  try simp only [Act.put, List.getElem_toArray, List.getElem_cons_zero, List.getElem_cons_succ, List.setIfInBounds_toArray, List.set_cons_zero, List.set_cons_succ]
  have hS : u3.rangeAt G 0 [.int .i64 l.au, .int .i64 l.sq, .int .i64 l.ep, .slice A n c, .slice B m d] := S3
  refine wpAnyH_take (i := 9) (v := ?va9) rfl (by kernel_rfl) (by kernel_rfl) (by kernel_rfl) (fun _ _ _ h => h) (Or.inl ⟨by rfl, ?hya9⟩) hS ?resta9
  case hya9 => (intro w' hSw; go_simp; first | done | with_reducible rfl)
  try simp only [Act.put, List.getElem_toArray, List.getElem_cons_zero, List.getElem_cons_succ, List.setIfInBounds_toArray, List.set_cons_zero, List.set_cons_succ]
  refine wpAnyH_done (by kernel_rfl) (NoPanic.normal ?_) _
  have B3 := Lib.hid (BX.out.trans (P3.out.mono BX.out.size))
  have R3 := Lib.hid (range_keep RX.out P3.out hGX.out)
  have hG3 : Hid (G < u3.heap.size) := Nat.lt_of_lt_of_le hGX.out P3.out.size
  obtain ⟨k3, hk3⟩ : ∃ k, Hid (k = ((([] : List UInt8) ++ numL l.au) ++ numL l.sq) ++ numL l.ep) := ⟨_, Lib.hid rfl⟩
  rw [← hk3.out] at o3 e3
  clear o1 o2 e1 e2 P1 P2 hm1 hm2 b1 hS RX hGX BX hX dX
  go_wp2_with fail
  obtain ⟨T, hT⟩ : ∃ W, Hid (W = u3.drew) := ⟨_, Lib.hid rfl⟩
  have dT : Below u3.heap.size u3 T := by rw [hT.out]; exact below_drew (Below.refl _ _)
  have RT := Lib.hid (range_keep R3.out dT hG3.out)
  have hGT : Hid (G < T.heap.size) := Nat.lt_of_lt_of_le hG3.out dT.size
  have BT := Lib.hid (B3.out.trans (dT.mono B3.out.size))
  have OT := Lib.hid (own_below o3.out dT)
  have PT := Lib.hid (HP.out.to BT.out)
  have QT := Lib.hid (HQ.out.to BT.out)
  refine wp_region_noPanic ?_
  refine wp_region_held_drew (S := fun w' => w'.rangeAt G 0 [.int .i64 l.au, .int .i64 l.sq, .int .i64 l.ep, .slice A n c, .slice B m d]) (by kernel_rfl) (by rw [← hT.out]; exact RT.out) (fun hS => ?_)
  rw [← hT.out]
  clear hS
  have hS : T.rangeAt G 0 [.int .i64 l.au, .int .i64 l.sq, .int .i64 l.ep, .slice A n c, .slice B m d] := RT.out
  refine wpAnyH_take (i := 0) (v := ?vb0) rfl (by kernel_rfl) (by kernel_rfl) (by kernel_rfl) (fun _ _ _ h => h) (Or.inl ⟨by rfl, ?hyb0⟩) hS ?restb0
  case hyb0 => (intro w' hSw; go_simp; first | done | with_reducible rfl)
  try simp only [Act.put, List.getElem_toArray, List.getElem_cons_zero, List.getElem_cons_succ, List.setIfInBounds_toArray, List.set_cons_zero, List.set_cons_succ]
  refine wpAnyH_take (i := 1) (v := ?vb1) rfl (by kernel_rfl) (by kernel_rfl) (by kernel_rfl) (fun _ _ _ h => h) (Or.inl ⟨by rfl, ?hyb1⟩) hS ?restb1
  case hyb1 => (intro w' hSw; go_simp; first | done | with_reducible rfl)
  try simp only [Act.put, List.getElem_toArray, List.getElem_cons_zero, List.getElem_cons_succ, List.setIfInBounds_toArray, List.set_cons_zero, List.set_cons_succ]
  refine wpAnyH_take (i := 2) (v := .slice A n c) rfl (by kernel_rfl) (by kernel_rfl) (by kernel_rfl) (fun _ _ _ h => h) (Or.inl ⟨by rfl, ?hyb2⟩) hS ?restb2
  case hyb2 => (intro w' hSw; have c0 := hSw 3 _ rfl; go_simp; first | done | with_reducible rfl)
  try simp only [Act.put, List.getElem_toArray, List.getElem_cons_zero, List.getElem_cons_succ, List.setIfInBounds_toArray, List.set_cons_zero, List.set_cons_succ]
  refine wpAnyH_take (i := 4) (v := ?vb4) rfl (by kernel_rfl) (by kernel_rfl) (by kernel_rfl) (fun _ _ _ h => h) (Or.inl ⟨by rfl, ?hyb4⟩) hS ?restb4
  case hyb4 => (intro w' hSw; go_simp; first | done | with_reducible rfl)
  try simp only [Act.put, List.getElem_toArray, List.getElem_cons_zero, List.getElem_cons_succ, List.setIfInBounds_toArray, List.set_cons_zero, List.set_cons_succ]
  refine wpAnyH_take (i := 5) (v := .slice B m d) rfl (by kernel_rfl) (by kernel_rfl) (by kernel_rfl) (fun _ _ _ h => h) (Or.inl ⟨by rfl, ?hyb5⟩) hS ?restb5
  case hyb5 => (intro w' hSw; have c0 := hSw 4 _ rfl; go_simp; first | done | with_reducible rfl)
  try simp only [Act.put, List.getElem_toArray, List.getElem_cons_zero, List.getElem_cons_succ, List.setIfInBounds_toArray, List.set_cons_zero, List.set_cons_succ]
  refine wpAnyH_ready (rs := [3]) (by kernel_rfl) (by simp) ?_
  refine AllReadyH.cons rfl (fun K hK => ?_) AllReadyH.nil
  go_simp
  refine (refText_any A3 m3 c3 k3 A n c l.pv T (Rd.of_own OT.out) PT.out (by have := e3.out; have := hm3.out; have := hlp.out; omega)).mono ?_
  rintro e u4 hb
  obtain ⟨A4, m4, c4, rfl, e4, o4, b4⟩ := hb.v
  have P4 := Lib.hid b4
  have S4 := range_keep RT.out b4 hGT.out
  have Q4 := Lib.hid (QT.out.to b4)
  have hm4 : Hid (m4 ≤ 80) := by have h1 := e3.out; have h2 := hm3.out; have h3 := e4.out; have h4 := hl4.out; have h5 := hlp.out; unfold textL at h3; rw [List.length_append, List.length_append] at h3; unfold Hid; omega
  clear hb b4
  go_wp2_with fail
  refine hK.out _ _ S4 ?_
  intro hS
  clear hK K hS
  try simp only [Act.put, List.getElem_toArray, List.getElem_cons_zero, List.getElem_cons_succ, List.setIfInBounds_toArray, List.set_cons_zero, List.set_cons_succ]
  have hS : u4.rangeAt G 0 [.int .i64 l.au, .int .i64 l.sq, .int .i64 l.ep, .slice A n c, .slice B m d] := S4
  refine wpAnyH_ready (rs := [6]) (by kernel_rfl) (by simp) ?_
  refine AllReadyH.cons rfl (fun K hK => ?_) AllReadyH.nil
  go_simp
  refine (refText_any A4 m4 c4 (k3 ++ textL l.pv) B m d l.bd u4 (Rd.of_own o4.out) Q4.out (by have := e4.out; have := hm4.out; have := hlb.out; omega)).mono ?_
  rintro e u5 hb
  obtain ⟨A5, m5, c5, rfl, e5, o5, b5⟩ := hb.v
  have P5 := Lib.hid (P4.out.trans (b5.mono P4.out.size))
  have S5 := range_keep RT.out P5.out hGT.out
  have hbytes : Hid (k3 ++ textL l.pv ++ textL l.bd = bytesL l) := by unfold Hid; rw [hk3.out, List.nil_append]; rfl
  rw [hbytes.out] at o5 e5
  have hm5 : Hid (m5 ≤ 100) := by have h3 := e5.out; have := hbl.out; unfold Hid; omega
  have B5 := Lib.hid (BT.out.trans (P5.out.mono BT.out.size))
  have hu4 := Lib.hid (Nat.le_trans BT.out.size P4.out.size)
  clear hb b5
  go_wp2_with fail
  refine hK.out _ _ S5 ?_
  intro hS
  clear hK K hS
  try simp only [Act.put, List.getElem_toArray, List.getElem_cons_zero, List.getElem_cons_succ, List.setIfInBounds_toArray, List.set_cons_zero, List.set_cons_succ]
  have hS : u5.rangeAt G 0 [.int .i64 l.au, .int .i64 l.sq, .int .i64 l.ep, .slice A n c, .slice B m d] := S5
  refine wpAnyH_take (i := 7) (v := ?vb7) rfl (by kernel_rfl) (by kernel_rfl) (by kernel_rfl) (fun _ _ _ h => h) (Or.inl ⟨by rfl, ?hyb7⟩) hS ?restb7
  case hyb7 => (intro w' hSw; go_simp; first | done | with_reducible rfl)
  try simp only [Act.put, List.getElem_toArray, List.getElem_cons_zero, List.getElem_cons_succ, List.setIfInBounds_toArray, List.set_cons_zero, List.set_cons_succ]
  refine wpAnyH_done (by kernel_rfl) (NoPanic.normal ?_) _
  go_wp2_with fail
  go_ret
  exact ⟨A5, m5, c5, rfl, hm5.out, e5.out, own_base o5.out hu4.out, B5.out⟩
end Go.Proofs.Ytabcbpcfleociaa
