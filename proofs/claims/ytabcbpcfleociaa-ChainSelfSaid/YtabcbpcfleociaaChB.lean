/- A link's digest: the program's. (Printed by gen_chb.py.) -/
import Derived.Test.YtabcbpcfleociaaChA
import Derived.Test.YtabcbpcfleociaaReg
namespace Go.Proofs.Ytabcbpcfleociaa
open Go.RowKit Go.Maps
attribute [local go_sem ↓] Go.wp_at_zero Go.wp_at_succ
set_option linter.unusedSimpArgs false
set_option linter.unusedVariables false
/-- A link as a value. -/
def lnV (l : Ln) (A : Option Addr) (n c : Nat) (B : Option Addr) (m d : Nat) : Value := .agg #[.int .i64 l.au, .int .i64 l.sq, .int .i64 l.ep, .slice A n c, .slice B m d]
def lnC (l : Ln) (A : Option Addr) (n c : Nat) (B : Option Addr) (m d : Nat) : List Value := [.int .i64 l.au, .int .i64 l.sq, .int .i64 l.ep, .slice A n c, .slice B m d]
/-- RetB with the length a variable. -/
theorem RetB.v {base : Nat} {l : List UInt8} {w w' : World} {e : Ending} (h : RetB base l w e w') : ∃ A m c, e = .returned (.slice A m c) ∧ Hid (l.length = m) ∧ Hid (w'.ownsRow base 5 1 (.slice A m c) m (l.map B8)) ∧ Below w.heap.size w w' := by
  obtain ⟨A, c, h1, h2, h3⟩ := h
  exact ⟨A, l.length, c, h1, rfl, h2, h3⟩
theorem rangeNew (w : World) (cs : List Value) (T : TypeId) : (w.alloc (.cells cs.toArray T)).rangeAt w.heap.size 0 cs := by
  intro j v hj
  refine cell_blk (heap_alloc_new w _) _ ?_
  rw [Nat.zero_add]; simpa using hj
theorem rightL_N (l : Ln) : rightL l ↔ rightN l.au l.sq l.ep l.pv.length l.bd.length := Iff.rfl
theorem hash_ahead (g : Nat) (w : World) : (nilAhead 281 27 (.pointer (some ⟨g, 0, none⟩)) "Hash").run Try.prog w = .ok (some false) w := by kernel_rfl
set_option maxRecDepth 20000 in
set_option maxHeartbeats 1000000 in
theorem digest_ (g : Nat) (hs : List (List UInt8)) (own R : List Nat) (l : Ln) (A : Option Addr) (n c : Nat) (B : Option Addr) (m d : Nat) (w : World) (hI : IdealAt w g hs own R)
    (hp : Rd w w.heap.size 1 A n (l.pv.map B8)) (hq : Rd w w.heap.size 1 B m (l.bd.map B8)) (hok : rightL l) (hn : hs.length ≤ 1000000) (hR : ∀ k, k ∈ R → k < w.heap.size) :
    Calls Try.prog 26 #[.iface 27 (.pointer (some ⟨g, 0, none⟩)), lnV l A n c B m d] w fun e w' => ∃ own' A' c', e = .returned (.slice A' 32 c') ∧ OwnS w' w.heap.size A' 32 c' ((digL hs l).map B8) ∧ IdealAt w' g (note hs (bytesL l)) own' R ∧ Fr own w w' own' := by
  have hA : Hid (l.pv.length = n) := by unfold Hid; simpa using hp.len
  have hB : Hid (l.bd.length = m) := by unfold Hid; simpa using hq.len
  have hr : decide (rightN l.au l.sq l.ep n m) = true := by rw [decide_eq_true_iff, ← hA.out, ← hB.out]; exact (rightL_N l).1 hok
  have hbl := Lib.hid (bytesL_len hok)
  have hlp : Hid (l.pv.length ≤ 32) := by rcases hok.2.2 with h | h <;> unfold Hid <;> omega
  have hlb : Hid (l.bd.length = 32) := hok.2.1
  have hl1 := Lib.hid (numL_len l.au)
  have hl2 := Lib.hid (numL_len l.sq)
  have hl3 := Lib.hid (numL_len l.ep)
  have hl4 := Lib.hid (numL_len l.pv.length)
  have hl5 := Lib.hid (numL_len l.bd.length)
  obtain ⟨au, hau⟩ : ∃ x, Hid (x = l.au) := ⟨_, Lib.hid rfl⟩
  obtain ⟨sq, hsq⟩ : ∃ x, Hid (x = l.sq) := ⟨_, Lib.hid rfl⟩
  obtain ⟨ep, hep⟩ : ∃ x, Hid (x = l.ep) := ⟨_, Lib.hid rfl⟩
  have hlv : lnV l A n c B m d = .agg #[.int .i64 au, .int .i64 sq, .int .i64 ep, .slice A n c, .slice B m d] := by unfold lnV; rw [hau.out, hsq.out, hep.out]
  rw [hlv]
  rw [← hau.out, ← hsq.out, ← hep.out] at hr
  clear hlv
  obtain ⟨Y, hY⟩ : ∃ Y, Hid (Y = w.alloc (.cells #[.int .i64 au, .int .i64 sq, .int .i64 ep, .slice A n c, .slice B m d] 40)) := ⟨_, Lib.hid rfl⟩
  have HB0 : Hid (Below w.heap.size w Y) := by rw [hY.out]; exact (Below.refl _ _).alloc (Nat.le_refl _) _
  obtain ⟨G, hG⟩ : ∃ g, Hid (g = w.heap.size) := ⟨_, Lib.hid rfl⟩
  have HRG : Hid (Y.rangeAt G 0 [.int .i64 au, .int .i64 sq, .int .i64 ep, .slice A n c, .slice B m d]) := by rw [hY.out, hG.out]; exact rangeNew w _ _
  have hGY : Hid (G < Y.heap.size) := by unfold Hid; rw [hG.out, hY.out, szAlloc]; exact Nat.lt_succ_self _
  have hGo : Hid (∀ k, k ∈ own → k < G) := by unfold Hid; rw [hG.out]; exact note_lt hI
  have HI := Lib.hid hI
  have HP := Lib.hid hp
  have HQ := Lib.hid hq
  have HR := Lib.hid hR
  have HN := Lib.hid hn
  clear hI hp hq hR hok hn
  go_enter Try.func26, Try.ntmps26
  go_wp2_with fail
  rw [← hY.out, ← hG.out]
  refine (right_ au sq ep A n c B m d Y).mono ?_
  rintro e Z ⟨he, b1⟩
  rw [hr] at he
  subst he
  clear hr
  have B1 := Lib.hid (HB0.out.trans (b1.mono HB0.out.size))
  have R1 := Lib.hid (range_keep HRG.out b1 hGY.out)
  have hG1 : Hid (G < Z.heap.size) := Nat.lt_of_lt_of_le hGY.out b1.size
  clear b1
  go_wp2_with fail
  obtain ⟨X, hX⟩ : ∃ W, Hid (W = Z.drew) := ⟨_, Lib.hid rfl⟩
  have dX : Below Z.heap.size Z X := by rw [hX.out]; exact below_drew (Below.refl _ _)
  have RX := Lib.hid (range_keep R1.out dX hG1.out)
  have hGX : Hid (G < X.heap.size) := Nat.lt_of_lt_of_le hG1.out dX.size
  have BX := Lib.hid (B1.out.trans (dX.mono B1.out.size))
  refine wp_region_noPanic ?_
  refine wp_region_held_drew (S := fun w' => w'.rangeAt G 0 [.int .i64 au, .int .i64 sq, .int .i64 ep, .slice A n c, .slice B m d]) (by kernel_rfl) (by rw [← hX.out]; exact RX.out) (fun hS => ?_)
  rw [← hX.out]
  clear hS
  have hS : X.rangeAt G 0 [.int .i64 au, .int .i64 sq, .int .i64 ep, .slice A n c, .slice B m d] := RX.out
  refine wpAnyH_take (i := 0) (v := ?va0) rfl (by kernel_rfl) (by kernel_rfl) (by kernel_rfl) (fun _ _ _ h => h) (Or.inl ⟨by rfl, ?hya0⟩) hS ?resta0
  case hya0 => (intro w' hSw; go_simp; first | done | with_reducible rfl)
  try simp only [Act.put, List.getElem_toArray, List.getElem_cons_zero, List.getElem_cons_succ, List.setIfInBounds_toArray, List.set_cons_zero, List.set_cons_succ]
  refine wpAnyH_take (i := 1) (v := .int .i64 au) rfl (by kernel_rfl) (by kernel_rfl) (by kernel_rfl) (fun _ _ _ h => h) (Or.inl ⟨by rfl, ?hya1⟩) hS ?resta1
  case hya1 => (intro w' hSw; have c0 := hSw 0 _ rfl; go_simp; first | done | with_reducible rfl)
  try simp only [Act.put, List.getElem_toArray, List.getElem_cons_zero, List.getElem_cons_succ, List.setIfInBounds_toArray, List.set_cons_zero, List.set_cons_succ]
  refine wpAnyH_take (i := 3) (v := ?va3) rfl (by kernel_rfl) (by kernel_rfl) (by kernel_rfl) (fun _ _ _ h => h) (Or.inl ⟨by rfl, ?hya3⟩) hS ?resta3
  case hya3 => (intro w' hSw; go_simp; first | done | with_reducible rfl)
  try simp only [Act.put, List.getElem_toArray, List.getElem_cons_zero, List.getElem_cons_succ, List.setIfInBounds_toArray, List.set_cons_zero, List.set_cons_succ]
  refine wpAnyH_take (i := 4) (v := .int .i64 sq) rfl (by kernel_rfl) (by kernel_rfl) (by kernel_rfl) (fun _ _ _ h => h) (Or.inl ⟨by rfl, ?hya4⟩) hS ?resta4
  case hya4 => (intro w' hSw; have c0 := hSw 1 _ rfl; go_simp; first | done | with_reducible rfl)
  try simp only [Act.put, List.getElem_toArray, List.getElem_cons_zero, List.getElem_cons_succ, List.setIfInBounds_toArray, List.set_cons_zero, List.set_cons_succ]
  refine wpAnyH_take (i := 6) (v := ?va6) rfl (by kernel_rfl) (by kernel_rfl) (by kernel_rfl) (fun _ _ _ h => h) (Or.inl ⟨by rfl, ?hya6⟩) hS ?resta6
  case hya6 => (intro w' hSw; go_simp; first | done | with_reducible rfl)
  try simp only [Act.put, List.getElem_toArray, List.getElem_cons_zero, List.getElem_cons_succ, List.setIfInBounds_toArray, List.set_cons_zero, List.set_cons_succ]
  refine wpAnyH_take (i := 7) (v := .int .i64 ep) rfl (by kernel_rfl) (by kernel_rfl) (by kernel_rfl) (fun _ _ _ h => h) (Or.inl ⟨by rfl, ?hya7⟩) hS ?resta7
  case hya7 => (intro w' hSw; have c0 := hSw 2 _ rfl; go_simp; first | done | with_reducible rfl)
  try simp only [Act.put, List.getElem_toArray, List.getElem_cons_zero, List.getElem_cons_succ, List.setIfInBounds_toArray, List.set_cons_zero, List.set_cons_succ]
  refine wpAnyH_ready (rs := [2]) (by kernel_rfl) (by simp) ?_
  refine AllReadyH.cons rfl (fun K hK => ?_) AllReadyH.nil
  go_simp
  refine (number_any none 0 0 [] au X (Rd.nil _ _ _ _) (by simp)).mono ?_
  rintro e u1 hb
  obtain ⟨A1, m1, c1, rfl, e1, o1, b1⟩ := hb.v
  have P1 := Lib.hid b1
  have S1 := range_keep RX.out b1 hGX.out
  have hm1 : Hid (m1 ≤ 10) := by have := e1.out; have := hl1.out; rw [← hau.out] at this; simp at *; unfold Hid; omega
  clear hb
  go_wp2_with fail
  refine hK.out _ _ S1 ?_
  intro hS
  clear hK K hS
  try simp only [Act.put, List.getElem_toArray, List.getElem_cons_zero, List.getElem_cons_succ, List.setIfInBounds_toArray, List.set_cons_zero, List.set_cons_succ]
  have hS : u1.rangeAt G 0 [.int .i64 au, .int .i64 sq, .int .i64 ep, .slice A n c, .slice B m d] := S1
  refine wpAnyH_ready (rs := [5]) (by kernel_rfl) (by simp) ?_
  refine AllReadyH.cons rfl (fun K hK => ?_) AllReadyH.nil
  go_simp
  refine (number_any A1 m1 c1 ([] ++ numL au) sq u1 (Rd.of_own o1.out) (by have := e1.out; have := hm1.out; omega)).mono ?_
  rintro e u2 hb
  obtain ⟨A2, m2, c2, rfl, e2, o2, b2⟩ := hb.v
  have P2 := Lib.hid (P1.out.trans (b2.mono P1.out.size))
  have S2 := range_keep RX.out P2.out hGX.out
  have hm2 : Hid (m2 ≤ 20) := by have h1 := e1.out; have h2 := hm1.out; have h3 := e2.out; have h4 := hl2.out; rw [← hsq.out] at h4; rw [List.length_append] at h3; unfold Hid; omega
  clear hb b2
  go_wp2_with fail
  refine hK.out _ _ S2 ?_
  intro hS
  clear hK K hS
  try simp only [Act.put, List.getElem_toArray, List.getElem_cons_zero, List.getElem_cons_succ, List.setIfInBounds_toArray, List.set_cons_zero, List.set_cons_succ]
  have hS : u2.rangeAt G 0 [.int .i64 au, .int .i64 sq, .int .i64 ep, .slice A n c, .slice B m d] := S2
  refine wpAnyH_ready (rs := [8]) (by kernel_rfl) (by simp) ?_
  refine AllReadyH.cons rfl (fun K hK => ?_) AllReadyH.nil
  go_simp
  refine (number_any A2 m2 c2 (([] ++ numL au) ++ numL sq) ep u2 (Rd.of_own o2.out) (by have := e2.out; have := hm2.out; omega)).mono ?_
  rintro e u3 hb
  obtain ⟨A3, m3, c3, rfl, e3, o3, b3⟩ := hb.v
  have P3 := Lib.hid (P2.out.trans (b3.mono P2.out.size))
  have S3 := range_keep RX.out P3.out hGX.out
  have hm3 : Hid (m3 ≤ 30) := by have h1 := e2.out; have h2 := hm2.out; have h3 := e3.out; have h4 := hl3.out; rw [← hep.out] at h4; rw [List.length_append] at h3; unfold Hid; omega
  clear hb b3
  go_wp2_with fail
  refine hK.out _ _ S3 ?_
  intro hS
  clear hK K hS
  try simp only [Act.put, List.getElem_toArray, List.getElem_cons_zero, List.getElem_cons_succ, List.setIfInBounds_toArray, List.set_cons_zero, List.set_cons_succ]
  have hS : u3.rangeAt G 0 [.int .i64 au, .int .i64 sq, .int .i64 ep, .slice A n c, .slice B m d] := S3
  refine wpAnyH_take (i := 9) (v := ?va9) rfl (by kernel_rfl) (by kernel_rfl) (by kernel_rfl) (fun _ _ _ h => h) (Or.inl ⟨by rfl, ?hya9⟩) hS ?resta9
  case hya9 => (intro w' hSw; go_simp; first | done | with_reducible rfl)
  try simp only [Act.put, List.getElem_toArray, List.getElem_cons_zero, List.getElem_cons_succ, List.setIfInBounds_toArray, List.set_cons_zero, List.set_cons_succ]
  refine wpAnyH_done (by kernel_rfl) (NoPanic.normal ?_) _
  have B3 := Lib.hid (BX.out.trans (P3.out.mono BX.out.size))
  have R3 := Lib.hid (range_keep RX.out P3.out hGX.out)
  have hG3 : Hid (G < u3.heap.size) := Nat.lt_of_lt_of_le hGX.out P3.out.size
  obtain ⟨k3, hk3⟩ : ∃ k, Hid (k = ((([] : List UInt8) ++ numL au) ++ numL sq) ++ numL ep) := ⟨_, Lib.hid rfl⟩
  rw [← hk3.out] at o3 e3
  clear o1 o2 e1 e2 P1 P2 hm1 hm2 b1 hS RX hGX BX hX dX
  go_wp2_with fail
  obtain ⟨T, hT⟩ : ∃ W, Hid (W = u3.drew) := ⟨_, Lib.hid rfl⟩
  have dT : Below u3.heap.size u3 T := by rw [hT.out]; exact below_drew (Below.refl _ _)
  have RT := Lib.hid (range_keep R3.out dT hG3.out)
  have hGT : Hid (G < T.heap.size) := Nat.lt_of_lt_of_le hG3.out dT.size
  have BT := Lib.hid (B3.out.trans (dT.mono B3.out.size))
  have OT := Lib.hid (own_below o3.out dT)
  have PT := Lib.hid (HP.out.to BT.out)
  have QT := Lib.hid (HQ.out.to BT.out)
  refine wp_region_noPanic ?_
  refine wp_region_held_drew (S := fun w' => w'.rangeAt G 0 [.int .i64 au, .int .i64 sq, .int .i64 ep, .slice A n c, .slice B m d]) (by kernel_rfl) (by rw [← hT.out]; exact RT.out) (fun hS => ?_)
  rw [← hT.out]
  clear hS
  have hS : T.rangeAt G 0 [.int .i64 au, .int .i64 sq, .int .i64 ep, .slice A n c, .slice B m d] := RT.out
  refine wpAnyH_take (i := 0) (v := ?vb0) rfl (by kernel_rfl) (by kernel_rfl) (by kernel_rfl) (fun _ _ _ h => h) (Or.inl ⟨by rfl, ?hyb0⟩) hS ?restb0
  case hyb0 => (intro w' hSw; go_simp; first | done | with_reducible rfl)
  try simp only [Act.put, List.getElem_toArray, List.getElem_cons_zero, List.getElem_cons_succ, List.setIfInBounds_toArray, List.set_cons_zero, List.set_cons_succ]
  refine wpAnyH_take (i := 1) (v := ?vb1) rfl (by kernel_rfl) (by kernel_rfl) (by kernel_rfl) (fun _ _ _ h => h) (Or.inl ⟨by rfl, ?hyb1⟩) hS ?restb1
  case hyb1 => (intro w' hSw; go_simp; first | done | with_reducible rfl)
  try simp only [Act.put, List.getElem_toArray, List.getElem_cons_zero, List.getElem_cons_succ, List.setIfInBounds_toArray, List.set_cons_zero, List.set_cons_succ]
  refine wpAnyH_take (i := 2) (v := ?vb2) rfl (by kernel_rfl) (by kernel_rfl) (by kernel_rfl) (fun _ _ _ h => h) (Or.inl ⟨by rfl, ?hyb2⟩) hS ?restb2
  case hyb2 => (intro w' hSw; go_simp; first | done | with_reducible rfl)
  try simp only [Act.put, List.getElem_toArray, List.getElem_cons_zero, List.getElem_cons_succ, List.setIfInBounds_toArray, List.set_cons_zero, List.set_cons_succ]
  refine wpAnyH_take (i := 3) (v := .slice A n c) rfl (by kernel_rfl) (by kernel_rfl) (by kernel_rfl) (fun _ _ _ h => h) (Or.inl ⟨by rfl, ?hyb3⟩) hS ?restb3
  case hyb3 => (intro w' hSw; have c0 := hSw 3 _ rfl; go_simp; first | done | with_reducible rfl)
  try simp only [Act.put, List.getElem_toArray, List.getElem_cons_zero, List.getElem_cons_succ, List.setIfInBounds_toArray, List.set_cons_zero, List.set_cons_succ]
  refine wpAnyH_take (i := 5) (v := ?vb5) rfl (by kernel_rfl) (by kernel_rfl) (by kernel_rfl) (fun _ _ _ h => h) (Or.inl ⟨by rfl, ?hyb5⟩) hS ?restb5
  case hyb5 => (intro w' hSw; go_simp; first | done | with_reducible rfl)
  try simp only [Act.put, List.getElem_toArray, List.getElem_cons_zero, List.getElem_cons_succ, List.setIfInBounds_toArray, List.set_cons_zero, List.set_cons_succ]
  refine wpAnyH_take (i := 6) (v := .slice B m d) rfl (by kernel_rfl) (by kernel_rfl) (by kernel_rfl) (fun _ _ _ h => h) (Or.inl ⟨by rfl, ?hyb6⟩) hS ?restb6
  case hyb6 => (intro w' hSw; have c0 := hSw 4 _ rfl; go_simp; first | done | with_reducible rfl)
  try simp only [Act.put, List.getElem_toArray, List.getElem_cons_zero, List.getElem_cons_succ, List.setIfInBounds_toArray, List.set_cons_zero, List.set_cons_succ]
  refine wpAnyH_take (i := 8) (v := ?vb8) rfl (by kernel_rfl) (by kernel_rfl) (by kernel_rfl) (fun _ _ _ h => h) (Or.inl ⟨by rfl, ?hyb8⟩) hS ?restb8
  case hyb8 => (intro w' hSw; go_simp; first | done | with_reducible rfl)
  try simp only [Act.put, List.getElem_toArray, List.getElem_cons_zero, List.getElem_cons_succ, List.setIfInBounds_toArray, List.set_cons_zero, List.set_cons_succ]
  refine wpAnyH_take (i := 9) (v := ?vb9) rfl (by kernel_rfl) (by kernel_rfl) (by kernel_rfl) (fun _ _ _ h => h) (Or.inl ⟨by rfl, ?hyb9⟩) hS ?restb9
  case hyb9 => (intro w' hSw; have hah := hash_ahead g w'; go_simp; first | done | with_reducible rfl)
  try simp only [Act.put, List.getElem_toArray, List.getElem_cons_zero, List.getElem_cons_succ, List.setIfInBounds_toArray, List.set_cons_zero, List.set_cons_succ]
  refine wpAnyH_take (i := 10) (v := ?vb10) rfl (by kernel_rfl) (by kernel_rfl) (by kernel_rfl) (fun _ _ _ h => h) (Or.inl ⟨by rfl, ?hyb10⟩) hS ?restb10
  case hyb10 => (intro w' hSw; go_simp; first | done | with_reducible rfl)
  try simp only [Act.put, List.getElem_toArray, List.getElem_cons_zero, List.getElem_cons_succ, List.setIfInBounds_toArray, List.set_cons_zero, List.set_cons_succ]
  refine wpAnyH_ready (rs := [4]) (by kernel_rfl) (by simp) ?_
  refine AllReadyH.cons rfl (fun K hK => ?_) AllReadyH.nil
  go_simp
  refine (text_any A3 m3 c3 k3 A n c l.pv T (Rd.of_own OT.out) PT.out (by have := e3.out; have := hm3.out; have := hlp.out; omega)).mono ?_
  rintro e u4 hb
  obtain ⟨A4, m4, c4, rfl, e4, o4, b4⟩ := hb.v
  have P4 := Lib.hid b4
  have S4 := range_keep RT.out b4 hGT.out
  have Q4 := Lib.hid (QT.out.to b4)
  have hm4 : Hid (m4 ≤ 80) := by have h1 := e3.out; have h2 := hm3.out; have h3 := e4.out; have h4 := hl4.out; have h5 := hlp.out; unfold textL at h3; rw [List.length_append, List.length_append] at h3; unfold Hid; omega
  clear hb b4
  go_wp2_with fail
  refine hK.out _ _ S4 ?_
  intro hS
  clear hK K hS
  try simp only [Act.put, List.getElem_toArray, List.getElem_cons_zero, List.getElem_cons_succ, List.setIfInBounds_toArray, List.set_cons_zero, List.set_cons_succ]
  have hS : u4.rangeAt G 0 [.int .i64 au, .int .i64 sq, .int .i64 ep, .slice A n c, .slice B m d] := S4
  refine wpAnyH_ready (rs := [7]) (by kernel_rfl) (by simp) ?_
  refine AllReadyH.cons rfl (fun K hK => ?_) AllReadyH.nil
  go_simp
  refine (text_any A4 m4 c4 (k3 ++ textL l.pv) B m d l.bd u4 (Rd.of_own o4.out) Q4.out (by have := e4.out; have := hm4.out; have := hlb.out; omega)).mono ?_
  rintro e u5 hb
  obtain ⟨A5, m5, c5, rfl, e5, o5, b5⟩ := hb.v
  have P5 := Lib.hid (P4.out.trans (b5.mono P4.out.size))
  have S5 := range_keep RT.out P5.out hGT.out
  have hbytes : Hid (k3 ++ textL l.pv ++ textL l.bd = bytesL l) := by unfold Hid; rw [hk3.out, hau.out, hsq.out, hep.out, List.nil_append]; rfl
  have hm5 : Hid (m5 ≤ 100) := by rw [hbytes.out] at e5; have h3 := e5.out; have := hbl.out; unfold Hid; omega
  have B5 := Lib.hid (BT.out.trans (P5.out.mono BT.out.size))
  have I5 := Lib.hid (HI.out.below B5.out)
  rw [hbytes.out] at o5
  clear hb b5
  go_wp2_with fail
  refine hK.out _ _ S5 ?_
  intro hS
  clear hK K hS
  try simp only [Act.put, List.getElem_toArray, List.getElem_cons_zero, List.getElem_cons_succ, List.setIfInBounds_toArray, List.set_cons_zero, List.set_cons_succ]
  have hS : u5.rangeAt G 0 [.int .i64 au, .int .i64 sq, .int .i64 ep, .slice A n c, .slice B m d] := S5
  refine wpAnyH_ready (rs := [11]) (by kernel_rfl) (by simp) ?_
  refine AllReadyH.cons rfl (fun K hK => ?_) AllReadyH.nil
  go_simp
  refine (hash_ g hs own R A5 m5 c5 (bytesL l) u5 I5.out (Rd.of_own o5.out) (own_cap' o5.out) (by have := hm5.out; omega) HN.out (fun k hk => Nat.lt_of_lt_of_le (HR.out k hk) B5.out.size)).mono ?_
  rintro e u6 ⟨own', A6, c6, rfl, o6, i6, f6⟩
  have S6 : u6.rangeAt G 0 [.int .i64 au, .int .i64 sq, .int .i64 ep, .slice A n c, .slice B m d] := fun j v hj => (World.cell?_of_block (a := ⟨G, 0 + j, none⟩) (f6.block G (Nat.lt_of_lt_of_le hGT.out P5.out.size) (fun hm => Nat.lt_irrefl _ (hGo.out G hm)))).trans (S5 j v hj)
  have O6 := Lib.hid (o6.mono B5.out.size)
  have I6 := Lib.hid i6
  have F6 : Hid (Fr own w u6 own') := (Fr.below B5.out).trans f6
  clear o6 i6 f6
  go_wp2_with fail
  refine hK.out _ _ S6 ?_
  intro hS
  clear hK K hS
  try simp only [Act.put, List.getElem_toArray, List.getElem_cons_zero, List.getElem_cons_succ, List.setIfInBounds_toArray, List.set_cons_zero, List.set_cons_succ]
  have hS : u6.rangeAt G 0 [.int .i64 au, .int .i64 sq, .int .i64 ep, .slice A n c, .slice B m d] := S6
  refine wpAnyH_take (i := 12) (v := ?vb12) rfl (by kernel_rfl) (by kernel_rfl) (by kernel_rfl) (fun _ _ _ h => h) (Or.inl ⟨by rfl, ?hyb12⟩) hS ?restb12
  case hyb12 => (intro w' hSw; go_simp; first | done | with_reducible rfl)
  try simp only [Act.put, List.getElem_toArray, List.getElem_cons_zero, List.getElem_cons_succ, List.setIfInBounds_toArray, List.set_cons_zero, List.set_cons_succ]
  refine wpAnyH_done (by kernel_rfl) (NoPanic.normal ?_) _
  go_wp2_with fail
  go_ret
  exact ⟨own', A6, c6, rfl, O6.out, I6.out, F6.out⟩
end Go.Proofs.Ytabcbpcfleociaa
