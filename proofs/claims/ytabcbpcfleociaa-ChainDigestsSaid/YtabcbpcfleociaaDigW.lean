/- The walk of the law ChainDigests. (Printed by gen_dig.py.) -/
import Derived.Test.YtabcbpcfleociaaChK
import Derived.Test.YtabcbpcfleociaaVaD
import Derived.Test.YtabcbpcfleociaaTer
namespace Go.Proofs.Ytabcbpcfleociaa
open Go.RowKit Go.Maps
attribute [local go_sem ↓] Go.wp_at_zero Go.wp_at_succ
set_option linter.unusedSimpArgs false
set_option linter.unusedVariables false
theorem digest_no (s : Value) (l : Ln) (A : Option Addr) (n c : Nat) (B : Option Addr) (m d : Nat) (w : World) (hr : decide (rightN l.au l.sq l.ep n m) = false) :
    Calls Try.prog 26 #[s, lnV l A n c B m d] w fun e w' => e = .returned (.slice none 0 0) ∧ Below w.heap.size w w' := by
  obtain ⟨Y, hY⟩ : ∃ Y, Hid (Y = w.alloc (.cells #[.int .i64 l.au, .int .i64 l.sq, .int .i64 l.ep, .slice A n c, .slice B m d] 40)) := ⟨_, Lib.hid rfl⟩
  have BY : Hid (Below w.heap.size w Y) := by rw [hY.out]; exact (Below.refl _ _).alloc (Nat.le_refl _) _
  go_enter Try.func26, Try.ntmps26
  unfold lnV
  go_wp2_with fail
  rw [← hY.out]
  refine (right_ l.au l.sq l.ep A n c B m d Y).mono ?_
  rintro e Z ⟨he, b1⟩
  rw [hr] at he
  subst he
  have B1 := Lib.hid (BY.out.trans (b1.mono BY.out.size))
  clear hr b1
  go_wp2_with fail
  go_ret
  exact ⟨rfl, B1.out⟩
set_option maxRecDepth 20000 in
set_option maxHeartbeats 4000000 in
theorem chainDigests_walk (l : Ln) (A : Option Addr) (n c : Nat) (B : Option Addr) (m d : Nat) (w : World) (h1 : inI l.au) (h2 : inI l.sq) (h3 : inI l.ep) (hp : Rd w w.heap.size 1 A n (l.pv.map B8)) (hpc : n ≤ c) (hq : Rd w w.heap.size 1 B m (l.bd.map B8)) (hqc : m ≤ d) :
    Calls Try.prog 5 #[lnV l A n c B m d] w fun e w' => e = .returned (.bool true) ∧ Below w.heap.size w w' := by
  have hA : Hid (l.pv.length = n) := by unfold Hid; simpa using hp.len
  have hBm : Hid (l.bd.length = m) := by unfold Hid; simpa using hq.len
  obtain ⟨Y, hY⟩ : ∃ Y, Hid (Y = w.alloc (.cells #[.int .i64 l.au, .int .i64 l.sq, .int .i64 l.ep, .slice A n c, .slice B m d] 40)) := ⟨_, Lib.hid rfl⟩
  have BY : Hid (Below w.heap.size w Y) := by rw [hY.out]; exact (Below.refl _ _).alloc (Nat.le_refl _) _
  obtain ⟨G, hG⟩ : ∃ g, Hid (g = w.heap.size) := ⟨_, Lib.hid rfl⟩
  have RY : Hid (Y.rangeAt G 0 [.int .i64 l.au, .int .i64 l.sq, .int .i64 l.ep, .slice A n c, .slice B m d]) := by rw [hY.out, hG.out]; exact rangeNew w _ _
  have hGY : Hid (G < Y.heap.size) := by unfold Hid; rw [hG.out, hY.out, szAlloc]; exact Nat.lt_succ_self _
  have HP := Lib.hid hp
  have HQ := Lib.hid hq
  clear hp hq h1 h2 h3
  go_enter Try.func5, Try.ntmps5
  unfold lnV
  go_wp2_with fail
  rw [← hY.out, ← hG.out]
  refine (newIdeal_ Y).mono ?_
  rintro e u ⟨gi, oi, rfl, iu, hin, bu⟩
  have IU := Lib.hid iu
  have HIN := Lib.hid hin
  have BU := Lib.hid (BY.out.trans (bu.mono BY.out.size))
  have RU := range_keep RY.out bu hGY.out
  have hGu : Hid (G < u.heap.size) := Nat.lt_of_lt_of_le hGY.out bu.size
  have hGo : Hid (∀ k, k ∈ oi → G < k) := fun k hk => Nat.lt_of_lt_of_le hGY.out (hin k hk)
  have c0 := RU 0 _ rfl
  have c1 := RU 1 _ rfl
  have c2 := RU 2 _ rfl
  have c3 := RU 3 _ rfl
  have c4 := RU 4 _ rfl
  clear iu hin bu
  by_cases hr : rightL l
  · have hrN : decide (rightN l.au l.sq l.ep n m) = true := by rw [decide_eq_true_iff, ← hA.out, ← hBm.out]; exact (rightL_N l).1 hr
    have Hr := Lib.hid hr
    clear hr
    go_wp2_with fail
    clear c0 c1 c2 c3 c4
    refine (digest_ gi [] oi [] l A n c B m d u IU.out (HP.out.to BU.out) (HQ.out.to BU.out) Hr.out (by decide) (fun k hk => by simp at hk)).mono ?_
    rintro e v ⟨oi', A6, c6, rfl, o6, i6, f6⟩
    have hGn : Hid (G ∉ oi) := fun hm => Nat.lt_irrefl _ (hGo.out G hm)
    have RV := range_fr RU f6 hGu.out hGn.out
    have hGv : Hid (G < v.heap.size) := Nat.lt_of_lt_of_le hGu.out f6.size
    have BV : Hid (Below w.heap.size w v) := BU.out.trans (f6.toBelow (fun k hk => by have h1 := hGo.out k hk; have h2 := hG.out; omega) BU.out.size)
    have IV : Hid (IdealAt v gi [bytesL l] oi' []) := i6
    have OV := Lib.hid o6.rd
    clear o6 i6 f6
    have c0 := RV 0 _ rfl
    have c1 := RV 1 _ rfl
    have c2 := RV 2 _ rfl
    have c3 := RV 3 _ rfl
    have c4 := RV 4 _ rfl
    go_wp2_with fail
    clear c0 c1 c2 c3 c4
    refine (refRight_ l.au l.sq l.ep A n c B m d v).mono ?_
    rintro e x ⟨he, b⟩
    rw [hrN] at he
    subst he
    have BX := Lib.hid (BV.out.trans (b.mono BV.out.size))
    have RX := range_keep RV b hGv.out
    have hGx : Hid (G < x.heap.size) := Nat.lt_of_lt_of_le hGv.out b.size
    have IX := Lib.hid (IV.out.below b)
    have OX := Lib.hid (OV.out.to b)
    clear b
    have c0 := RX 0 _ rfl
    have c1 := RX 1 _ rfl
    have c2 := RX 2 _ rfl
    have c3 := RX 3 _ rfl
    have c4 := RX 4 _ rfl
    go_wp2_with fail
    clear c0 c1 c2 c3 c4
    refine (refBytes_ l A n c B m d x (HP.out.to BX.out) (HQ.out.to BX.out) Hr.out).mono ?_
    rintro e y ⟨A7, m7, c7, rfl, hm7, hl7, o7, b⟩
    have B2 := Lib.hid (BX.out.trans (b.mono BX.out.size))
    have R2 := range_keep RX b hGx.out
    have hG2 : Hid (G < y.heap.size) := Nat.lt_of_lt_of_le hGx.out b.size
    have I2 := Lib.hid (IX.out.below b)
    have O2 := Lib.hid (OX.out.to b)
    have P7 := Lib.hid (Rd.of_own o7)
    have HL7 := Lib.hid hl7
    clear b o7 hl7
    go_wp2_with fail
    refine (refHash_ none 0 0 0 A7 m7 c7 [] (bytesL l) y (VtL.nil _ _ _) P7.out (by decide) (Nat.le_refl _)).mono ?_
    rintro e z ⟨A8, n8, c8, D, dc, rfl, _, hv8, o8, b⟩
    have B3 := Lib.hid (B2.out.trans (b.mono B2.out.size))
    have R3 := range_keep R2 b hG2.out
    have hG3 : Hid (G < z.heap.size) := Nat.lt_of_lt_of_le hG2.out b.size
    have I3 := Lib.hid (I2.out.below b)
    have O3 := Lib.hid (O2.out.to b)
    have W3 : Hid (Rd z z.heap.size 1 D 32 ((digL [] l).map B8)) := o8.rd
    clear b o8 hv8
    go_wp2_with fail
    obtain ⟨q, hq⟩ : ∃ W, Hid (W = z.alloc (.cells #[.slice A8 n8 c8, .int .i64 0] 33)) := ⟨_, Lib.hid rfl⟩
    rw [← hq.out]
    have b : Below z.heap.size z q := by rw [hq.out]; exact (Below.refl _ _).alloc (Nat.le_refl _) _
    have B4 := Lib.hid (B3.out.trans (b.mono B3.out.size))
    have R4 := range_keep R3 b hG3.out
    have hG4 : Hid (G < q.heap.size) := Nat.lt_of_lt_of_le hG3.out b.size
    have I4 := Lib.hid (I3.out.below b)
    have O4 := Lib.hid (O3.out.to b)
    have W4 := Lib.hid (W3.out.to b)
    clear b
    refine (terms_ gi (bytesL l) oi' [] q I4.out (by have := bytesL_len Hr.out; omega)).mono ?_
    rintro e t ⟨TB, tc, rfl, tv, b⟩
    have B5 := Lib.hid (B4.out.trans (b.mono B4.out.size))
    have R5 := range_keep R4 b hG4.out
    have hG5 : Hid (G < t.heap.size) := Nat.lt_of_lt_of_le hG4.out b.size
    have O5 := Lib.hid (O4.out.to b)
    have W5 := Lib.hid (W4.out.to b)
    have TV := Lib.hid tv
    clear b tv
    go_wp2_with fail
    obtain ⟨X, hX⟩ : ∃ W, Hid (W = t.drew) := ⟨_, Lib.hid rfl⟩
    have dX : Below t.heap.size t X := by rw [hX.out]; exact below_drew (Below.refl _ _)
    have B6 := Lib.hid (B5.out.trans (dX.mono B5.out.size))
    have R6 := Lib.hid (range_keep R5 dX hG5.out)
    have hG6 : Hid (G < X.heap.size) := Nat.lt_of_lt_of_le hG5.out dX.size
    have O6 := Lib.hid (O5.out.to dX)
    have W6 := Lib.hid (W5.out.to dX)
    obtain ⟨tb, to_, qb, qo, qc, rfl, htb, htr, htq, Ai, ci, htc, htd⟩ := (TV.out.to dX).at_ (i := 0) (h := bytesL l) rfl
    have HTB := Lib.hid htb
    have HTR := Lib.hid htr
    have HTQ := Lib.hid htq
    have HTC := Lib.hid htc
    have HTD := Lib.hid htd
    obtain ⟨bl, hbl⟩ : ∃ k, Hid (k = (bytesL l).length) := ⟨_, Lib.hid rfl⟩
    rw [← hbl.out] at HTC HTD
    have HIX : Hid (digL [] l = hname (([] : List (List UInt8)).idxOf (bytesL l) + 1)) := rfl
    clear htb htr htq htc htd
    refine wp_region_noPanic ?_
    refine wp_region_held_drew (S := fun w' => Below X.heap.size X w') (by kernel_rfl) (by rw [← hX.out]; exact Below.refl _ _) (fun hS => ?_)
    rw [← hX.out]
    clear hS
    have hS : Below X.heap.size X X := Below.refl _ _
    refine wpAnyH_take (i := 0) (v := .agg #[.int .i64 l.au, .int .i64 l.sq, .int .i64 l.ep, .slice A n c, .slice B m d]) rfl (by kernel_rfl) (by kernel_rfl) (by kernel_rfl) (fun _ _ _ h => h) (Or.inl ⟨by rfl, ?hyz0⟩) hS ?restz0
    case hyz0 => (intro w' hSw; have r := range_keep R6.out hSw hG6.out; have c0 := r 0 _ rfl; have c1 := r 1 _ rfl; have c2 := r 2 _ rfl; have c3 := r 3 _ rfl; have c4 := r 4 _ rfl; go_simp; first | done | with_reducible rfl)
    try simp only [Act.put, List.getElem_toArray, List.getElem_cons_zero, List.getElem_cons_succ, List.setIfInBounds_toArray, List.set_cons_zero, List.set_cons_succ]
    refine wpAnyH_ready (rs := [1]) (by kernel_rfl) (by simp) ?_
    refine AllReadyH.cons rfl (fun K hK => ?_) AllReadyH.nil
    go_simp
    refine (right_ l.au l.sq l.ep A n c B m d X).mono ?_
    rintro e x1 ⟨he, b⟩
    rw [hrN] at he
    subst he
    have P1 := Lib.hid b
    clear b
    go_wp2_with fail
    refine hK.out _ _ P1.out ?_
    intro hS
    clear hK K hS
    try simp only [Act.put, List.getElem_toArray, List.getElem_cons_zero, List.getElem_cons_succ, List.setIfInBounds_toArray, List.set_cons_zero, List.set_cons_succ]
    have hS := P1.out
    refine wpAnyH_take (i := 2) (v := ?vz2) rfl (by kernel_rfl) (by kernel_rfl) (by kernel_rfl) (fun _ _ _ h => h) (Or.inl ⟨by rfl, ?hyz2⟩) hS ?restz2
    case hyz2 => (intro w' hSw; go_simp; first | done | with_reducible rfl)
    try simp only [Act.put, List.getElem_toArray, List.getElem_cons_zero, List.getElem_cons_succ, List.setIfInBounds_toArray, List.set_cons_zero, List.set_cons_succ]
    refine wpAnyH_take (i := 3) (v := ?vz3) rfl (by kernel_rfl) (by kernel_rfl) (by kernel_rfl) (fun _ _ _ h => h) (Or.inl ⟨by rfl, ?hyz3⟩) hS ?restz3
    case hyz3 => (intro w' hSw; go_simp; first | done | with_reducible rfl)
    try simp only [Act.put, List.getElem_toArray, List.getElem_cons_zero, List.getElem_cons_succ, List.setIfInBounds_toArray, List.set_cons_zero, List.set_cons_succ]
    refine wpAnyH_take (i := 4) (v := .string (str (digL [] l))) rfl (by kernel_rfl) (by kernel_rfl) (by kernel_rfl) (fun _ _ _ h => h) (Or.inl ⟨by rfl, ?hyz4⟩) hS ?restz4
    case hyz4 => (intro w' hSw; have hc := conv8 w' A6 32 c6 _ (O6.out.to hSw); go_simp; first | done | with_reducible rfl)
    try simp only [Act.put, List.getElem_toArray, List.getElem_cons_zero, List.getElem_cons_succ, List.setIfInBounds_toArray, List.set_cons_zero, List.set_cons_succ]
    refine wpAnyH_take (i := 5) (v := ?vz5) rfl (by kernel_rfl) (by kernel_rfl) (by kernel_rfl) (fun _ _ _ h => h) (Or.inl ⟨by rfl, ?hyz5⟩) hS ?restz5
    case hyz5 => (intro w' hSw; go_simp; first | done | with_reducible rfl)
    try simp only [Act.put, List.getElem_toArray, List.getElem_cons_zero, List.getElem_cons_succ, List.setIfInBounds_toArray, List.set_cons_zero, List.set_cons_succ]
    refine wpAnyH_take (i := 6) (v := .string (str (digL [] l))) rfl (by kernel_rfl) (by kernel_rfl) (by kernel_rfl) (fun _ _ _ h => h) (Or.inl ⟨by rfl, ?hyz6⟩) hS ?restz6
    case hyz6 => (intro w' hSw; have hc := conv8 w' D 32 dc _ (W6.out.to hSw); go_simp; first | done | with_reducible rfl)
    try simp only [Act.put, List.getElem_toArray, List.getElem_cons_zero, List.getElem_cons_succ, List.setIfInBounds_toArray, List.set_cons_zero, List.set_cons_succ]
    refine wpAnyH_take (i := 7) (v := .bool true) rfl (by kernel_rfl) (by kernel_rfl) (by kernel_rfl) (fun _ _ _ h => h) (Or.inl ⟨by rfl, ?hyz7⟩) hS ?restz7
    case hyz7 => (intro w' hSw; go_simp; first | done | with_reducible rfl)
    try simp only [Act.put, List.getElem_toArray, List.getElem_cons_zero, List.getElem_cons_succ, List.setIfInBounds_toArray, List.set_cons_zero, List.set_cons_succ]
    refine wpAnyH_take (i := 8) (v := .bool true) rfl (by kernel_rfl) (by kernel_rfl) (by kernel_rfl) (fun _ _ _ h => h) (Or.inl ⟨by rfl, ?hyz8⟩) hS ?restz8
    case hyz8 => (intro w' hSw; go_simp; first | done | with_reducible rfl)
    try simp only [Act.put, List.getElem_toArray, List.getElem_cons_zero, List.getElem_cons_succ, List.setIfInBounds_toArray, List.set_cons_zero, List.set_cons_succ]
    refine wpAnyH_take (i := 9) (v := ?vz9) rfl (by kernel_rfl) (by kernel_rfl) (by kernel_rfl) (fun _ _ _ h => h) (Or.inl ⟨by rfl, ?hyz9⟩) hS ?restz9
    case hyz9 => (intro w' hSw; go_simp; first | done | with_reducible rfl)
    try simp only [Act.put, List.getElem_toArray, List.getElem_cons_zero, List.getElem_cons_succ, List.setIfInBounds_toArray, List.set_cons_zero, List.set_cons_succ]
    refine wpAnyH_take (i := 10) (v := ?vz10) rfl (by kernel_rfl) (by kernel_rfl) (by kernel_rfl) (fun _ _ _ h => h) (Or.inl ⟨by rfl, ?hyz10⟩) hS ?restz10
    case hyz10 => (intro w' hSw; go_simp; first | done | with_reducible rfl)
    try simp only [Act.put, List.getElem_toArray, List.getElem_cons_zero, List.getElem_cons_succ, List.setIfInBounds_toArray, List.set_cons_zero, List.set_cons_succ]
    refine wpAnyH_take (i := 11) (v := .int .i64 1) rfl (by kernel_rfl) (by kernel_rfl) (by kernel_rfl) (fun _ _ _ h => h) (Or.inl ⟨by rfl, ?hyz11⟩) hS ?restz11
    case hyz11 => (intro w' hSw; go_simp; first | done | with_reducible rfl)
    try simp only [Act.put, List.getElem_toArray, List.getElem_cons_zero, List.getElem_cons_succ, List.setIfInBounds_toArray, List.set_cons_zero, List.set_cons_succ]
    refine wpAnyH_take (i := 12) (v := .bool true) rfl (by kernel_rfl) (by kernel_rfl) (by kernel_rfl) (fun _ _ _ h => h) (Or.inl ⟨by rfl, ?hyz12⟩) hS ?restz12
    case hyz12 => (intro w' hSw; go_simp; first | done | with_reducible rfl)
    try simp only [Act.put, List.getElem_toArray, List.getElem_cons_zero, List.getElem_cons_succ, List.setIfInBounds_toArray, List.set_cons_zero, List.set_cons_succ]
    refine wpAnyH_take (i := 13) (v := .bool true) rfl (by kernel_rfl) (by kernel_rfl) (by kernel_rfl) (fun _ _ _ h => h) (Or.inl ⟨by rfl, ?hyz13⟩) hS ?restz13
    case hyz13 => (intro w' hSw; go_simp; first | done | with_reducible rfl)
    try simp only [Act.put, List.getElem_toArray, List.getElem_cons_zero, List.getElem_cons_succ, List.setIfInBounds_toArray, List.set_cons_zero, List.set_cons_succ]
    refine wpAnyH_take (i := 14) (v := ?vz14) rfl (by kernel_rfl) (by kernel_rfl) (by kernel_rfl) (fun _ _ _ h => h) (Or.inl ⟨by rfl, ?hyz14⟩) hS ?restz14
    case hyz14 => (intro w' hSw; go_simp; first | done | with_reducible rfl)
    try simp only [Act.put, List.getElem_toArray, List.getElem_cons_zero, List.getElem_cons_succ, List.setIfInBounds_toArray, List.set_cons_zero, List.set_cons_succ]
    refine wpAnyH_take (i := 15) (v := ?vz15) rfl (by kernel_rfl) (by kernel_rfl) (by kernel_rfl) (fun _ _ _ h => h) (Or.inl ⟨by rfl, ?hyz15⟩) hS ?restz15
    case hyz15 => (intro w' hSw; go_simp; first | done | with_reducible rfl)
    try simp only [Act.put, List.getElem_toArray, List.getElem_cons_zero, List.getElem_cons_succ, List.setIfInBounds_toArray, List.set_cons_zero, List.set_cons_succ]
    refine wpAnyH_take (i := 16) (v := .pointer (some ⟨tb, to_, none⟩)) rfl (by kernel_rfl) (by kernel_rfl) (by kernel_rfl) (fun _ _ _ h => h) (Or.inl ⟨by rfl, ?hyz16⟩) hS ?restz16
    case hyz16 => (intro w' hSw; go_simp; first | done | with_reducible rfl)
    try simp only [Act.put, List.getElem_toArray, List.getElem_cons_zero, List.getElem_cons_succ, List.setIfInBounds_toArray, List.set_cons_zero, List.set_cons_succ]
    refine wpAnyH_take (i := 17) (v := .pointer (some ⟨tb, to_ + 1, none⟩)) rfl (by kernel_rfl) (by kernel_rfl) (by kernel_rfl) (fun _ _ _ h => h) (Or.inl ⟨by rfl, ?hyz17⟩) hS ?restz17
    case hyz17 => (intro w' hSw; go_simp; first | done | with_reducible rfl)
    try simp only [Act.put, List.getElem_toArray, List.getElem_cons_zero, List.getElem_cons_succ, List.setIfInBounds_toArray, List.set_cons_zero, List.set_cons_succ]
    refine wpAnyH_take (i := 18) (v := .slice (some ⟨qb, qo, none⟩) 1 qc) rfl (by kernel_rfl) (by kernel_rfl) (by kernel_rfl) (fun _ _ _ h => h) (Or.inl ⟨by rfl, ?hyz18⟩) hS ?restz18
    case hyz18 => (intro w' hSw; have c1 : w'.cell? ⟨tb, to_ + 1, none⟩ = some (.slice (some ⟨qb, qo, none⟩) 1 qc) := (World.cell?_of_block (a := ⟨tb, to_ + 1, none⟩) (hSw.block tb HTB.out)).trans (HTR.out 1 _ rfl); go_simp; first | done | with_reducible rfl)
    try simp only [Act.put, List.getElem_toArray, List.getElem_cons_zero, List.getElem_cons_succ, List.setIfInBounds_toArray, List.set_cons_zero, List.set_cons_succ]
    refine wpAnyH_take (i := 19) (v := .int .i64 1) rfl (by kernel_rfl) (by kernel_rfl) (by kernel_rfl) (fun _ _ _ h => h) (Or.inl ⟨by rfl, ?hyz19⟩) hS ?restz19
    case hyz19 => (intro w' hSw; go_simp; first | done | with_reducible rfl)
    try simp only [Act.put, List.getElem_toArray, List.getElem_cons_zero, List.getElem_cons_succ, List.setIfInBounds_toArray, List.set_cons_zero, List.set_cons_succ]
    refine wpAnyH_take (i := 20) (v := .bool true) rfl (by kernel_rfl) (by kernel_rfl) (by kernel_rfl) (fun _ _ _ h => h) (Or.inl ⟨by rfl, ?hyz20⟩) hS ?restz20
    case hyz20 => (intro w' hSw; go_simp; first | done | with_reducible rfl)
    try simp only [Act.put, List.getElem_toArray, List.getElem_cons_zero, List.getElem_cons_succ, List.setIfInBounds_toArray, List.set_cons_zero, List.set_cons_succ]
    refine wpAnyH_take (i := 21) (v := .bool true) rfl (by kernel_rfl) (by kernel_rfl) (by kernel_rfl) (fun _ _ _ h => h) (Or.inl ⟨by rfl, ?hyz21⟩) hS ?restz21
    case hyz21 => (intro w' hSw; go_simp; first | done | with_reducible rfl)
    try simp only [Act.put, List.getElem_toArray, List.getElem_cons_zero, List.getElem_cons_succ, List.setIfInBounds_toArray, List.set_cons_zero, List.set_cons_succ]
    refine wpAnyH_take (i := 22) (v := ?vz22) rfl (by kernel_rfl) (by kernel_rfl) (by kernel_rfl) (fun _ _ _ h => h) (Or.inl ⟨by rfl, ?hyz22⟩) hS ?restz22
    case hyz22 => (intro w' hSw; go_simp; first | done | with_reducible rfl)
    try simp only [Act.put, List.getElem_toArray, List.getElem_cons_zero, List.getElem_cons_succ, List.setIfInBounds_toArray, List.set_cons_zero, List.set_cons_succ]
    refine wpAnyH_take (i := 23) (v := ?vz23) rfl (by kernel_rfl) (by kernel_rfl) (by kernel_rfl) (fun _ _ _ h => h) (Or.inl ⟨by rfl, ?hyz23⟩) hS ?restz23
    case hyz23 => (intro w' hSw; go_simp; first | done | with_reducible rfl)
    try simp only [Act.put, List.getElem_toArray, List.getElem_cons_zero, List.getElem_cons_succ, List.setIfInBounds_toArray, List.set_cons_zero, List.set_cons_succ]
    refine wpAnyH_take (i := 24) (v := .pointer (some ⟨tb, to_, none⟩)) rfl (by kernel_rfl) (by kernel_rfl) (by kernel_rfl) (fun _ _ _ h => h) (Or.inl ⟨by rfl, ?hyz24⟩) hS ?restz24
    case hyz24 => (intro w' hSw; go_simp; first | done | with_reducible rfl)
    try simp only [Act.put, List.getElem_toArray, List.getElem_cons_zero, List.getElem_cons_succ, List.setIfInBounds_toArray, List.set_cons_zero, List.set_cons_succ]
    refine wpAnyH_take (i := 25) (v := .pointer (some ⟨tb, to_ + 1, none⟩)) rfl (by kernel_rfl) (by kernel_rfl) (by kernel_rfl) (fun _ _ _ h => h) (Or.inl ⟨by rfl, ?hyz25⟩) hS ?restz25
    case hyz25 => (intro w' hSw; go_simp; first | done | with_reducible rfl)
    try simp only [Act.put, List.getElem_toArray, List.getElem_cons_zero, List.getElem_cons_succ, List.setIfInBounds_toArray, List.set_cons_zero, List.set_cons_succ]
    refine wpAnyH_take (i := 26) (v := .slice (some ⟨qb, qo, none⟩) 1 qc) rfl (by kernel_rfl) (by kernel_rfl) (by kernel_rfl) (fun _ _ _ h => h) (Or.inl ⟨by rfl, ?hyz26⟩) hS ?restz26
    case hyz26 => (intro w' hSw; have c1 : w'.cell? ⟨tb, to_ + 1, none⟩ = some (.slice (some ⟨qb, qo, none⟩) 1 qc) := (World.cell?_of_block (a := ⟨tb, to_ + 1, none⟩) (hSw.block tb HTB.out)).trans (HTR.out 1 _ rfl); go_simp; first | done | with_reducible rfl)
    try simp only [Act.put, List.getElem_toArray, List.getElem_cons_zero, List.getElem_cons_succ, List.setIfInBounds_toArray, List.set_cons_zero, List.set_cons_succ]
    refine wpAnyH_take (i := 27) (v := .pointer (some ⟨qb, qo, none⟩)) rfl (by kernel_rfl) (by kernel_rfl) (by kernel_rfl) (fun _ _ _ h => h) (Or.inl ⟨by rfl, ?hyz27⟩) hS ?restz27
    case hyz27 => (intro w' hSw; go_simp; first | done | with_reducible rfl)
    try simp only [Act.put, List.getElem_toArray, List.getElem_cons_zero, List.getElem_cons_succ, List.setIfInBounds_toArray, List.set_cons_zero, List.set_cons_succ]
    refine wpAnyH_take (i := 28) (v := .slice Ai bl ci) rfl (by kernel_rfl) (by kernel_rfl) (by kernel_rfl) (fun _ _ _ h => h) (Or.inl ⟨by rfl, ?hyz28⟩) hS ?restz28
    case hyz28 => (intro w' hSw; have c1 : w'.cell? ⟨qb, qo, none⟩ = some (.slice Ai bl ci) := (World.cell?_of_block (a := ⟨qb, qo, none⟩) (hSw.block qb HTQ.out)).trans HTC.out; go_simp; first | done | with_reducible rfl)
    try simp only [Act.put, List.getElem_toArray, List.getElem_cons_zero, List.getElem_cons_succ, List.setIfInBounds_toArray, List.set_cons_zero, List.set_cons_succ]
    refine wpAnyH_take (i := 29) (v := .string (str (bytesL l))) rfl (by kernel_rfl) (by kernel_rfl) (by kernel_rfl) (fun _ _ _ h => h) (Or.inl ⟨by rfl, ?hyz29⟩) hS ?restz29
    case hyz29 => (intro w' hSw; have hc := conv8 w' Ai bl ci _ (HTD.out.to hSw); go_simp; first | done | with_reducible rfl)
    try simp only [Act.put, List.getElem_toArray, List.getElem_cons_zero, List.getElem_cons_succ, List.setIfInBounds_toArray, List.set_cons_zero, List.set_cons_succ]
    refine wpAnyH_take (i := 30) (v := .agg #[.int .i64 l.au, .int .i64 l.sq, .int .i64 l.ep, .slice A n c, .slice B m d]) rfl (by kernel_rfl) (by kernel_rfl) (by kernel_rfl) (fun _ _ _ h => h) (Or.inl ⟨by rfl, ?hyz30⟩) hS ?restz30
    case hyz30 => (intro w' hSw; have r := range_keep R6.out hSw hG6.out; have c0 := r 0 _ rfl; have c1 := r 1 _ rfl; have c2 := r 2 _ rfl; have c3 := r 3 _ rfl; have c4 := r 4 _ rfl; go_simp; first | done | with_reducible rfl)
    try simp only [Act.put, List.getElem_toArray, List.getElem_cons_zero, List.getElem_cons_succ, List.setIfInBounds_toArray, List.set_cons_zero, List.set_cons_succ]
    refine wpAnyH_ready (rs := [31]) (by kernel_rfl) (by simp) ?_
    refine AllReadyH.cons rfl (fun K hK => ?_) AllReadyH.nil
    go_simp
    have B7 := Lib.hid (B6.out.trans (P1.out.mono B6.out.size))
    refine (refBytes_ l A n c B m d x1 (HP.out.to B7.out) (HQ.out.to B7.out) Hr.out).mono ?_
    rintro e x2 ⟨A9, m9, c9, rfl, hm9, hl9, o9, b⟩
    have P2 := Lib.hid (P1.out.trans (b.mono P1.out.size))
    have P9 := Lib.hid (Rd.of_own o9)
    clear b o9 hl9
    go_wp2_with fail
    refine hK.out _ _ P2.out ?_
    intro hS
    clear hK K
    try simp only [Act.put, List.getElem_toArray, List.getElem_cons_zero, List.getElem_cons_succ, List.setIfInBounds_toArray, List.set_cons_zero, List.set_cons_succ]
    refine wpAnyH_strong (S2 := fun w' => Below x2.heap.size x2 w') (fun w' h' => P2.out.trans (h'.mono P2.out.size)) _ _ _ _ ?_
    clear hS
    have hS : Below x2.heap.size x2 x2 := Below.refl _ _
    refine wpAnyH_take (i := 32) (v := .string (str (bytesL l))) rfl (by kernel_rfl) (by kernel_rfl) (by kernel_rfl) (fun _ _ _ h => h) (Or.inl ⟨by rfl, ?hyz32⟩) hS ?restz32
    case hyz32 => (intro w' hSw; have hc := conv8 w' A9 m9 c9 _ (P9.out.to hSw); go_simp; first | done | with_reducible rfl)
    try simp only [Act.put, List.getElem_toArray, List.getElem_cons_zero, List.getElem_cons_succ, List.setIfInBounds_toArray, List.set_cons_zero, List.set_cons_succ]
    refine wpAnyH_take (i := 33) (v := .bool true) rfl (by kernel_rfl) (by kernel_rfl) (by kernel_rfl) (fun _ _ _ h => h) (Or.inl ⟨by rfl, ?hyz33⟩) hS ?restz33
    case hyz33 => (intro w' hSw; go_simp; first | done | with_reducible rfl)
    try simp only [Act.put, List.getElem_toArray, List.getElem_cons_zero, List.getElem_cons_succ, List.setIfInBounds_toArray, List.set_cons_zero, List.set_cons_succ]
    refine wpAnyH_take (i := 34) (v := .bool true) rfl (by kernel_rfl) (by kernel_rfl) (by kernel_rfl) (fun _ _ _ h => h) (Or.inl ⟨by rfl, ?hyz34⟩) hS ?restz34
    case hyz34 => (intro w' hSw; go_simp; first | done | with_reducible rfl)
    try simp only [Act.put, List.getElem_toArray, List.getElem_cons_zero, List.getElem_cons_succ, List.setIfInBounds_toArray, List.set_cons_zero, List.set_cons_succ]
    refine wpAnyH_take (i := 35) (v := ?vz35) rfl (by kernel_rfl) (by kernel_rfl) (by kernel_rfl) (fun _ _ _ h => h) (Or.inl ⟨by rfl, ?hyz35⟩) hS ?restz35
    case hyz35 => (intro w' hSw; go_simp; first | done | with_reducible rfl)
    try simp only [Act.put, List.getElem_toArray, List.getElem_cons_zero, List.getElem_cons_succ, List.setIfInBounds_toArray, List.set_cons_zero, List.set_cons_succ]
    refine wpAnyH_ready (rs := [36]) (by kernel_rfl) (by simp) ?_
    refine AllReadyH.cons rfl (fun K hK => ?_) AllReadyH.nil
    go_simp
    refine (awake_ x2).mono ?_
    rintro e x3 ⟨rfl, b⟩
    have P3 := Lib.hid b
    clear b
    go_wp2_with fail
    refine hK.out _ _ P3.out ?_
    intro hS
    clear hK K hS
    try simp only [Act.put, List.getElem_toArray, List.getElem_cons_zero, List.getElem_cons_succ, List.setIfInBounds_toArray, List.set_cons_zero, List.set_cons_succ]
    have hS := P3.out
    refine wpAnyH_take (i := 37) (v := .bool true) rfl (by kernel_rfl) (by kernel_rfl) (by kernel_rfl) (fun _ _ _ h => h) (Or.inl ⟨by rfl, ?hyz37⟩) hS ?restz37
    case hyz37 => (intro w' hSw; go_simp; first | done | with_reducible rfl)
    try simp only [Act.put, List.getElem_toArray, List.getElem_cons_zero, List.getElem_cons_succ, List.setIfInBounds_toArray, List.set_cons_zero, List.set_cons_succ]
    refine wpAnyH_take (i := 38) (v := ?vz38) rfl (by kernel_rfl) (by kernel_rfl) (by kernel_rfl) (fun _ _ _ h => h) (Or.inl ⟨by rfl, ?hyz38⟩) hS ?restz38
    case hyz38 => (intro w' hSw; go_simp; first | done | with_reducible rfl)
    try simp only [Act.put, List.getElem_toArray, List.getElem_cons_zero, List.getElem_cons_succ, List.setIfInBounds_toArray, List.set_cons_zero, List.set_cons_succ]
    refine wpAnyH_done (by kernel_rfl) (NoPanic.normal ?_) _
    go_wp2_with fail
    go_ret
    refine ⟨rfl, ?_⟩
    exact B6.out.trans ((P2.out.trans (P3.out.mono P2.out.size)).mono B6.out.size)
  · have hrN : decide (rightN l.au l.sq l.ep n m) = false := by rw [decide_eq_false_iff_not, ← hA.out, ← hBm.out]; exact fun h => hr ((rightL_N l).2 h)
    clear hr
    go_wp2_with fail
    clear c0 c1 c2 c3 c4
    refine (digest_no _ l A n c B m d u hrN).mono ?_
    rintro e v ⟨rfl, b⟩
    have BV := Lib.hid (BU.out.trans (b.mono BU.out.size))
    have RV := range_keep RU b hGu.out
    have hGv : Hid (G < v.heap.size) := Nat.lt_of_lt_of_le hGu.out b.size
    clear b
    have c0 := RV 0 _ rfl
    have c1 := RV 1 _ rfl
    have c2 := RV 2 _ rfl
    have c3 := RV 3 _ rfl
    have c4 := RV 4 _ rfl
    go_wp2_with fail
    clear c0 c1 c2 c3 c4
    refine (refRight_ l.au l.sq l.ep A n c B m d v).mono ?_
    rintro e x ⟨he, b⟩
    rw [hrN] at he
    subst he
    have BX := Lib.hid (BV.out.trans (b.mono BV.out.size))
    have RX := range_keep RV b hGv.out
    have hGx : Hid (G < x.heap.size) := Nat.lt_of_lt_of_le hGv.out b.size
    clear b
    have c0 := RX 0 _ rfl
    have c1 := RX 1 _ rfl
    have c2 := RX 2 _ rfl
    have c3 := RX 3 _ rfl
    have c4 := RX 4 _ rfl
    go_wp2_with fail
    clear c0 c1 c2 c3 c4
    refine (right_ l.au l.sq l.ep A n c B m d x).mono ?_
    rintro e y ⟨he, b⟩
    rw [hrN] at he
    subst he
    have BY2 := Lib.hid (BX.out.trans (b.mono BX.out.size))
    clear b
    go_wp2_with fail
    refine (awake_ y).mono ?_
    rintro e z ⟨rfl, b⟩
    have BZ := Lib.hid (BY2.out.trans (b.mono BY2.out.size))
    clear b
    go_wp2_with fail
    go_ret
    exact ⟨rfl, BZ.out⟩
end Go.Proofs.Ytabcbpcfleociaa
