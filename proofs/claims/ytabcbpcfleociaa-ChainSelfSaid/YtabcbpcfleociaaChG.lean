/- A book's Check. (Printed by gen_chg.py.) -/
import Derived.Test.YtabcbpcfleociaaChF
namespace Go.Proofs.Ytabcbpcfleociaa
open Go.RowKit Go.Maps
attribute [local go_sem ↓] Go.wp_at_zero Go.wp_at_succ
set_option linter.unusedSimpArgs false
set_option linter.unusedVariables false
theorem check_none (s : Value) (l : Ln) (A : Option Addr) (n c : Nat) (B : Option Addr) (m d : Nat) (w : World) :
    Calls Try.prog 20 #[.pointer none, s, lnV l A n c B m d] w fun e w' => e = .returned (.int .i64 1) ∧ Below w.heap.size w w' := by
  have hb : Below w.heap.size w (w.alloc (.cells #[.int .i64 l.au, .int .i64 l.sq, .int .i64 l.ep, .slice A n c, .slice B m d] 40)) := (Below.refl _ _).alloc (Nat.le_refl _) _
  go_enter Try.func20, Try.ntmps20
  unfold lnV
  go_wp2_with fail
  go_ret
  exact ⟨rfl, hb⟩
set_option maxRecDepth 20000 in
set_option maxHeartbeats 1000000 in
theorem check_bad (gb : Nat) (s : Value) (l : Ln) (A : Option Addr) (n c : Nat) (B : Option Addr) (m d : Nat) (w : World)
    (hp : Rd w w.heap.size 1 A n (l.pv.map B8)) (hq : Rd w w.heap.size 1 B m (l.bd.map B8)) (hr : ¬ rightL l) :
    Calls Try.prog 20 #[.pointer (some ⟨gb, 0, none⟩), s, lnV l A n c B m d] w fun e w' => e = .returned (.int .i64 1) ∧ Below w.heap.size w w' := by
  have hA : Hid (l.pv.length = n) := by unfold Hid; simpa using hp.len
  have hBm : Hid (l.bd.length = m) := by unfold Hid; simpa using hq.len
  obtain ⟨Y, hY⟩ : ∃ Y, Hid (Y = w.alloc (.cells #[.int .i64 l.au, .int .i64 l.sq, .int .i64 l.ep, .slice A n c, .slice B m d] 40)) := ⟨_, Lib.hid rfl⟩
  have BY : Hid (Below w.heap.size w Y) := by rw [hY.out]; exact (Below.refl _ _).alloc (Nat.le_refl _) _
  obtain ⟨G, hG⟩ : ∃ g, Hid (g = w.heap.size) := ⟨_, Lib.hid rfl⟩
  have RY : Hid (Y.rangeAt G 0 [.int .i64 l.au, .int .i64 l.sq, .int .i64 l.ep, .slice A n c, .slice B m d]) := by rw [hY.out, hG.out]; exact rangeNew w _ _
  have hGY : Hid (G < Y.heap.size) := by unfold Hid; rw [hG.out, hY.out, szAlloc]; exact Nat.lt_succ_self _
  have hr : decide (rightN l.au l.sq l.ep n m) = false := by rw [decide_eq_false_iff_not, ← hA.out, ← hBm.out]; exact fun h => hr ((rightL_N l).2 h)
  clear hp hq
  go_enter Try.func20, Try.ntmps20
  unfold lnV
  go_wp2_with fail
  rw [← hY.out]
  refine (right_ l.au l.sq l.ep A n c B m d Y).mono ?_
  rintro e Z ⟨he, b1⟩
  rw [hr] at he
  subst he
  have B1 := Lib.hid (BY.out.trans (b1.mono BY.out.size))
  clear hr b1
  go_wp2_with fail
  go_ret
  exact ⟨rfl, B1.out⟩
set_option maxRecDepth 20000 in
set_option maxHeartbeats 1000000 in
theorem check_good (gb : Nat) (S : Bk) (ob Rb : List Nat) (gi : Nat) (hs : List (List UInt8)) (oi Ri : List Nat) (l : Ln) (A : Option Addr) (n c : Nat) (B : Option Addr) (m d : Nat) (w : World) (hK : BookAt w gb S ob Rb) (hI : IdealAt w gi hs oi Ri)
    (hp : Rd w w.heap.size 1 A n (l.pv.map B8)) (hq : Rd w w.heap.size 1 B m (l.bd.map B8)) (ho : ∀ k, k ∈ oi → k ∈ Rb) (hn : hs.length ≤ 1000000) (hR : ∀ k, k ∈ Ri → k < w.heap.size) (hr : rightL l) :
    Calls Try.prog 20 #[.pointer (some ⟨gb, 0, none⟩), .iface 27 (.pointer (some ⟨gi, 0, none⟩)), lnV l A n c B m d] w fun e w' => ∃ oi', e = .returned (.int .i64 (checkE S hs l)) ∧ IdealAt w' gi (checkH S hs l) oi' Ri ∧ Fr oi w w' oi' := by
  have hA : Hid (l.pv.length = n) := by unfold Hid; simpa using hp.len
  have hBm : Hid (l.bd.length = m) := by unfold Hid; simpa using hq.len
  obtain ⟨Y, hY⟩ : ∃ Y, Hid (Y = w.alloc (.cells #[.int .i64 l.au, .int .i64 l.sq, .int .i64 l.ep, .slice A n c, .slice B m d] 40)) := ⟨_, Lib.hid rfl⟩
  have BY : Hid (Below w.heap.size w Y) := by rw [hY.out]; exact (Below.refl _ _).alloc (Nat.le_refl _) _
  obtain ⟨G, hG⟩ : ∃ g, Hid (g = w.heap.size) := ⟨_, Lib.hid rfl⟩
  have RY : Hid (Y.rangeAt G 0 [.int .i64 l.au, .int .i64 l.sq, .int .i64 l.ep, .slice A n c, .slice B m d]) := by rw [hY.out, hG.out]; exact rangeNew w _ _
  have hGY : Hid (G < Y.heap.size) := by unfold Hid; rw [hG.out, hY.out, szAlloc]; exact Nat.lt_succ_self _
  have hrN : decide (rightN l.au l.sq l.ep n m) = true := by rw [decide_eq_true_iff, ← hA.out, ← hBm.out]; exact (rightL_N l).1 hr
  have hGo : Hid (∀ k, k ∈ oi → k < G) := by unfold Hid; rw [hG.out]; exact note_lt hI
  have hau : Hid (0 ≤ l.au ∧ l.au < 5) := ⟨hr.1.1, hr.1.2.1⟩
  have hsq : Hid (1 ≤ l.sq ∧ l.sq ≤ 1048576) := ⟨hr.1.2.2.1, hr.1.2.2.2.1⟩
  have HK := Lib.hid hK
  have HI := Lib.hid hI
  have HP := Lib.hid hp
  have HQ := Lib.hid hq
  have HO := Lib.hid ho
  have HR := Lib.hid hR
  have HN := Lib.hid hn
  have Hr := Lib.hid hr
  clear hK hI hp hq ho hR hn hr
  go_enter Try.func20, Try.ntmps20
  unfold lnV
  go_wp2_with fail
  rw [← hY.out, ← hG.out]
  refine (right_ l.au l.sq l.ep A n c B m d Y).mono ?_
  rintro e Z ⟨he, b1⟩
  rw [hrN] at he
  subst he
  have BZ := Lib.hid (BY.out.trans (b1.mono BY.out.size))
  have RZ := Lib.hid (range_keep RY.out b1 hGY.out)
  have hGZ : Hid (G < Z.heap.size) := Nat.lt_of_lt_of_le hGY.out b1.size
  clear hrN b1
  go_wp2_with fail
  obtain ⟨X, hX⟩ : ∃ W, Hid (W = Z.drew) := ⟨_, Lib.hid rfl⟩
  have dX : Below Z.heap.size Z X := by rw [hX.out]; exact below_drew (Below.refl _ _)
  have RX := Lib.hid (range_keep RZ.out dX hGZ.out)
  have hGX : Hid (G < X.heap.size) := Nat.lt_of_lt_of_le hGZ.out dX.size
  have BX := Lib.hid (BZ.out.trans (dX.mono BZ.out.size))
  obtain ⟨b, nb, f, hv⟩ := HK.out.below BX.out
  obtain ⟨RA, Rc, ef, hRc, hrow⟩ := hv.rows l.au
  have hbl := cell_blk hv.blk 0 rfl
  have hlk := hv.look ⟨by have := hau.out; omega, by have := hau.out; omega⟩ ef
  have HV := Lib.hid hv
  have HROW := Lib.hid hrow
  have hef := Lib.hid ef
  obtain ⟨L, hL⟩ : ∃ L, Hid ((ofA S l.au).length = L) := ⟨_, Lib.hid rfl⟩
  rw [hL.out] at hlk HROW hRc hef
  have c0 := RX.out 0 _ rfl
  clear hv hrow ef
  refine wp_region_noPanic ?_
  refine wp_region_held_drew (S := fun w' => w' = X) (by kernel_rfl) hX.out.symm (fun hS => ?_)
  rw [← hX.out]
  clear hS
  have hS : X = X := rfl
  refine wpAnyH_take (i := 0) (v := ?v0) rfl (by kernel_rfl) (by kernel_rfl) (by kernel_rfl) (fun _ _ _ h => h) (Or.inl ⟨by rfl, ?hy0⟩) hS ?rest0
  case hy0 => ((intro w' hSw; subst hSw; go_simp; first | done | with_reducible rfl))
  try simp only [Act.put, List.getElem_toArray, List.getElem_cons_zero, List.getElem_cons_succ, List.setIfInBounds_toArray, List.set_cons_zero, List.set_cons_succ]
  refine wpAnyH_take (i := 1) (v := ?v1) rfl (by kernel_rfl) (by kernel_rfl) (by kernel_rfl) (fun _ _ _ h => h) (Or.inl ⟨by rfl, ?hy1⟩) hS ?rest1
  case hy1 => ((intro w' hSw; subst hSw; go_simp; first | done | with_reducible rfl))
  try simp only [Act.put, List.getElem_toArray, List.getElem_cons_zero, List.getElem_cons_succ, List.setIfInBounds_toArray, List.set_cons_zero, List.set_cons_succ]
  refine wpAnyH_take (i := 2) (v := ?v2) rfl (by kernel_rfl) (by kernel_rfl) (by kernel_rfl) (fun _ _ _ h => h) (Or.inl ⟨by rfl, ?hy2⟩) hS ?rest2
  case hy2 => ((intro w' hSw; subst hSw; go_simp; first | done | with_reducible rfl))
  try simp only [Act.put, List.getElem_toArray, List.getElem_cons_zero, List.getElem_cons_succ, List.setIfInBounds_toArray, List.set_cons_zero, List.set_cons_succ]
  refine wpAnyH_take (i := 3) (v := .map (some b)) rfl (by kernel_rfl) (by kernel_rfl) (by kernel_rfl) (fun _ _ _ h => h) (Or.inl ⟨by rfl, ?hy3⟩) hS ?rest3
  case hy3 => ((intro w' hSw; subst hSw; go_simp; first | done | with_reducible rfl))
  try simp only [Act.put, List.getElem_toArray, List.getElem_cons_zero, List.getElem_cons_succ, List.setIfInBounds_toArray, List.set_cons_zero, List.set_cons_succ]
  refine wpAnyH_take (i := 4) (v := ?v4) rfl (by kernel_rfl) (by kernel_rfl) (by kernel_rfl) (fun _ _ _ h => h) (Or.inl ⟨by rfl, ?hy4⟩) hS ?rest4
  case hy4 => ((intro w' hSw; subst hSw; go_simp; first | done | with_reducible rfl))
  try simp only [Act.put, List.getElem_toArray, List.getElem_cons_zero, List.getElem_cons_succ, List.setIfInBounds_toArray, List.set_cons_zero, List.set_cons_succ]
  refine wpAnyH_take (i := 5) (v := .int .i64 l.au) rfl (by kernel_rfl) (by kernel_rfl) (by kernel_rfl) (fun _ _ _ h => h) (Or.inl ⟨by rfl, ?hy5⟩) hS ?rest5
  case hy5 => ((intro w' hSw; subst hSw; go_simp; first | done | with_reducible rfl))
  try simp only [Act.put, List.getElem_toArray, List.getElem_cons_zero, List.getElem_cons_succ, List.setIfInBounds_toArray, List.set_cons_zero, List.set_cons_succ]
  refine wpAnyH_take (i := 6) (v := .slice RA L Rc) rfl (by kernel_rfl) (by kernel_rfl) (by kernel_rfl) (fun _ _ _ h => h) (Or.inl ⟨by rfl, ?hy6⟩) hS ?rest6
  case hy6 => ((intro w' hSw; subst hSw; go_simp; first | done | with_reducible rfl))
  try simp only [Act.put, List.getElem_toArray, List.getElem_cons_zero, List.getElem_cons_succ, List.setIfInBounds_toArray, List.set_cons_zero, List.set_cons_succ]
  refine wpAnyH_take (i := 7) (v := ?v7) rfl (by kernel_rfl) (by kernel_rfl) (by kernel_rfl) (fun _ _ _ h => h) (Or.inl ⟨by rfl, ?hy7⟩) hS ?rest7
  case hy7 => ((intro w' hSw; subst hSw; go_simp; first | done | with_reducible rfl))
  try simp only [Act.put, List.getElem_toArray, List.getElem_cons_zero, List.getElem_cons_succ, List.setIfInBounds_toArray, List.set_cons_zero, List.set_cons_succ]
  refine wpAnyH_done (by kernel_rfl) (NoPanic.normal ?_) _
  clear c0 hbl hlk hS
  have hLm : Hid (L ≤ 1048576) := by have h1 := ofA_len S l.au; have h2 := HV.out.sm; have h3 := hL.out; unfold Hid; omega
  have RXc := RX.out
  have e0 := RXc 0 _ rfl
  have e1 := RXc 1 _ rfl
  have e2 := RXc 2 _ rfl
  have e3 := RXc 3 _ rfl
  clear RXc
  by_cases hle : l.sq ≤ (L : Int)
  · obtain ⟨i, hi⟩ : ∃ i, Hid ((l.sq - 1).toNat = i) := ⟨_, Lib.hid rfl⟩
    have hiL : i < L := by have := hi.out; have := hsq.out; omega
    have hi0 : (0 : Int) ≤ (i : Int) := by omega
    have hiL' : (i : Int) < (L : Int) := by omega
    have hidx : IntKind.i64.wrap (l.sq - 1) = (i : Int) := by rw [IntWalk.i64_in _ (by have := hsq.out; omega)]; have := hi.out; have := hsq.out; omega
    obtain ⟨k, hk⟩ : ∃ k, (ofA S l.au)[i]? = some k := ⟨_, List.getElem?_eq_getElem (by rw [hL.out]; exact hiL)⟩
    have hko := Lib.hid (HV.out.ok.of (List.mem_of_getElem? hk))
    have hEk : Hid (checkE S hs l = if k.dg = digL hs l then 16 else 18) := checkE_old Hr.out (by rw [hL.out]; exact hle) (by rw [hi.out]; exact hk)
    have hHk : Hid (checkH S hs l = note hs (bytesL l)) := checkH_old Hr.out (by rw [hL.out]; exact hle)
    obtain ⟨rb, ro, rfl, hrb, hrg⟩ := HROW.out.1.kn (fun k h => HV.out.ok.of h) hL.out hk
    have hrno : Hid (rb ∉ ob ++ Rb) := HROW.out.2 rb ro (by omega) rfl
    have HRG := Lib.hid hrg
    have HRB := Lib.hid hrb
    obtain ⟨bb, hbb⟩ : ∃ b, Hid (decide (k.dg = digL hs l) = b) := ⟨_, Lib.hid rfl⟩
    clear hrg hrb hk
    go_wp2_with fail
    obtain ⟨T, hT⟩ : ∃ W, Hid (W = X.drew) := ⟨_, Lib.hid rfl⟩
    have dT : Below X.heap.size X T := by rw [hT.out]; exact below_drew (Below.refl _ _)
    have RT := Lib.hid (range_keep RX.out dT hGX.out)
    have hGT : Hid (G < T.heap.size) := Nat.lt_of_lt_of_le hGX.out dT.size
    have BT := Lib.hid (BX.out.trans (dT.mono BX.out.size))
    have KT : Hid (T.rangeAt rb (ro + i * 65) (knC k)) := fun j v hj => (World.cell?_of_block (a := ⟨rb, ro + i * 65 + j, none⟩) (dT.block rb HRB.out)).trans (HRG.out j v hj)
    have hrT : Hid (rb < T.heap.size) := Nat.lt_of_lt_of_le HRB.out dT.size
    have PT := Lib.hid (HP.out.to BT.out)
    have QT := Lib.hid (HQ.out.to BT.out)
    have IT := Lib.hid (HI.out.below BT.out)
    refine wp_region_noPanic ?_
    refine wp_region_held_drew (S := fun w' => w'.rangeAt G 0 [.int .i64 l.au, .int .i64 l.sq, .int .i64 l.ep, .slice A n c, .slice B m d]) (by kernel_rfl) (by rw [← hT.out]; exact RT.out) (fun hS => ?_)
    rw [← hT.out]
    clear hS
    have hS : T.rangeAt G 0 [.int .i64 l.au, .int .i64 l.sq, .int .i64 l.ep, .slice A n c, .slice B m d] := RT.out
    refine wpAnyH_take (i := 0) (v := ?vc0) rfl (by kernel_rfl) (by kernel_rfl) (by kernel_rfl) (fun _ _ _ h => h) (Or.inl ⟨by rfl, ?hyc0⟩) hS ?restc0
    case hyc0 => (intro w' hSw; go_simp; first | done | with_reducible rfl)
    try simp only [Act.put, List.getElem_toArray, List.getElem_cons_zero, List.getElem_cons_succ, List.setIfInBounds_toArray, List.set_cons_zero, List.set_cons_succ]
    refine wpAnyH_take (i := 1) (v := ?vc1) rfl (by kernel_rfl) (by kernel_rfl) (by kernel_rfl) (fun _ _ _ h => h) (Or.inl ⟨by rfl, ?hyc1⟩) hS ?restc1
    case hyc1 => (intro w' hSw; go_simp; first | done | with_reducible rfl)
    try simp only [Act.put, List.getElem_toArray, List.getElem_cons_zero, List.getElem_cons_succ, List.setIfInBounds_toArray, List.set_cons_zero, List.set_cons_succ]
    refine wpAnyH_take (i := 2) (v := .int .i64 l.sq) rfl (by kernel_rfl) (by kernel_rfl) (by kernel_rfl) (fun _ _ _ h => h) (Or.inl ⟨by rfl, ?hyc2⟩) hS ?restc2
    case hyc2 => (intro w' hSw; have c1 := hSw 1 _ rfl; go_simp; first | done | with_reducible rfl)
    try simp only [Act.put, List.getElem_toArray, List.getElem_cons_zero, List.getElem_cons_succ, List.setIfInBounds_toArray, List.set_cons_zero, List.set_cons_succ]
    refine wpAnyH_take (i := 3) (v := .int .i64 (i : Int)) rfl (by kernel_rfl) (by kernel_rfl) (by kernel_rfl) (fun _ _ _ h => h) (Or.inl ⟨by rfl, ?hyc3⟩) hS ?restc3
    case hyc3 => (intro w' hSw; have h := hidx; go_simp; first | done | with_reducible rfl)
    try simp only [Act.put, List.getElem_toArray, List.getElem_cons_zero, List.getElem_cons_succ, List.setIfInBounds_toArray, List.set_cons_zero, List.set_cons_succ]
    refine wpAnyH_take (i := 4) (v := .pointer (some ⟨rb, ro + i * 65, none⟩)) rfl (by kernel_rfl) (by kernel_rfl) (by kernel_rfl) (fun _ _ _ h => h) (Or.inl ⟨by rfl, ?hyc4⟩) hS ?restc4
    case hyc4 => (intro w' hSw; have h1 := hi0; have h2 := hiL'; have h3 := hiL; go_simp; first | done | with_reducible rfl)
    try simp only [Act.put, List.getElem_toArray, List.getElem_cons_zero, List.getElem_cons_succ, List.setIfInBounds_toArray, List.set_cons_zero, List.set_cons_succ]
    refine wpAnyH_take (i := 5) (v := ?vc5) rfl (by kernel_rfl) (by kernel_rfl) (by kernel_rfl) (fun _ _ _ h => h) (Or.inl ⟨by rfl, ?hyc5⟩) hS ?restc5
    case hyc5 => (intro w' hSw; go_simp; first | done | with_reducible rfl)
    try simp only [Act.put, List.getElem_toArray, List.getElem_cons_zero, List.getElem_cons_succ, List.setIfInBounds_toArray, List.set_cons_zero, List.set_cons_succ]
    refine wpAnyH_take (i := 6) (v := .slice (some ⟨rb, ro + i * 65, none⟩) 32 32) rfl (by kernel_rfl) (by kernel_rfl) (by kernel_rfl) (fun _ _ _ h => h) (Or.inl ⟨by rfl, ?hyc6⟩) hS ?restc6
    case hyc6 => (intro w' hSw; go_simp; first | done | with_reducible rfl)
    try simp only [Act.put, List.getElem_toArray, List.getElem_cons_zero, List.getElem_cons_succ, List.setIfInBounds_toArray, List.set_cons_zero, List.set_cons_succ]
    refine wpAnyH_take (i := 7) (v := ?vc7) rfl (by kernel_rfl) (by kernel_rfl) (by kernel_rfl) (fun _ _ _ h => h) (Or.inl ⟨by rfl, ?hyc7⟩) hS ?restc7
    case hyc7 => (intro w' hSw; go_simp; first | done | with_reducible rfl)
    try simp only [Act.put, List.getElem_toArray, List.getElem_cons_zero, List.getElem_cons_succ, List.setIfInBounds_toArray, List.set_cons_zero, List.set_cons_succ]
    refine wpAnyH_take (i := 8) (v := .agg #[.int .i64 l.au, .int .i64 l.sq, .int .i64 l.ep, .slice A n c, .slice B m d]) rfl (by kernel_rfl) (by kernel_rfl) (by kernel_rfl) (fun _ _ _ h => h) (Or.inl ⟨by rfl, ?hyc8⟩) hS ?restc8
    case hyc8 => (intro w' hSw; have c0 := hSw 0 _ rfl; have c1 := hSw 1 _ rfl; have c2 := hSw 2 _ rfl; have c3 := hSw 3 _ rfl; have c4 := hSw 4 _ rfl; go_simp; first | done | with_reducible rfl)
    try simp only [Act.put, List.getElem_toArray, List.getElem_cons_zero, List.getElem_cons_succ, List.setIfInBounds_toArray, List.set_cons_zero, List.set_cons_succ]
    refine wpAnyH_ready (rs := [9]) (by kernel_rfl) (by simp) ?_
    refine AllReadyH.cons rfl (fun K hK => ?_) AllReadyH.nil
    go_simp
    refine (digest_ gi hs oi Ri l A n c B m d T IT.out PT.out QT.out Hr.out HN.out (fun k hk => Nat.lt_of_lt_of_le (HR.out k hk) BT.out.size)).mono ?_
    rintro e u ⟨oi', A6, c6, rfl, o6, i6, f6⟩
    have S6 : u.rangeAt G 0 [.int .i64 l.au, .int .i64 l.sq, .int .i64 l.ep, .slice A n c, .slice B m d] := fun j v hj => (World.cell?_of_block (a := ⟨G, 0 + j, none⟩) (f6.block G hGT.out (fun hm => Nat.lt_irrefl _ (hGo.out G hm)))).trans (RT.out j v hj)
    have K6 : Hid (u.rangeAt rb (ro + i * 65) (knC k)) := fun j v hj => (World.cell?_of_block (a := ⟨rb, ro + i * 65 + j, none⟩) (f6.block rb hrT.out (fun hm => hrno.out (List.mem_append.2 (Or.inr (HO.out rb hm)))))).trans (KT.out j v hj)
    have O6 := Lib.hid o6.rd
    have I6 := Lib.hid i6
    have F6 : Hid (Fr oi w u oi') := (Fr.below BT.out).trans f6
    clear o6 i6 f6
    go_wp2_with fail
    refine hK.out _ _ S6 ?_
    intro hS
    clear hK K hS
    try simp only [Act.put, List.getElem_toArray, List.getElem_cons_zero, List.getElem_cons_succ, List.setIfInBounds_toArray, List.set_cons_zero, List.set_cons_succ]
    have hS : u.rangeAt G 0 [.int .i64 l.au, .int .i64 l.sq, .int .i64 l.ep, .slice A n c, .slice B m d] := S6
    refine wpAnyH_ready (rs := [10]) (by kernel_rfl) (by simp) ?_
    refine AllReadyH.cons rfl (fun K hK => ?_) AllReadyH.nil
    go_simp
    refine (equal_ _ 32 32 k.dg A6 32 c6 (digL hs l) u (Rd.of_kn K6.out hko.out) O6.out).mono ?_
    rintro e v ⟨he, rfl⟩
    rw [hbb.out] at he
    subst he
    go_wp2_with fail
    refine hK.out _ _ S6 ?_
    intro hS
    clear hK K hS
    try simp only [Act.put, List.getElem_toArray, List.getElem_cons_zero, List.getElem_cons_succ, List.setIfInBounds_toArray, List.set_cons_zero, List.set_cons_succ]
    refine wpAnyH_done (by kernel_rfl) (NoPanic.normal ?_) _
    cases bb
    · have hv : checkE S hs l = 18 := by rw [hEk.out]; exact if_neg (of_decide_eq_false hbb.out)
      go_wp2_with fail
      go_ret
      exact ⟨oi', by rw [hv]; rfl, by rw [hHk.out]; exact I6.out, F6.out⟩
    · have hv : checkE S hs l = 16 := by rw [hEk.out]; exact if_pos (of_decide_eq_true hbb.out)
      go_wp2_with fail
      go_ret
      exact ⟨oi', by rw [hv]; rfl, by rw [hHk.out]; exact I6.out, F6.out⟩
  · have hHn : Hid (checkH S hs l = hs) := checkH_new (fun h => hle (by rw [← hL.out]; exact h.2))
    have hwr : IntKind.i64.wrap ((L : Int) + 1) = (L : Int) + 1 := IntWalk.i64_in _ (by have := hLm.out; omega)
    have IX := Lib.hid (HI.out.below BX.out)
    by_cases hgap : (L : Int) + 1 < l.sq
    · have hv : Hid (checkE S hs l = 15) := checkE_gap Hr.out (by rw [hL.out]; exact hgap)
      go_wp2_with fail
      go_ret
      first | exact ⟨oi, by rw [hv.out]; rfl, by rw [hHn.out]; exact IX.out, Fr.below BX.out⟩ | exact ⟨by rw [hv.out]; rfl, oi, by rw [hHn.out]; exact IX.out, Fr.below BX.out⟩
    · have hEn := Lib.hid (checkE_next (hs := hs) Hr.out (by rw [hL.out]; omega))
      go_wp2_with fail
      refine (head_in gb S ob Rb l.au X ⟨b, nb, f, HV.out⟩ hau.out.1 hau.out.2).mono ?_
      rintro e u ⟨hA', hm', hc', rfl, e1, o1, b1⟩
      have O1 := Lib.hid o1.rd
      have B1 := Lib.hid (BX.out.trans (b1.mono BX.out.size))
      have P1 := Lib.hid (HP.out.to B1.out)
      have I1 := Lib.hid (HI.out.below B1.out)
      have R1 := Lib.hid (range_keep RX.out b1 hGX.out)
      have V1 := Lib.hid (HV.out.below b1)
      obtain ⟨bb, hbb⟩ : ∃ b, Hid (decide (lastDg (ofA S l.au) = l.pv) = b) := ⟨_, Lib.hid rfl⟩
      rw [hL.out]
      have f3 : ∀ o, (u.alloc o).cell? ⟨G, 3, none⟩ = some (.slice A n c) := fun o => (World.cell?_alloc_lt u o _ (Nat.lt_of_lt_of_le hGX.out b1.size)).trans (R1.out 3 _ rfl)
      have f2 : ∀ o, (u.alloc o).cell? ⟨G, 2, none⟩ = some (.int .i64 l.ep) := fun o => (World.cell?_alloc_lt u o _ (Nat.lt_of_lt_of_le hGX.out b1.size)).trans (R1.out 2 _ rfl)
      clear o1 b1 e0 e1 e2 e3
      go_wp2_with fail
      refine (equal_ hA' hm' hc' (lastDg (ofA S l.au)) A n c l.pv _ (O1.out.to ((Below.refl _ _).alloc (Nat.le_refl _) _)) (P1.out.to ((Below.refl _ _).alloc (Nat.le_refl _) _))).mono ?_
      rintro e v ⟨he, rfl⟩
      rw [hbb.out] at he
      subst he
      have B2 : Hid (Below w.heap.size w (u.alloc (.cells #[.int .i64 l.au, .int .i64 (L : Int), .slice hA' hm' hc'] 45))) := B1.out.alloc B1.out.size _
      have I2 := Lib.hid (HI.out.below B2.out)
      by_cases hbt : lastDg (ofA S l.au) = l.pv
      · have hbb' : bb = true := by rw [← hbb.out]; exact decide_eq_true hbt
        subst hbb'
        rw [if_pos hbt] at hEn
        go_wp2_with fail
        by_cases hL0 : L = 0
        · subst hL0
          have hEn2 : Hid (checkE S hs l = 0) := by rw [hEn.out, if_neg (by rw [List.length_eq_zero_iff.1 hL.out]; have h1 := Hr.out.1.2.2.2.2.1; have h2 : lastEp [] = 0 := rfl; rw [h2]; omega)]; exact (rfl : (0 : Int) = 0)
          go_quiet (fail)
          go_wp2_with fail
          go_ret
          first | exact ⟨oi, by rw [hEn2.out]; rfl, by rw [hHn.out]; exact (I2.out.below (below_drewN (Below.refl _ _) _)), Fr.below (below_drewN B2.out _)⟩ | exact ⟨by rw [hEn2.out]; rfl, oi, by rw [hHn.out]; exact (I2.out.below (below_drewN (Below.refl _ _) _)), Fr.below (below_drewN B2.out _)⟩
        · have hLp : (0 : Int) < (L : Int) := by omega
          have hLp2 : 0 < L := by omega
          obtain ⟨k, hk1, hk2⟩ := last_at (L := ofA S l.au) (fun h => hL0 (by rw [← hL.out, h]; rfl))
          have hle' : Hid (lastEp (ofA S l.au) = k.ep) := by unfold Hid; rw [lastEp, hk2]; rfl
          rw [hL.out] at hk1
          obtain ⟨i, hi⟩ : ∃ i, Hid (L = i + 1) := ⟨L - 1, by unfold Hid; omega⟩
          rw [show L - 1 = i by have := hi.out; omega] at hk1
          have hko := Lib.hid (V1.out.ok.of (List.mem_of_getElem? hk1))
          have hrow1 : RdN (ob ++ Rb) u 65 RA L ((ofA S l.au).flatMap knC) := by
            obtain ⟨A2, c2, ef2, _, hr2⟩ := V1.out.rows l.au
            rw [hL.out] at ef2 hr2
            have e4 := hef.out.symm.trans ef2
            injection e4 with e4
            rw [e4]; exact hr2
          obtain ⟨rb, ro, rfl, hrb, hrg⟩ := hrow1.1.kn (fun k h => V1.out.ok.of h) hL.out hk1
          have fe : ∀ o, (u.alloc o).cell? ⟨rb, ro + i * 65 + 64, none⟩ = some (.int .i64 k.ep) := fun o => (World.cell?_alloc_lt u o _ hrb).trans (hrg 64 _ (knC_ep hko.out))
          have hwi : IntKind.i64.wrap ((L : Int) - 1) = (i : Int) := by rw [IntWalk.i64_in _ (by have := hLm.out; omega)]; have := hi.out; omega
          have hiL : i < L := by have := hi.out; omega
          have hiL' : (i : Int) < (L : Int) := by omega
          have hi0 : (0 : Int) ≤ (i : Int) := by omega
          rw [hle'.out] at hEn
          clear hrow1 hrg hk1 hk2
          by_cases hlt : l.ep < k.ep
          · have hEn2 : Hid (checkE S hs l = 20) := by rw [hEn.out, if_pos hlt]; exact (rfl : (20 : Int) = 20)
            go_quiet (fail)
            go_wp2_with fail
            go_ret
            first | exact ⟨oi, by rw [hEn2.out]; rfl, by rw [hHn.out]; exact (I2.out.below (below_drewN (Below.refl _ _) _)), Fr.below (below_drewN B2.out _)⟩ | exact ⟨by rw [hEn2.out]; rfl, oi, by rw [hHn.out]; exact (I2.out.below (below_drewN (Below.refl _ _) _)), Fr.below (below_drewN B2.out _)⟩
          · have hEn2 : Hid (checkE S hs l = 0) := by rw [hEn.out, if_neg hlt]; exact (rfl : (0 : Int) = 0)
            go_quiet (fail)
            go_wp2_with fail
            go_ret
            first | exact ⟨oi, by rw [hEn2.out]; rfl, by rw [hHn.out]; exact (I2.out.below (below_drewN (Below.refl _ _) _)), Fr.below (below_drewN B2.out _)⟩ | exact ⟨by rw [hEn2.out]; rfl, oi, by rw [hHn.out]; exact (I2.out.below (below_drewN (Below.refl _ _) _)), Fr.below (below_drewN B2.out _)⟩
      · have hbb' : bb = false := by rw [← hbb.out]; exact decide_eq_false hbt
        subst hbb'
        rw [if_neg hbt] at hEn
        go_wp2_with fail
        go_ret
        first | exact ⟨oi, by rw [hEn.out]; rfl, by rw [hHn.out]; exact I2.out, Fr.below B2.out⟩ | exact ⟨by rw [hEn.out]; rfl, oi, by rw [hHn.out]; exact I2.out, Fr.below B2.out⟩
theorem check_ (gb : Nat) (S : Bk) (ob Rb : List Nat) (gi : Nat) (hs : List (List UInt8)) (oi Ri : List Nat) (l : Ln) (A : Option Addr) (n c : Nat) (B : Option Addr) (m d : Nat) (w : World) (hK : BookAt w gb S ob Rb) (hI : IdealAt w gi hs oi Ri)
    (hp : Rd w w.heap.size 1 A n (l.pv.map B8)) (hq : Rd w w.heap.size 1 B m (l.bd.map B8)) (ho : ∀ k, k ∈ oi → k ∈ Rb) (hn : hs.length ≤ 1000000) (hR : ∀ k, k ∈ Ri → k < w.heap.size) :
    Calls Try.prog 20 #[.pointer (some ⟨gb, 0, none⟩), .iface 27 (.pointer (some ⟨gi, 0, none⟩)), lnV l A n c B m d] w fun e w' => ∃ oi', e = .returned (.int .i64 (checkE S hs l)) ∧ IdealAt w' gi (checkH S hs l) oi' Ri ∧ Fr oi w w' oi' := by
  by_cases hr : rightL l
  · exact check_good gb S ob Rb gi hs oi Ri l A n c B m d w hK hI hp hq ho hn hR hr
  · refine (check_bad gb _ l A n c B m d w hp hq hr).mono ?_
    rintro e w' ⟨rfl, hb⟩
    exact ⟨oi, by rw [checkE_bad hr], by rw [checkH_new (fun h => hr h.1)]; exact hI.below hb, Fr.below hb⟩
end Go.Proofs.Ytabcbpcfleociaa
