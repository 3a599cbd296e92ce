/- A book's Check. (Printed by gen_chg.py.) -/
import Derived.Test.YtabcbpcfleociaaMChb
import Derived.ArgAppend
import Derived.Great.BuildSlice
namespace Go.Proofs.Ytabcbpcfleociaa
open Go.RowKit Go.Maps
attribute [local go_sem ↓] Go.wp_at_zero Go.wp_at_succ
set_option linter.unusedSimpArgs false
set_option linter.unusedVariables false
theorem check_none (s : Value) (l : Ln) (A : Option Addr) (n c : Nat) (B : Option Addr) (m d : Nat) (w : World) :
    Calls Try.prog 20 #[.pointer none, s, lnV l A n c B m d] w fun e w' => e = .returned (.int .i64 1) ∧ Below w.heap.size w w' := by
  have hb : Below w.heap.size w (w.alloc (.cells #[.int .i64 l.au, .int .i64 l.sq, .int .i64 l.ep, .slice A n c, .slice B m d] 40)) := (Below.refl _ _).alloc (Nat.le_refl _) _
  go_enter Try.func20, Try.ntmps20
  unfold lnV
  go_wp2_with fail
  go_ret
  exact ⟨rfl, hb⟩
set_option maxRecDepth 20000 in
set_option maxHeartbeats 1000000 in
theorem check_bad (gb : Nat) (s : Value) (l : Ln) (A : Option Addr) (n c : Nat) (B : Option Addr) (m d : Nat) (w : World)
    (hp : Rd w w.heap.size 1 A n (l.pv.map B8)) (hq : Rd w w.heap.size 1 B m (l.bd.map B8)) (hr : ¬ rightL l) :
    Calls Try.prog 20 #[.pointer (some ⟨gb, 0, none⟩), s, lnV l A n c B m d] w fun e w' => e = .returned (.int .i64 1) ∧ Below w.heap.size w w' := by
  have hA : Hid (l.pv.length = n) := by unfold Hid; simpa using hp.len
  have hBm : Hid (l.bd.length = m) := by unfold Hid; simpa using hq.len
  obtain ⟨Y, hY⟩ : ∃ Y, Hid (Y = w.alloc (.cells #[.int .i64 l.au, .int .i64 l.sq, .int .i64 l.ep, .slice A n c, .slice B m d] 40)) := ⟨_, Lib.hid rfl⟩
  have BY : Hid (Below w.heap.size w Y) := by rw [hY.out]; exact (Below.refl _ _).alloc (Nat.le_refl _) _
  obtain ⟨G, hG⟩ : ∃ g, Hid (g = w.heap.size) := ⟨_, Lib.hid rfl⟩
  have RY : Hid (Y.rangeAt G 0 [.int .i64 l.au, .int .i64 l.sq, .int .i64 l.ep, .slice A n c, .slice B m d]) := by rw [hY.out, hG.out]; exact rangeNew w _ _
  have hGY : Hid (G < Y.heap.size) := by unfold Hid; rw [hG.out, hY.out, szAlloc]; exact Nat.lt_succ_self _
  have hr : decide (rightN l.au l.sq l.ep n m) = false := by rw [decide_eq_false_iff_not, ← hA.out, ← hBm.out]; exact fun h => hr ((rightL_N l).2 h)
  clear hp hq
  go_enter Try.func20, Try.ntmps20
  unfold lnV
  go_wp2_with fail
  rw [← hY.out]
  refine (right_ l.au l.sq l.ep A n c B m d Y).mono ?_
  rintro e Z ⟨he, b1⟩
  rw [hr] at he
  subst he
  have B1 := Lib.hid (BY.out.trans (b1.mono BY.out.size))
  clear hr b1
  go_wp2_with fail
  go_ret
  exact ⟨rfl, B1.out⟩
set_option maxRecDepth 20000 in
set_option maxHeartbeats 1000000 in
theorem check_good (gb : Nat) (S : Bk) (ob Rb : List Nat) (gi : Nat) (hs : List (List UInt8)) (oi Ri : List Nat) (l : Ln) (A : Option Addr) (n c : Nat) (B : Option Addr) (m d : Nat) (w : World) (hK : BookAt w gb S ob Rb) (hI : IdealAt w gi hs oi Ri)
    (hp : Rd w w.heap.size 1 A n (l.pv.map B8)) (hq : Rd w w.heap.size 1 B m (l.bd.map B8)) (ho : ∀ k, k ∈ oi → k ∈ Rb) (hn : hs.length ≤ 1000000) (hR : ∀ k, k ∈ Ri → k < w.heap.size) (hr : rightL l) :
    Calls Try.prog 20 #[.pointer (some ⟨gb, 0, none⟩), .iface 27 (.pointer (some ⟨gi, 0, none⟩)), lnV l A n c B m d] w fun e w' => ∃ oi', e = .returned (.int .i64 (checkE S hs l)) ∧ IdealAt w' gi (checkH S hs l) oi' Ri ∧ Fr oi w w' oi' := by
  have hA : Hid (l.pv.length = n) := by unfold Hid; simpa using hp.len
  have hBm : Hid (l.bd.length = m) := by unfold Hid; simpa using hq.len
  obtain ⟨Y, hY⟩ : ∃ Y, Hid (Y = w.alloc (.cells #[.int .i64 l.au, .int .i64 l.sq, .int .i64 l.ep, .slice A n c, .slice B m d] 40)) := ⟨_, Lib.hid rfl⟩
  have BY : Hid (Below w.heap.size w Y) := by rw [hY.out]; exact (Below.refl _ _).alloc (Nat.le_refl _) _
  obtain ⟨G, hG⟩ : ∃ g, Hid (g = w.heap.size) := ⟨_, Lib.hid rfl⟩
  have RY : Hid (Y.rangeAt G 0 [.int .i64 l.au, .int .i64 l.sq, .int .i64 l.ep, .slice A n c, .slice B m d]) := by rw [hY.out, hG.out]; exact rangeNew w _ _
  have hGY : Hid (G < Y.heap.size) := by unfold Hid; rw [hG.out, hY.out, szAlloc]; exact Nat.lt_succ_self _
  have hrN : decide (rightN l.au l.sq l.ep n m) = true := by rw [decide_eq_true_iff, ← hA.out, ← hBm.out]; exact (rightL_N l).1 hr
  have hGo : Hid (∀ k, k ∈ oi → k < G) := by unfold Hid; rw [hG.out]; exact note_lt hI
  have hau : Hid (0 ≤ l.au ∧ l.au < 5) := ⟨hr.1.1, hr.1.2.1⟩
  have hsq : Hid (1 ≤ l.sq ∧ l.sq ≤ 1048576) := ⟨hr.1.2.2.1, hr.1.2.2.2.1⟩
  have HK := Lib.hid hK
  have HI := Lib.hid hI
  have HP := Lib.hid hp
  have HQ := Lib.hid hq
  have HO := Lib.hid ho
  have HR := Lib.hid hR
  have HN := Lib.hid hn
  have Hr := Lib.hid hr
  clear hK hI hp hq ho hR hn hr
  go_enter Try.func20, Try.ntmps20
  unfold lnV
  go_wp2_with fail
  rw [← hY.out, ← hG.out]
  refine (right_ l.au l.sq l.ep A n c B m d Y).mono ?_
  rintro e Z ⟨he, b1⟩
  rw [hrN] at he
  subst he
  have BZ := Lib.hid (BY.out.trans (b1.mono BY.out.size))
  have RZ := Lib.hid (range_keep RY.out b1 hGY.out)
  have hGZ : Hid (G < Z.heap.size) := Nat.lt_of_lt_of_le hGY.out b1.size
  clear hrN b1
  go_wp2_with fail
  obtain ⟨X, hX⟩ : ∃ W, Hid (W = Z.drew) := ⟨_, Lib.hid rfl⟩
  have dX : Below Z.heap.size Z X := by rw [hX.out]; exact below_drew (Below.refl _ _)
  have RX := Lib.hid (range_keep RZ.out dX hGZ.out)
  have hGX : Hid (G < X.heap.size) := Nat.lt_of_lt_of_le hGZ.out dX.size
  have BX := Lib.hid (BZ.out.trans (dX.mono BZ.out.size))
  obtain ⟨b, nb, f, hv⟩ := HK.out.below BX.out
  obtain ⟨RA, Rc, ef, hRc, hrow⟩ := hv.rows l.au
  have hbl := cell_blk hv.blk 0 rfl
  have hlk := hv.look ⟨by have := hau.out; omega, by have := hau.out; omega⟩ ef
  have HV := Lib.hid hv
  have HROW := Lib.hid hrow
  have hef := Lib.hid ef
  obtain ⟨L, hL⟩ : ∃ L, Hid ((ofA S l.au).length = L) := ⟨_, Lib.hid rfl⟩
  rw [hL.out] at hlk HROW hRc hef
  have c0 := RX.out 0 _ rfl
  clear hv hrow ef
  refine wp_region_noPanic ?_
  refine wp_region_held_drew (S := fun w' => w' = X) (by kernel_rfl) hX.out.symm (fun hS => ?_)
  rw [← hX.out]
  clear hS
  have hS : X = X := rfl
  refine wpAnyH_take (i := 0) (v := ?v0) rfl (by kernel_rfl) (by kernel_rfl) (by kernel_rfl) (fun _ _ _ h => h) (Or.inl ⟨by rfl, ?hy0⟩) hS ?rest0
  case hy0 => ((intro w' hSw; subst hSw; go_simp; first | done | with_reducible rfl))
  try simp only [Act.put, List.getElem_toArray, List.getElem_cons_zero, List.getElem_cons_succ, List.setIfInBounds_toArray, List.set_cons_zero, List.set_cons_succ]
  refine wpAnyH_take (i := 1) (v := ?v1) rfl (by kernel_rfl) (by kernel_rfl) (by kernel_rfl) (fun _ _ _ h => h) (Or.inl ⟨by rfl, ?hy1⟩) hS ?rest1
  case hy1 => ((intro w' hSw; subst hSw; go_simp; first | done | with_reducible rfl))
  try simp only [Act.put, List.getElem_toArray, List.getElem_cons_zero, List.getElem_cons_succ, List.setIfInBounds_toArray, List.set_cons_zero, List.set_cons_succ]
  refine wpAnyH_take (i := 2) (v := ?v2) rfl (by kernel_rfl) (by kernel_rfl) (by kernel_rfl) (fun _ _ _ h => h) (Or.inl ⟨by rfl, ?hy2⟩) hS ?rest2
  case hy2 => ((intro w' hSw; subst hSw; go_simp; first | done | with_reducible rfl))
  try simp only [Act.put, List.getElem_toArray, List.getElem_cons_zero, List.getElem_cons_succ, List.setIfInBounds_toArray, List.set_cons_zero, List.set_cons_succ]
  refine wpAnyH_take (i := 3) (v := .map (some b)) rfl (by kernel_rfl) (by kernel_rfl) (by kernel_rfl) (fun _ _ _ h => h) (Or.inl ⟨by rfl, ?hy3⟩) hS ?rest3
  case hy3 => ((intro w' hSw; subst hSw; go_simp; first | done | with_reducible rfl))
  try simp only [Act.put, List.getElem_toArray, List.getElem_cons_zero, List.getElem_cons_succ, List.setIfInBounds_toArray, List.set_cons_zero, List.set_cons_succ]
  refine wpAnyH_take (i := 4) (v := ?v4) rfl (by kernel_rfl) (by kernel_rfl) (by kernel_rfl) (fun _ _ _ h => h) (Or.inl ⟨by rfl, ?hy4⟩) hS ?rest4
  case hy4 => ((intro w' hSw; subst hSw; go_simp; first | done | with_reducible rfl))
  try simp only [Act.put, List.getElem_toArray, List.getElem_cons_zero, List.getElem_cons_succ, List.setIfInBounds_toArray, List.set_cons_zero, List.set_cons_succ]
  refine wpAnyH_take (i := 5) (v := .int .i64 l.au) rfl (by kernel_rfl) (by kernel_rfl) (by kernel_rfl) (fun _ _ _ h => h) (Or.inl ⟨by rfl, ?hy5⟩) hS ?rest5
  case hy5 => ((intro w' hSw; subst hSw; go_simp; first | done | with_reducible rfl))
  try simp only [Act.put, List.getElem_toArray, List.getElem_cons_zero, List.getElem_cons_succ, List.setIfInBounds_toArray, List.set_cons_zero, List.set_cons_succ]
  refine wpAnyH_take (i := 6) (v := .slice RA L Rc) rfl (by kernel_rfl) (by kernel_rfl) (by kernel_rfl) (fun _ _ _ h => h) (Or.inl ⟨by rfl, ?hy6⟩) hS ?rest6
  case hy6 => ((intro w' hSw; subst hSw; go_simp; first | done | with_reducible rfl))
  try simp only [Act.put, List.getElem_toArray, List.getElem_cons_zero, List.getElem_cons_succ, List.setIfInBounds_toArray, List.set_cons_zero, List.set_cons_succ]
  refine wpAnyH_take (i := 7) (v := ?v7) rfl (by kernel_rfl) (by kernel_rfl) (by kernel_rfl) (fun _ _ _ h => h) (Or.inl ⟨by rfl, ?hy7⟩) hS ?rest7
  case hy7 => ((intro w' hSw; subst hSw; go_simp; first | done | with_reducible rfl))
  try simp only [Act.put, List.getElem_toArray, List.getElem_cons_zero, List.getElem_cons_succ, List.setIfInBounds_toArray, List.set_cons_zero, List.set_cons_succ]
  refine wpAnyH_done (by kernel_rfl) (NoPanic.normal ?_) _
  clear c0 hbl hlk hS
  have hLm : Hid (L ≤ 1048576) := by have h1 := ofA_len S l.au; have h2 := HV.out.sm; have h3 := hL.out; unfold Hid; omega
  have RXc := RX.out
  have e0 := RXc 0 _ rfl
  have e1 := RXc 1 _ rfl
  have e2 := RXc 2 _ rfl
  have e3 := RXc 3 _ rfl
  clear RXc
  by_cases hle : l.sq ≤ (L : Int)
  · obtain ⟨i, hi⟩ : ∃ i, Hid ((l.sq - 1).toNat = i) := ⟨_, Lib.hid rfl⟩
    have hiL : i < L := by have := hi.out; have := hsq.out; omega
    have hi0 : (0 : Int) ≤ (i : Int) := by omega
    have hiL' : (i : Int) < (L : Int) := by omega
    have hidx : IntKind.i64.wrap (l.sq - 1) = (i : Int) := by rw [IntWalk.i64_in _ (by have := hsq.out; omega)]; have := hi.out; have := hsq.out; omega
    obtain ⟨k, hk⟩ : ∃ k, (ofA S l.au)[i]? = some k := ⟨_, List.getElem?_eq_getElem (by rw [hL.out]; exact hiL)⟩
    have hko := Lib.hid (HV.out.ok.of (List.mem_of_getElem? hk))
    have hEk : Hid (checkE S hs l = if k.dg = digL hs l then 16 else 18) := checkE_old Hr.out (by rw [hL.out]; exact hle) (by rw [hi.out]; exact hk)
    have hHk : Hid (checkH S hs l = note hs (bytesL l)) := checkH_old Hr.out (by rw [hL.out]; exact hle)
    obtain ⟨rb, ro, rfl, hrb, hrg⟩ := HROW.out.1.kn (fun k h => HV.out.ok.of h) hL.out hk
    have hrno : Hid (rb ∉ ob ++ Rb) := HROW.out.2 rb ro (by omega) rfl
    have HRG := Lib.hid hrg
    have HRB := Lib.hid hrb
    obtain ⟨bb, hbb⟩ : ∃ b, Hid (decide (k.dg = digL hs l) = b) := ⟨_, Lib.hid rfl⟩
    clear hrg hrb hk
    go_wp2_with fail
    obtain ⟨T, hT⟩ : ∃ W, Hid (W = X.drew) := ⟨_, Lib.hid rfl⟩
    have dT : Below X.heap.size X T := by rw [hT.out]; exact below_drew (Below.refl _ _)
    have RT := Lib.hid (range_keep RX.out dT hGX.out)
    have hGT : Hid (G < T.heap.size) := Nat.lt_of_lt_of_le hGX.out dT.size
    have BT := Lib.hid (BX.out.trans (dT.mono BX.out.size))
    have KT : Hid (T.rangeAt rb (ro + i * 65) (knC k)) := fun j v hj => (World.cell?_of_block (a := ⟨rb, ro + i * 65 + j, none⟩) (dT.block rb HRB.out)).trans (HRG.out j v hj)
    have hrT : Hid (rb < T.heap.size) := Nat.lt_of_lt_of_le HRB.out dT.size
    have PT := Lib.hid (HP.out.to BT.out)
    have QT := Lib.hid (HQ.out.to BT.out)
    have IT := Lib.hid (HI.out.below BT.out)
    refine wp_region_noPanic ?_
    refine wp_region_held_drew (S := fun w' => w'.rangeAt G 0 [.int .i64 l.au, .int .i64 l.sq, .int .i64 l.ep, .slice A n c, .slice B m d]) (by kernel_rfl) (by rw [← hT.out]; exact RT.out) (fun hS => ?_)
    rw [← hT.out]
    clear hS
    have hS : T.rangeAt G 0 [.int .i64 l.au, .int .i64 l.sq, .int .i64 l.ep, .slice A n c, .slice B m d] := RT.out
    refine wpAnyH_take (i := 0) (v := ?vc0) rfl (by kernel_rfl) (by kernel_rfl) (by kernel_rfl) (fun _ _ _ h => h) (Or.inl ⟨by rfl, ?hyc0⟩) hS ?restc0
    case hyc0 => (intro w' hSw; go_simp; first | done | with_reducible rfl)
    try simp only [Act.put, List.getElem_toArray, List.getElem_cons_zero, List.getElem_cons_succ, List.setIfInBounds_toArray, List.set_cons_zero, List.set_cons_succ]
    refine wpAnyH_take (i := 1) (v := ?vc1) rfl (by kernel_rfl) (by kernel_rfl) (by kernel_rfl) (fun _ _ _ h => h) (Or.inl ⟨by rfl, ?hyc1⟩) hS ?restc1
    case hyc1 => (intro w' hSw; go_simp; first | done | with_reducible rfl)
    try simp only [Act.put, List.getElem_toArray, List.getElem_cons_zero, List.getElem_cons_succ, List.setIfInBounds_toArray, List.set_cons_zero, List.set_cons_succ]
    refine wpAnyH_take (i := 2) (v := .int .i64 l.sq) rfl (by kernel_rfl) (by kernel_rfl) (by kernel_rfl) (fun _ _ _ h => h) (Or.inl ⟨by rfl, ?hyc2⟩) hS ?restc2
    case hyc2 => (intro w' hSw; have c1 := hSw 1 _ rfl; go_simp; first | done | with_reducible rfl)
    try simp only [Act.put, List.getElem_toArray, List.getElem_cons_zero, List.getElem_cons_succ, List.setIfInBounds_toArray, List.set_cons_zero, List.set_cons_succ]
    refine wpAnyH_take (i := 3) (v := .int .i64 (i : Int)) rfl (by kernel_rfl) (by kernel_rfl) (by kernel_rfl) (fun _ _ _ h => h) (Or.inl ⟨by rfl, ?hyc3⟩) hS ?restc3
    case hyc3 => (intro w' hSw; have h := hidx; go_simp; first | done | with_reducible rfl)
    try simp only [Act.put, List.getElem_toArray, List.getElem_cons_zero, List.getElem_cons_succ, List.setIfInBounds_toArray, List.set_cons_zero, List.set_cons_succ]
    refine wpAnyH_take (i := 4) (v := .pointer (some ⟨rb, ro + i * 65, none⟩)) rfl (by kernel_rfl) (by kernel_rfl) (by kernel_rfl) (fun _ _ _ h => h) (Or.inl ⟨by rfl, ?hyc4⟩) hS ?restc4
    case hyc4 => (intro w' hSw; have h1 := hi0; have h2 := hiL'; have h3 := hiL; go_simp; first | done | with_reducible rfl)
    try simp only [Act.put, List.getElem_toArray, List.getElem_cons_zero, List.getElem_cons_succ, List.setIfInBounds_toArray, List.set_cons_zero, List.set_cons_succ]
    refine wpAnyH_take (i := 5) (v := ?vc5) rfl (by kernel_rfl) (by kernel_rfl) (by kernel_rfl) (fun _ _ _ h => h) (Or.inl ⟨by rfl, ?hyc5⟩) hS ?restc5
    case hyc5 => (intro w' hSw; go_simp; first | done | with_reducible rfl)
    try simp only [Act.put, List.getElem_toArray, List.getElem_cons_zero, List.getElem_cons_succ, List.setIfInBounds_toArray, List.set_cons_zero, List.set_cons_succ]
    refine wpAnyH_take (i := 6) (v := .slice (some ⟨rb, ro + i * 65, none⟩) 32 32) rfl (by kernel_rfl) (by kernel_rfl) (by kernel_rfl) (fun _ _ _ h => h) (Or.inl ⟨by rfl, ?hyc6⟩) hS ?restc6
    case hyc6 => (intro w' hSw; go_simp; first | done | with_reducible rfl)
    try simp only [Act.put, List.getElem_toArray, List.getElem_cons_zero, List.getElem_cons_succ, List.setIfInBounds_toArray, List.set_cons_zero, List.set_cons_succ]
    refine wpAnyH_take (i := 7) (v := ?vc7) rfl (by kernel_rfl) (by kernel_rfl) (by kernel_rfl) (fun _ _ _ h => h) (Or.inl ⟨by rfl, ?hyc7⟩) hS ?restc7
    case hyc7 => (intro w' hSw; go_simp; first | done | with_reducible rfl)
    try simp only [Act.put, List.getElem_toArray, List.getElem_cons_zero, List.getElem_cons_succ, List.setIfInBounds_toArray, List.set_cons_zero, List.set_cons_succ]
    refine wpAnyH_take (i := 8) (v := .agg #[.int .i64 l.au, .int .i64 l.sq, .int .i64 l.ep, .slice A n c, .slice B m d]) rfl (by kernel_rfl) (by kernel_rfl) (by kernel_rfl) (fun _ _ _ h => h) (Or.inl ⟨by rfl, ?hyc8⟩) hS ?restc8
    case hyc8 => (intro w' hSw; have c0 := hSw 0 _ rfl; have c1 := hSw 1 _ rfl; have c2 := hSw 2 _ rfl; have c3 := hSw 3 _ rfl; have c4 := hSw 4 _ rfl; go_simp; first | done | with_reducible rfl)
    try simp only [Act.put, List.getElem_toArray, List.getElem_cons_zero, List.getElem_cons_succ, List.setIfInBounds_toArray, List.set_cons_zero, List.set_cons_succ]
    refine wpAnyH_ready (rs := [9]) (by kernel_rfl) (by simp) ?_
    refine AllReadyH.cons rfl (fun K hK => ?_) AllReadyH.nil
    go_simp
    refine (digest_ gi hs oi Ri l A n c B m d T IT.out PT.out QT.out Hr.out HN.out (fun k hk => Nat.lt_of_lt_of_le (HR.out k hk) BT.out.size)).mono ?_
    rintro e u ⟨oi', A6, c6, rfl, o6, i6, f6⟩
    have S6 : u.rangeAt G 0 [.int .i64 l.au, .int .i64 l.sq, .int .i64 l.ep, .slice A n c, .slice B m d] := fun j v hj => (World.cell?_of_block (a := ⟨G, 0 + j, none⟩) (f6.block G hGT.out (fun hm => Nat.lt_irrefl _ (hGo.out G hm)))).trans (RT.out j v hj)
    have K6 : Hid (u.rangeAt rb (ro + i * 65) (knC k)) := fun j v hj => (World.cell?_of_block (a := ⟨rb, ro + i * 65 + j, none⟩) (f6.block rb hrT.out (fun hm => hrno.out (List.mem_append.2 (Or.inr (HO.out rb hm)))))).trans (KT.out j v hj)
    have O6 := Lib.hid o6.rd
    have I6 := Lib.hid i6
    have F6 : Hid (Fr oi w u oi') := (Fr.below BT.out).trans f6
    clear o6 i6 f6
    go_wp2_with fail
    refine hK.out _ _ S6 ?_
    intro hS
    clear hK K hS
    try simp only [Act.put, List.getElem_toArray, List.getElem_cons_zero, List.getElem_cons_succ, List.setIfInBounds_toArray, List.set_cons_zero, List.set_cons_succ]
    have hS : u.rangeAt G 0 [.int .i64 l.au, .int .i64 l.sq, .int .i64 l.ep, .slice A n c, .slice B m d] := S6
    refine wpAnyH_ready (rs := [10]) (by kernel_rfl) (by simp) ?_
    refine AllReadyH.cons rfl (fun K hK => ?_) AllReadyH.nil
    go_simp
    refine (equal_ _ 32 32 k.dg A6 32 c6 (digL hs l) u (Rd.of_kn K6.out hko.out) O6.out).mono ?_
    rintro e v ⟨he, rfl⟩
    rw [hbb.out] at he
    subst he
    go_wp2_with fail
    refine hK.out _ _ S6 ?_
    intro hS
    clear hK K hS
    try simp only [Act.put, List.getElem_toArray, List.getElem_cons_zero, List.getElem_cons_succ, List.setIfInBounds_toArray, List.set_cons_zero, List.set_cons_succ]
    refine wpAnyH_done (by kernel_rfl) (NoPanic.normal ?_) _
    cases bb
    · have hv : checkE S hs l = 18 := by rw [hEk.out]; exact if_neg (of_decide_eq_false hbb.out)
      go_wp2_with fail
      go_ret
      exact ⟨oi', by rw [hv]; rfl, by rw [hHk.out]; exact I6.out, F6.out⟩
    · have hv : checkE S hs l = 16 := by rw [hEk.out]; exact if_pos (of_decide_eq_true hbb.out)
      go_wp2_with fail
      go_ret
      exact ⟨oi', by rw [hv]; rfl, by rw [hHk.out]; exact I6.out, F6.out⟩
  · have hHn : Hid (checkH S hs l = hs) := checkH_new (fun h => hle (by rw [← hL.out]; exact h.2))
    have hwr : IntKind.i64.wrap ((L : Int) + 1) = (L : Int) + 1 := IntWalk.i64_in _ (by have := hLm.out; omega)
    have IX := Lib.hid (HI.out.below BX.out)
    by_cases hgap : (L : Int) + 1 < l.sq
    · have hv : Hid (checkE S hs l = 15) := checkE_gap Hr.out (by rw [hL.out]; exact hgap)
      go_wp2_with fail
      go_ret
      first | exact ⟨oi, by rw [hv.out]; rfl, by rw [hHn.out]; exact IX.out, Fr.below BX.out⟩ | exact ⟨by rw [hv.out]; rfl, oi, by rw [hHn.out]; exact IX.out, Fr.below BX.out⟩
    · have hEn := Lib.hid (checkE_next (hs := hs) Hr.out (by rw [hL.out]; omega))
      go_wp2_with fail
      refine (head_in gb S ob Rb l.au X ⟨b, nb, f, HV.out⟩ hau.out.1 hau.out.2).mono ?_
      rintro e u ⟨hA', hm', hc', rfl, e1, o1, b1⟩
      have O1 := Lib.hid o1.rd
      have B1 := Lib.hid (BX.out.trans (b1.mono BX.out.size))
      have P1 := Lib.hid (HP.out.to B1.out)
      have I1 := Lib.hid (HI.out.below B1.out)
      have R1 := Lib.hid (range_keep RX.out b1 hGX.out)
      have V1 := Lib.hid (HV.out.below b1)
      obtain ⟨bb, hbb⟩ : ∃ b, Hid (decide (lastDg (ofA S l.au) = l.pv) = b) := ⟨_, Lib.hid rfl⟩
      rw [hL.out]
      have f3 : ∀ o, (u.alloc o).cell? ⟨G, 3, none⟩ = some (.slice A n c) := fun o => (World.cell?_alloc_lt u o _ (Nat.lt_of_lt_of_le hGX.out b1.size)).trans (R1.out 3 _ rfl)
      have f2 : ∀ o, (u.alloc o).cell? ⟨G, 2, none⟩ = some (.int .i64 l.ep) := fun o => (World.cell?_alloc_lt u o _ (Nat.lt_of_lt_of_le hGX.out b1.size)).trans (R1.out 2 _ rfl)
      clear o1 b1 e0 e1 e2 e3
      go_wp2_with fail
      refine (equal_ hA' hm' hc' (lastDg (ofA S l.au)) A n c l.pv _ (O1.out.to ((Below.refl _ _).alloc (Nat.le_refl _) _)) (P1.out.to ((Below.refl _ _).alloc (Nat.le_refl _) _))).mono ?_
      rintro e v ⟨he, rfl⟩
      rw [hbb.out] at he
      subst he
      have B2 : Hid (Below w.heap.size w (u.alloc (.cells #[.int .i64 l.au, .int .i64 (L : Int), .slice hA' hm' hc'] 45))) := B1.out.alloc B1.out.size _
      have I2 := Lib.hid (HI.out.below B2.out)
      by_cases hbt : lastDg (ofA S l.au) = l.pv
      · have hbb' : bb = true := by rw [← hbb.out]; exact decide_eq_true hbt
        subst hbb'
        rw [if_pos hbt] at hEn
        go_wp2_with fail
        by_cases hL0 : L = 0
        · subst hL0
          have hEn2 : Hid (checkE S hs l = 0) := by rw [hEn.out, if_neg (by rw [List.length_eq_zero_iff.1 hL.out]; have h1 := Hr.out.1.2.2.2.2.1; have h2 : lastEp [] = 0 := rfl; rw [h2]; omega)]; exact (rfl : (0 : Int) = 0)
          go_quiet (fail)
          go_wp2_with fail
          go_ret
          first | exact ⟨oi, by rw [hEn2.out]; rfl, by rw [hHn.out]; exact (I2.out.below (below_drewN (Below.refl _ _) _)), Fr.below (below_drewN B2.out _)⟩ | exact ⟨by rw [hEn2.out]; rfl, oi, by rw [hHn.out]; exact (I2.out.below (below_drewN (Below.refl _ _) _)), Fr.below (below_drewN B2.out _)⟩
        · have hLp : (0 : Int) < (L : Int) := by omega
          have hLp2 : 0 < L := by omega
          obtain ⟨k, hk1, hk2⟩ := last_at (L := ofA S l.au) (fun h => hL0 (by rw [← hL.out, h]; rfl))
          have hle' : Hid (lastEp (ofA S l.au) = k.ep) := by unfold Hid; rw [lastEp, hk2]; rfl
          rw [hL.out] at hk1
          obtain ⟨i, hi⟩ : ∃ i, Hid (L = i + 1) := ⟨L - 1, by unfold Hid; omega⟩
          rw [show L - 1 = i by have := hi.out; omega] at hk1
          have hko := Lib.hid (V1.out.ok.of (List.mem_of_getElem? hk1))
          have hrow1 : RdN (ob ++ Rb) u 65 RA L ((ofA S l.au).flatMap knC) := by
            obtain ⟨A2, c2, ef2, _, hr2⟩ := V1.out.rows l.au
            rw [hL.out] at ef2 hr2
            have e4 := hef.out.symm.trans ef2
            injection e4 with e4
            rw [e4]; exact hr2
          obtain ⟨rb, ro, rfl, hrb, hrg⟩ := hrow1.1.kn (fun k h => V1.out.ok.of h) hL.out hk1
          have fe : ∀ o, (u.alloc o).cell? ⟨rb, ro + i * 65 + 64, none⟩ = some (.int .i64 k.ep) := fun o => (World.cell?_alloc_lt u o _ hrb).trans (hrg 64 _ (knC_ep hko.out))
          have hwi : IntKind.i64.wrap ((L : Int) - 1) = (i : Int) := by rw [IntWalk.i64_in _ (by have := hLm.out; omega)]; have := hi.out; omega
          have hiL : i < L := by have := hi.out; omega
          have hiL' : (i : Int) < (L : Int) := by omega
          have hi0 : (0 : Int) ≤ (i : Int) := by omega
          rw [hle'.out] at hEn
          clear hrow1 hrg hk1 hk2
          by_cases hlt : l.ep < k.ep
          · have hEn2 : Hid (checkE S hs l = 20) := by rw [hEn.out, if_pos hlt]; exact (rfl : (20 : Int) = 20)
            go_quiet (fail)
            go_wp2_with fail
            go_ret
            first | exact ⟨oi, by rw [hEn2.out]; rfl, by rw [hHn.out]; exact (I2.out.below (below_drewN (Below.refl _ _) _)), Fr.below (below_drewN B2.out _)⟩ | exact ⟨by rw [hEn2.out]; rfl, oi, by rw [hHn.out]; exact (I2.out.below (below_drewN (Below.refl _ _) _)), Fr.below (below_drewN B2.out _)⟩
          · have hEn2 : Hid (checkE S hs l = 0) := by rw [hEn.out, if_neg hlt]; exact (rfl : (0 : Int) = 0)
            go_quiet (fail)
            go_wp2_with fail
            go_ret
            first | exact ⟨oi, by rw [hEn2.out]; rfl, by rw [hHn.out]; exact (I2.out.below (below_drewN (Below.refl _ _) _)), Fr.below (below_drewN B2.out _)⟩ | exact ⟨by rw [hEn2.out]; rfl, oi, by rw [hHn.out]; exact (I2.out.below (below_drewN (Below.refl _ _) _)), Fr.below (below_drewN B2.out _)⟩
      · have hbb' : bb = false := by rw [← hbb.out]; exact decide_eq_false hbt
        subst hbb'
        rw [if_neg hbt] at hEn
        go_wp2_with fail
        go_ret
        first | exact ⟨oi, by rw [hEn.out]; rfl, by rw [hHn.out]; exact I2.out, Fr.below B2.out⟩ | exact ⟨by rw [hEn.out]; rfl, oi, by rw [hHn.out]; exact I2.out, Fr.below B2.out⟩
theorem check_ (gb : Nat) (S : Bk) (ob Rb : List Nat) (gi : Nat) (hs : List (List UInt8)) (oi Ri : List Nat) (l : Ln) (A : Option Addr) (n c : Nat) (B : Option Addr) (m d : Nat) (w : World) (hK : BookAt w gb S ob Rb) (hI : IdealAt w gi hs oi Ri)
    (hp : Rd w w.heap.size 1 A n (l.pv.map B8)) (hq : Rd w w.heap.size 1 B m (l.bd.map B8)) (ho : ∀ k, k ∈ oi → k ∈ Rb) (hn : hs.length ≤ 1000000) (hR : ∀ k, k ∈ Ri → k < w.heap.size) :
    Calls Try.prog 20 #[.pointer (some ⟨gb, 0, none⟩), .iface 27 (.pointer (some ⟨gi, 0, none⟩)), lnV l A n c B m d] w fun e w' => ∃ oi', e = .returned (.int .i64 (checkE S hs l)) ∧ IdealAt w' gi (checkH S hs l) oi' Ri ∧ Fr oi w w' oi' := by
  by_cases hr : rightL l
  · exact check_good gb S ob Rb gi hs oi Ri l A n c B m d w hK hI hp hq ho hn hR hr
  · refine (check_bad gb _ l A n c B m d w hp hq hr).mono ?_
    rintro e w' ⟨rfl, hb⟩
    exact ⟨oi, by rw [checkE_bad hr], by rw [checkH_new (fun h => hr h.1)]; exact hI.below hb, Fr.below hb⟩
end Go.Proofs.Ytabcbpcfleociaa

/- Steps of drawn regions: an append that grows, a map's update, a copy. No function of the program. -/
namespace Go.Proofs.Ytabcbpcfleociaa
open Go.RowKit Go.Maps
set_option linter.unusedSimpArgs false
set_option linter.unusedVariables false
section
variable {P : Program} {w : World}
theorem wpList_build_v {ops : Array Oper} {rest : List Oper} {o : Oper} {a : Act} {Q : Exit → Act → World → Prop} (hg : o.guard = none) (t : TypeId) (parts : Array (Nat × Operand)) (ho : o.op = .build t parts) (v : Array Value)
    (hv : P.built t (parts.map fun (i, x) => (i, a.eval x)).toList = some v)
    (h : wpList P ops Q rest (a.put o.dst (.agg v)) w) : wpList P ops Q (o :: rest) a w :=
  wpList_build hg t parts ho (by rw [hv]; rfl) (by rw [hv]; exact h)
/-- An append onto a full slice. -/
theorem run_grow (t ty e : TypeId) (i : TypeInfo) (z : Value) (size bytes : Nat) (h1 : P.underlying t = some (.slice e)) (h2 : P.info? e = some i) (h3 : i.zero = some z) (h4 : i.size = size) (h5 : i.bytes = bytes) (h6 : z.cells.size = size) (h7 : 0 < size)
    (A : Option Addr) (n : Nat) (olds : List Value) (hr : Rd w w.heap.size size A n olds) (hnone : A = none → n = 0) (B : Nat) (g : Nat) (m c : Nat) (news : List Value) (hn : Rd w B size (some ⟨g, 0, none⟩) m news) (h1c : ∀ u ∈ news, u.oneCell' = true)
    (hm : 0 < m) (b1 : n + m ≤ maxLen) (b2 : (n + m) * bytes ≤ 140737488355328) :
    ∃ A' c' w', (Builtin.append_ #[t, t] ty #[.slice A n n, .slice (some ⟨g, 0, none⟩) m c]).run P w = .ok (.slice A' (n + m) c') w' ∧ w'.ownsRow w.heap.size e size (.slice A' (n + m) c') (n + m) (olds ++ news) ∧ w.grownBy w' none := by
  have shape : ∀ {W : World} {base k : Nat} {v' : Value} {ys : List Value}, W.ownsRow base e size v' k ys → ∃ A' c', v' = .slice A' k c' := by
    intro W base k v' ys h
    rcases h.2 with ⟨rfl, rfl⟩ | ⟨g, cap, cur, rfl, _⟩
    · exact ⟨_, _, rfl⟩
    · exact ⟨_, _, rfl⟩
  have hnew : ∀ j u, news[j]? = some u → w.cell? ((⟨g, 0, none⟩ : Addr).add j) = some u := by
    obtain ⟨b, o, e1, _, hc⟩ := hn.2 hm
    injection e1 with e1
    injection e1 with e2 e3
    subst e2 e3
    intro j u hu
    rw [addr_add]
    exact hc j u hu
  rcases A with _ | b
  · have hn0 := hnone rfl
    subst hn0
    obtain rfl : olds = [] := List.eq_nil_of_length_eq_zero (by simpa using hr.1)
    obtain ⟨v', w', hrun, r1, r2, _⟩ := run_append_own (P := P) w w.heap.size t ty e i z size bytes h1 h2 h3 h4 h5 h6 h7 (.slice none 0 0) 0 [] (World.ownsRow_nil w _ e size) ⟨g, 0, none⟩ m c news hn.1 hnew h1c b1 b2 (Nat.le_refl _)
    obtain ⟨A', c', rfl⟩ := shape r1
    exact ⟨A', c', w', hrun, r1, r2⟩
  · have holds : ∀ j u, olds[j]? = some u → w.cell? (b.add j) = some u := by
      intro j u hu
      rcases Nat.eq_zero_or_pos n with h0 | h0
      · subst h0
        obtain rfl : olds = [] := List.eq_nil_of_length_eq_zero (by simpa using hr.1)
        simp at hu
      · obtain ⟨b', o', e1, _, hc⟩ := hr.2 h0
        injection e1 with e1
        subst e1
        rw [addr_add]
        exact hc j u hu
    obtain ⟨v', w', hrun, r1, r2⟩ := run_append_arg_grows (P := P) w t ty e i z size bytes h1 h2 h3 h4 h5 h6 h7 b n n olds hr.1 holds ⟨g, 0, none⟩ m c news hn.1 hnew (by omega) b1 b2
    obtain ⟨A', c', rfl⟩ := shape r1
    exact ⟨A', c', w', hrun, r1, r2⟩
theorem step_grow {ops : Array Oper} {E : Prop} {o : Oper} {a : Act} {K : Act → World → Prop} {Q : Exit → Act → World → Prop} (s x : Operand) (t : TypeId)
    (hgd : o.guard = none) (hop : o.op = .call { callee := .builtin .append, args := #[s, x], argTypes := #[t, t] })
    (e : TypeId) (i : TypeInfo) (z : Value) (size bytes : Nat) (h1 : P.underlying t = some (.slice e)) (h2 : P.info? e = some i) (h3 : i.zero = some z) (h4 : i.size = size) (h5 : i.bytes = bytes) (h6 : z.cells.size = size) (h7 : 0 < size)
    (A : Option Addr) (n : Nat) (olds : List Value) (hs : a.eval s = .slice A n n) (hr : Rd w w.heap.size size A n olds) (hnone : A = none → n = 0) (B : Nat) (g : Nat) (m c : Nat) (news : List Value) (hx : a.eval x = .slice (some ⟨g, 0, none⟩) m c) (hn : Rd w B size (some ⟨g, 0, none⟩) m news) (h1c : ∀ u ∈ news, u.oneCell' = true)
    (hm : 0 < m) (b1 : n + m ≤ maxLen) (b2 : (n + m) * bytes ≤ 140737488355328)
    (h : ∀ A' c' w', w'.ownsRow w.heap.size e size (.slice A' (n + m) c') (n + m) (olds ++ news) → w.grownBy w' none → K (a.put o.dst (.slice A' (n + m) c')) w') :
    if Region.wanted o (yielded ops a.tmps) = true then Oper.wp P o a w K Q else E := by
  rw [if_pos (by simp [Region.wanted, hgd])]
  obtain ⟨A', c', w', hrun, r1, r2⟩ := run_grow (P := P) (w := w) t o.type e i z size bytes h1 h2 h3 h4 h5 h6 h7 A n olds hr hnone B g m c news hn h1c hm b1 b2
  unfold Oper.wp execOp
  simp only [hop, resolve, invoke, builtin, Sem.run_bind, Sem.run_pure, Result.andThen_ok, List.map_toArray, List.map_cons, List.map_nil, hs, hx, hrun]
  exact h A' c' w' r1 r2
theorem step_updV {ops : Array Oper} {E : Prop} {o : Oper} {a : Act} {K : Act → World → Prop} {Q : Exit → Act → World → Prop} (m x v : Operand) (t : TypeId)
    (hgd : o.guard = none) (hop : o.op = Op.mapUpdate t m x v)
    (k e : TypeId) (Ky : Keyed P k) (ht : P.underlying t = some (.map k e)) (z : Value) (b n : Nat) (f : Lit → Value)
    (hm : a.eval m = .map (some b)) (hown : MapV P k w b n z f) (hn : n < maxLen) (key val : Value) (kl : Lit) (hx : a.eval x = key) (hv : a.eval v = val) (hkey : keyOf P k key = some kl)
    (h : ∀ w', MapV P k w' b (n + 1) z (updV f kl val) → w.grownBy w' (some b) → K (a.put o.dst undef) w') :
    if Region.wanted o (yielded ops a.tmps) = true then Oper.wp P o a w K Q else E := by
  rw [if_pos (by simp [Region.wanted, hgd])]
  obtain ⟨w', hrun, r1, r2⟩ := hown.upd Ky ht hn (val := val) hkey
  unfold Oper.wp
  simp [execOp, hop, hm, hx, hv, hrun, Result.andThen]
  exact h w' r1 r2
/-- A copy into a block of one's own. -/
theorem step_copy_at {ops : Array Oper} {o : Oper} {a : Act} {K : Act → World → Prop} {Q : Exit → Act → World → Prop} {E : Prop} (d s : Operand) (dT sT : TypeId) (hgd : o.guard = none)
    (ho : o.op = .call { callee := .builtin .copy, args := #[d, s], argTypes := #[dT, sT] }) (elem : TypeId) (hu : P.underlying dT = some (.slice elem)) (hsz : (P.info? elem).map (·.size) = some 1)
    (g off n dCap : Nat) (A : Option Addr) (sCap : Nat) (hd : a.eval d = .slice (some ⟨g, off, none⟩) n dCap) (hs : a.eval s = .slice A n sCap) (hn0 : 0 < n)
    (cur : List Value) (t : TypeId) (hg : w.heap[g]? = some (.cells cur.toArray t (0, 0))) (cs : List Value) (B : Nat) (hr : Rd w B 1 A n cs)
    (hfit : off + n ≤ cur.length) (h1 : ∀ v ∈ cs, v.oneCell' = true)
    (h : ∀ w', w'.heap[g]? = some (.cells (splice cur off cs).toArray t (0, 0)) → w.grownBy w' (some g) → K (a.put o.dst (goInt cs.length)) w') :
    if Region.wanted o (yielded ops a.tmps) = true then Oper.wp P o a w K Q else E := by
  have hw : Region.wanted o (yielded ops a.tmps) = true := by simp [Region.wanted, hgd]
  rw [if_pos hw]
  have hl := hr.len
  obtain ⟨b, of, rfl, _, hc⟩ := hr.2 hn0
  have hrun := run_copy_row (P := P) w dT sT o.type elem g off n dCap ⟨b, of, none⟩ n sCap cur.toArray t cs hu hsz hg (by rw [hl]; exact (Nat.min_self n).symm) (fun j v hj => by rw [addr_add]; exact hc j v hj) (by rw [hl]; simpa using hfit) h1
  unfold Oper.wp
  simp [execOp, ho, resolve, invoke, builtin, hd, hs, hrun, Result.andThen]
  refine h _ ?_ ⟨rfl, rfl, rfl, by rw [setRow_size]; exact Nat.le_refl _, fun k hk hne => setRow_other w g k _ (fun e => hne (by rw [e]))⟩
  simpa [splice] using setRow_heap w g _ _ t _ hg
end
theorem info65z : ∃ i z, Try.prog.info? 114 = some i ∧ i.zero = some z ∧ i.size = 65 ∧ i.bytes = 72 ∧ z.cells.size = 65 := by
  have h1 : (Try.prog.info? 114).map (fun i => (i.size, i.bytes, i.zero.map (·.cells.size))) = some (65, 72, some 65) := by kernel_rfl
  rcases hi : Try.prog.info? 114 with _ | i
  · rw [hi] at h1; cases h1
  · rw [hi] at h1
    simp at h1
    obtain ⟨h2, h3, z, h4, h5⟩ := h1
    exact ⟨i, z, rfl, h4, h2, h3, h5⟩
theorem step_lit65 {w : World} {ops : Array Oper} {E : Prop} {o : Oper} {a : Act} {K : Act → World → Prop} {Q : Exit → Act → World → Prop} (x : Operand) (hgd : o.guard = none) (ho : o.op = .buildSlice 102 1 #[(0, x)])
    (k : Kn) (hk : k.ok) (hx : a.eval x = .agg (knC k).toArray)
    (h : K (a.put o.dst (.slice (some ⟨w.heap.size, 0, none⟩) 1 1)) (w.alloc (.cells (knC k).toArray 114))) : if Region.wanted o (yielded ops a.tmps) = true then Oper.wp Try.prog o a w K Q else E := by
  rw [if_pos (by simp [Region.wanted, hgd])]
  obtain ⟨i, z, h1, h2, h3, _, h4⟩ := info65z
  have hl := knC_len hk
  refine wp_buildSlice 102 114 1 #[(0, x)] ho (knC k).toArray i z Try.underlying102 h1 h2 (by rw [h3]; decide) (by rw [h3]; decide) ?_ h
  have gen : ∀ zs : Array Value, zs.size = 65 → Instr.fill (fun i => some (i * 65, 65)) zs [(0, .agg (knC k).toArray)] = some (knC k).toArray := by
    intro zs hz
    have := Great.fill_whole (s := 65) (by decide) [.agg (knC k).toArray] zs (by intro v hv; simp at hv; subst hv; simp [Value.cells, hl]) (by simp [hz])
    simpa [Value.cells] using this
  have e1 : (#[(0, x)].map fun (i, x) => (i, a.eval x)).toList = [(0, .agg (knC k).toArray)] := by simp [hx]
  rw [h3, e1]
  exact gen _ (by simp)
def kn0 (x : Int) : Kn := ⟨List.replicate 32 0, List.replicate 32 0, x⟩
theorem built65 (x : Int) : Try.prog.built 114 [(2, .int .i64 x)] = some (knC (kn0 x)).toArray := by kernel_rfl
theorem splice_dg {x : Int} {d : List UInt8} (h : d.length = 32) : splice (knC (kn0 x)) 0 (d.map B8) = knC ⟨d, List.replicate 32 0, x⟩ := by
  unfold splice
  rw [List.take_zero, List.nil_append, Nat.zero_add, List.length_map, h]
  show _ = d.map B8 ++ (List.replicate 32 0).map B8 ++ [_]
  rw [List.append_assoc]
  congr 1
theorem splice_bd {x : Int} {d b : List UInt8} (hd : d.length = 32) (hb : b.length = 32) : splice (knC ⟨d, List.replicate 32 0, x⟩) 32 (b.map B8) = knC ⟨d, b, x⟩ := by
  unfold splice knC
  rw [List.length_map, hb]
  simp only [List.append_assoc]
  rw [List.take_left' (by rw [List.length_map, hd])]
  congr 2
  rw [List.drop_append, List.length_map, hd, List.drop_eq_nil_of_le (by rw [List.length_map, hd]; omega), List.nil_append]
  rfl
end Go.Proofs.Ytabcbpcfleociaa

/- A book's put, Take. (Printed by gen_chi.py.) -/
namespace Go.Proofs.Ytabcbpcfleociaa
open Go.RowKit Go.Maps
attribute [local go_sem ↓] Go.wp_at_zero Go.wp_at_succ
set_option linter.unusedSimpArgs false
set_option linter.unusedVariables false
/-- A block's cells that a change elsewhere leaves. -/
theorem range_fr {w w' : World} {g o : Nat} {cs : List Value} {own own' : List Nat} (h : w.rangeAt g o cs) (hf : Fr own w w' own') (hg : g < w.heap.size) (hn : g ∉ own) : w'.rangeAt g o cs := fun j v hj => (World.cell?_of_block (a := ⟨g, o + j, none⟩) (hf.block g hg hn)).trans (h j v hj)
theorem range_gr {w w' : World} {g o : Nat} {cs : List Value} {r : Option Nat} (h : w.rangeAt g o cs) (hf : w.grownBy w' r) (hg : g < w.heap.size) (hn : r ≠ some g) : w'.rangeAt g o cs := fun j v hj => (World.cell?_of_block (a := ⟨g, o + j, none⟩) (hf.block g hg (fun e => hn e.symm))).trans (h j v hj)
theorem IdealV.ca {w : World} {g : Nat} {hs : List (List UInt8)} {own R : List Nat} {A : Option Addr} {c b : Nat} {Qs : List (Option Addr × Nat)} {f : Lit → Value} (h : IdealV w g hs own R A c b Qs f) : True := trivial
theorem ofA_snoc (S : Bk) (a b : Int) (k : Kn) : ofA (S ++ [(a, k)]) b = if b = a then ofA S b ++ [k] else ofA S b := by
  rw [ofA_app, ofA_one]
  by_cases h : a = b
  · rw [if_pos h, if_pos h.symm]
  · rw [if_neg h, if_neg (fun e => h e.symm), List.append_nil]
theorem alloc2 (w : World) (o : Obj) (z : Array Value) (t : TypeId) : ((w.alloc o).alloc (.cells z t)).heap[w.heap.size + 1]? = some (.cells z t (0, 0)) := by
  have := heap_alloc_new (w.alloc o) (.cells z t)
  rwa [szAlloc] at this
theorem zero65 (x : Int) : Try.zeroCells114.setIfInBounds 64 (.int .i64 x) = (knC (kn0 x)).toArray := by kernel_rfl
theorem Fr.set {own own' : List Nat} {w u v : World} {r : Nat} (h : Fr own w u own') (hg : u.grownBy v (some r)) (hr : w.heap.size ≤ r) : Fr own w v own' :=
  ⟨hg.os.trans h.os, hg.tape.trans h.tape, hg.output.trans h.output, Nat.le_trans h.size hg.size, fun k hk hn => (hg.block k (Nat.lt_of_lt_of_le hk h.size) (fun e => by injection e with e; omega)).trans (h.block k hk hn), h.sub⟩
theorem Fr.one {w w' : World} {r : Nat} (h : w.grownBy w' (some r)) : Fr [r] w w' [r] := Fr.grown h (fun r' e => by injection e with e; exact Or.inl (by simp [e])) (fun k hk => Or.inl hk)
theorem BookV.ne {w : World} {g : Nat} {S : Bk} {own R : List Nat} {b n : Nat} {f : Lit → Value} (h : BookV w g S own R b n f) : g ≠ b := by
  intro e
  obtain ⟨D, ⟨es, clock, hb, _⟩, _⟩ := h.map
  have := h.blk
  rw [e, hb] at this
  cases this
/-- The book behind a map's update. -/
theorem BookV.put {w w1 w2 : World} {g : Nat} {S : Bk} {own R : List Nat} {b n : Nat} {f : Lit → Value} (h : BookV w g S own R b n f) {a : Int} {k : Kn} (ha : 0 ≤ a ∧ a < 5) (hk : k.ok) (hs : S.length < 1048576) {A : Option Addr} {c : Nat}
    (ho : w1.ownsRow w.heap.size 114 65 (.slice A ((ofA S a).length + 1) c) ((ofA S a).length + 1) ((ofA S a).flatMap knC ++ knC k)) (hg : w.grownBy w1 none)
    (hm : MapV Try.prog 3 w2 b (n + 1) (.slice none 0 0) (updV f (.int .i64 a) (.slice A ((ofA S a).length + 1) c))) (h2 : w1.grownBy w2 (some b)) (hgb : g ≠ b) (hR : ∀ k, k ∈ R → k < w.heap.size) :
    BookV w2 g (S ++ [(a, k)]) own R b (n + 1) (updV f (.int .i64 a) (.slice A ((ofA S a).length + 1) c)) := by
  have hb1 : Below w.heap.size w w1 := ⟨hg.os, hg.tape, hg.output, hg.size, fun k hk => hg.block k hk (by simp)⟩
  have h1 := h.below hb1
  have hF2 : Fr [b] w1 w2 [b] := Fr.grown h2 (fun r e => by injection e with e; exact Or.inl (by simp [e])) (fun k hk => Or.inl hk)
  refine ⟨(hF2.block g (h1.lt g h1.og) (by simp [hgb])).trans h1.blk, hm, ?_, by simp; omega, fun x => ?_, h.ok.app ha hk, h.og, h.ob, fun k hk => Nat.lt_of_lt_of_le (h1.lt k hk) hF2.size⟩
  · have := h.le; simp; omega
  · rw [ofA_snoc]
    by_cases e : x = a
    · subst e
      rw [if_pos rfl, updV_same]
      refine ⟨A, c, by simp, by rw [List.length_append]; exact own_cap ho, ?_, ?_⟩
      · rw [List.length_append, List.flatMap_append]
        have hrd := Rd.of_own ho
        rw [show [k].flatMap knC = knC k by simp]
        refine (hrd.same fun b' o' _ e1 => hF2.block b' ?_ ?_).more hF2.size
        · obtain ⟨g', e2, _, h4⟩ := own_addr ho (by omega)
          rw [e1] at e2; injection e2 with e2; injection e2 with e3; omega
        · obtain ⟨g', e2, h3, _⟩ := own_addr ho (by omega)
          rw [e1] at e2; injection e2 with e2; injection e2 with e3
          have := h.lt b h.ob
          simp; omega
      · intro b' o' _ e1 hm'
        obtain ⟨g', e2, h3, _⟩ := own_addr ho (by omega)
        rw [e1] at e2; injection e2 with e2; injection e2 with e3
        rcases List.mem_append.1 hm' with h4 | h4
        · have := h.lt b' h4; omega
        · have := hR b' h4; omega
    · rw [if_neg e, updV_other _ _ (by intro h5; injection h5 with h5 h6; exact e h6)]
      obtain ⟨A2, c2, e2, hc2, hr2⟩ := h1.rows x
      exact ⟨A2, c2, e2, hc2, hr2.go hF2 (fun k hk => by simp at hk; subst hk; exact List.mem_append.2 (Or.inl h.ob))⟩
set_option maxRecDepth 20000 in
set_option maxHeartbeats 2000000 in
theorem put_ (gb : Nat) (S : Bk) (ob Rb : List Nat) (gi : Nat) (hs : List (List UInt8)) (oi Ri : List Nat) (l : Ln) (A : Option Addr) (n c : Nat) (B : Option Addr) (m d : Nat) (w : World) (hK : BookAt w gb S ob Rb) (hI : IdealAt w gi hs oi Ri)
    (hp : RdN oi w 1 A n (l.pv.map B8)) (hq : RdN oi w 1 B m (l.bd.map B8)) (ho : ∀ k, k ∈ oi → k ∈ Rb) (ho2 : ∀ k, k ∈ ob → k ∈ Ri) (hdj : ∀ k, k ∈ oi → k ∉ ob) (hn : hs.length ≤ 1000000) (hS : S.length < 1048576) (hRi : ∀ k, k ∈ Ri → k < w.heap.size) (hRb : ∀ k, k ∈ Rb → k < w.heap.size) (hr : rightL l) :
    Calls Try.prog 57 #[.pointer (some ⟨gb, 0, none⟩), .iface 27 (.pointer (some ⟨gi, 0, none⟩)), lnV l A n c B m d] w fun e w' => ∃ oi', e = .returned undef ∧ IdealAt w' gi (note hs (bytesL l)) oi' Ri ∧ BookAt w' gb (S ++ [(l.au, knL hs l)]) ob (Rb ++ oi') ∧ Fr (ob ++ oi) w w' (ob ++ oi') ∧ (∀ k, k ∈ oi' → k ∈ oi ∨ w.heap.size ≤ k) := by
  obtain rfl : m = 32 := by have h1 := hq.1.len; rw [List.length_map] at h1; rw [← h1]; exact hr.2.1
  obtain ⟨Y, hY⟩ : ∃ Y, Hid (Y = w.alloc (.cells #[.int .i64 l.au, .int .i64 l.sq, .int .i64 l.ep, .slice A n c, .slice B 32 d] 40)) := ⟨_, Lib.hid rfl⟩
  have BY : Hid (Below w.heap.size w Y) := by rw [hY.out]; exact (Below.refl _ _).alloc (Nat.le_refl _) _
  obtain ⟨G, hG⟩ : ∃ g, Hid (g = w.heap.size) := ⟨_, Lib.hid rfl⟩
  have RY : Hid (Y.rangeAt G 0 [.int .i64 l.au, .int .i64 l.sq, .int .i64 l.ep, .slice A n c, .slice B 32 d]) := by rw [hY.out, hG.out]; exact rangeNew w _ _
  have hGY : Hid (G < Y.heap.size) := by unfold Hid; rw [hG.out, hY.out, szAlloc]; exact Nat.lt_succ_self _
  have hGo : Hid (∀ k, k ∈ oi → k < G) := by unfold Hid; rw [hG.out]; exact note_lt hI
  have hau : Hid (0 ≤ l.au ∧ l.au < 5) := ⟨hr.1.1, hr.1.2.1⟩
  have hbd : Hid (l.bd.length = 32) := hr.2.1
  have HK := Lib.hid hK
  have HI := Lib.hid hI
  have HP := Lib.hid hp
  have HQ := Lib.hid hq
  have HO := Lib.hid ho
  have HO2 := Lib.hid ho2
  have HDJ := Lib.hid hdj
  have HRi := Lib.hid hRi
  have HRb := Lib.hid hRb
  have HN := Lib.hid hn
  have HS := Lib.hid hS
  have Hr := Lib.hid hr
  have hYs : Hid (Y.heap.size = w.heap.size + 1) := by unfold Hid; rw [hY.out, szAlloc]
  have f2 : (w.alloc (.cells #[.int .i64 l.au, .int .i64 l.sq, .int .i64 l.ep, .slice A n c, .slice B 32 d] 40)).cell? ⟨w.heap.size, 2, none⟩ = some (.int .i64 l.ep) := cell_blk (heap_alloc_new w _) 2 rfl
  clear hK hI hp hq ho ho2 hdj hRi hRb hn hS hr
  go_enter Try.func57, Try.ntmps57
  unfold lnV
  go_wp2_with (refine wpList_store_row rfl 114 (.tmp 6) (.tmp 10) rfl (w.heap.size + 1) (Try.zeroCells114.setIfInBounds 64 (.int .i64 l.ep)) rfl rfl _ _ (alloc2 w _ _ _) (by kernel_rfl) (by kernel_rfl) (by kernel_rfl) ?_)
  rw [zero65]
  rw [← hY.out]
  generalize hZ0 : World.setRow _ _ _ = Z
  rw [← hYs.out] at hZ0 ⊢
  obtain ⟨hZk, hZb, hZs⟩ := row_new Y _ _ _ hZ0
  obtain ⟨KB, hKB⟩ : ∃ k, Hid (k = Y.heap.size) := ⟨_, Lib.hid rfl⟩
  rw [← hKB.out] at hZk ⊢
  rw [← hG.out]
  have KZ := Lib.hid hZk
  have RZ := Lib.hid (range_keep RY.out hZb hGY.out)
  have BZ := Lib.hid (BY.out.trans (hZb.mono BY.out.size))
  have hGZ : Hid (G < Z.heap.size) := Nat.lt_of_lt_of_le hGY.out hZb.size
  have hKZ : Hid (KB < Z.heap.size) := lt_of_blk hZk
  have hGK : Hid (G < KB) := by unfold Hid; rw [hKB.out]; exact hGY.out
  have hwG : Hid (w.heap.size ≤ G) := Nat.le_of_eq hG.out.symm
  have IZ : Hid (IdealAt Z gi hs oi (KB :: Ri)) := HI.out.keep (own2 := []) (own2' := []) (Fr.below BZ.out) (fun _ h => absurd h (by simp)) (fun _ h => absurd h (by simp)) (fun k hk => by rcases List.mem_cons.1 hk with h1 | h1; exact Or.inr (by rw [h1]; exact Nat.le_of_lt (Nat.lt_of_le_of_lt hwG.out hGK.out)); exact Or.inl h1)
  clear hZ0 hZk hZb hZs f2
  simp only [Act.put]
  obtain ⟨X, hX⟩ : ∃ W, Hid (W = Z.drew) := ⟨_, Lib.hid rfl⟩
  have dX : Below Z.heap.size Z X := by rw [hX.out]; exact below_drew (Below.refl _ _)
  have RX := Lib.hid (range_keep RZ.out dX hGZ.out)
  have hGX : Hid (G < X.heap.size) := Nat.lt_of_lt_of_le hGZ.out dX.size
  have hKX : Hid (KB < X.heap.size) := Nat.lt_of_lt_of_le hKZ.out dX.size
  have BX := Lib.hid (BZ.out.trans (dX.mono BZ.out.size))
  have KX : Hid (X.heap[KB]? = some (.cells (knC (kn0 l.ep)).toArray 114 (0, 0))) := (dX.block KB hKZ.out).trans KZ.out
  have IX := Lib.hid (IZ.out.below dX)
  have PX := Lib.hid (HP.out.1.to BX.out)
  have QX := Lib.hid (HQ.out.1.to BX.out)
  have HRX : Hid (∀ k, k ∈ KB :: Ri → k < X.heap.size) := fun k hk => by rcases List.mem_cons.1 hk with h1 | h1; exact h1 ▸ hKX.out; exact Nat.lt_of_lt_of_le (HRi.out k h1) BX.out.size
  have hKo : Hid (KB ∉ oi) := fun hm => absurd (hGo.out KB hm) (by have := hGK.out; omega)
  refine wp_region_noPanic ?_
  refine wp_region_held_drew (S := fun w' => w'.rangeAt G 0 [.int .i64 l.au, .int .i64 l.sq, .int .i64 l.ep, .slice A n c, .slice B 32 d]) (by kernel_rfl) (by rw [← hX.out]; exact RX.out) (fun hS => ?_)
  rw [← hX.out]
  clear hS
  have hS : X.rangeAt G 0 [.int .i64 l.au, .int .i64 l.sq, .int .i64 l.ep, .slice A n c, .slice B 32 d] := RX.out
  refine wpAnyH_take (i := 0) (v := ?va0) rfl (by kernel_rfl) (by kernel_rfl) (by kernel_rfl) (fun _ _ _ h => h) (Or.inl ⟨by rfl, ?hya0⟩) hS ?resta0
  case hya0 => (intro w' hSw; go_simp; first | done | with_reducible rfl)
  try simp only [Act.put, List.getElem_toArray, List.getElem_cons_zero, List.getElem_cons_succ, List.setIfInBounds_toArray, List.set_cons_zero, List.set_cons_succ]
  refine wpAnyH_take (i := 1) (v := .slice (some ⟨KB, 0, none⟩) 32 32) rfl (by kernel_rfl) (by kernel_rfl) (by kernel_rfl) (fun _ _ _ h => h) (Or.inl ⟨by rfl, ?hya1⟩) hS ?resta1
  case hya1 => (intro w' hSw; go_simp; first | done | with_reducible rfl)
  try simp only [Act.put, List.getElem_toArray, List.getElem_cons_zero, List.getElem_cons_succ, List.setIfInBounds_toArray, List.set_cons_zero, List.set_cons_succ]
  refine wpAnyH_take (i := 2) (v := ?va2) rfl (by kernel_rfl) (by kernel_rfl) (by kernel_rfl) (fun _ _ _ h => h) (Or.inl ⟨by rfl, ?hya2⟩) hS ?resta2
  case hya2 => (intro w' hSw; go_simp; first | done | with_reducible rfl)
  try simp only [Act.put, List.getElem_toArray, List.getElem_cons_zero, List.getElem_cons_succ, List.setIfInBounds_toArray, List.set_cons_zero, List.set_cons_succ]
  refine wpAnyH_take (i := 3) (v := .agg #[.int .i64 l.au, .int .i64 l.sq, .int .i64 l.ep, .slice A n c, .slice B 32 d]) rfl (by kernel_rfl) (by kernel_rfl) (by kernel_rfl) (fun _ _ _ h => h) (Or.inl ⟨by rfl, ?hya3⟩) hS ?resta3
  case hya3 => (intro w' hSw; have c0 := hSw 0 _ rfl; have c1 := hSw 1 _ rfl; have c2 := hSw 2 _ rfl; have c3 := hSw 3 _ rfl; have c4 := hSw 4 _ rfl; go_simp; first | done | with_reducible rfl)
  try simp only [Act.put, List.getElem_toArray, List.getElem_cons_zero, List.getElem_cons_succ, List.setIfInBounds_toArray, List.set_cons_zero, List.set_cons_succ]
  refine wpAnyH_ready (rs := [4]) (by kernel_rfl) (by simp) ?_
  refine AllReadyH.cons rfl (fun K hK => ?_) AllReadyH.nil
  go_simp
  refine (digest_ gi hs oi (KB :: Ri) l A n c B 32 d X IX.out PX.out QX.out Hr.out HN.out HRX.out).mono ?_
  rintro e u ⟨oi', A6, c6, rfl, o6, i6, f6⟩
  have S6 := range_fr RX.out f6 hGX.out (fun hm => Nat.lt_irrefl _ (hGo.out G hm))
  have K6 : Hid (u.heap[KB]? = some (.cells (knC (kn0 l.ep)).toArray 114 (0, 0))) := (f6.block KB hKX.out hKo.out).trans KX.out
  have O6 := Lib.hid o6.rd
  have I6 := Lib.hid i6
  have F6 : Hid (Fr oi w u oi') := (Fr.below BX.out).trans f6
  have hKo' : Hid (KB ∉ oi') := fun hm => by rcases f6.sub KB hm with h1 | h1; exact hKo.out h1; exact absurd h1 (by have := hKX.out; omega)
  have hsu := f6.size
  clear o6 i6 f6
  go_wp2_with fail
  refine hK.out _ _ S6 ?_
  intro hS
  clear hK K hS
  try simp only [Act.put, List.getElem_toArray, List.getElem_cons_zero, List.getElem_cons_succ, List.setIfInBounds_toArray, List.set_cons_zero, List.set_cons_succ]
  have hS : u.rangeAt G 0 [.int .i64 l.au, .int .i64 l.sq, .int .i64 l.ep, .slice A n c, .slice B 32 d] := S6
  refine wpAnyH_ready (rs := [5]) (by kernel_rfl) (by simp) ?_
  refine AllReadyH.cons rfl (fun K hK => ?_) AllReadyH.nil
  refine step_copy_at (.tmp 12) (.tmp 15) 38 38 rfl rfl 5 Try.underlying38 (by kernel_rfl) KB 0 32 32 A6 c6 rfl rfl (by decide) (knC (kn0 l.ep)) 114 K6.out ((digL hs l).map B8) _ O6.out (by rw [knC_len ⟨List.length_replicate, List.length_replicate, Hr.out.1.2.2.2.2.1, Hr.out.1.2.2.2.2.2⟩]; decide) (oneB _) ?_
  intro v hk hg
  rw [splice_dg (digL_len hs l)] at hk
  have KV := Lib.hid hk
  have FV := Lib.hid (F6.out.set hg (Nat.le_of_lt (Nat.lt_of_le_of_lt hwG.out hGK.out)))
  have IV : Hid (IdealAt v gi (note hs (bytesL l)) oi' (KB :: Ri)) := I6.out.keep (Fr.one hg) (fun k hk => by simp at hk; simp [hk]) (fun k hk => by simp at hk; rw [hk]; exact hKo'.out) (fun k hk => Or.inl hk)
  have SV := range_gr S6 hg (Nat.lt_of_lt_of_le hGX.out hsu) (by intro e; injection e with e; have := hGK.out; omega)
  have hGV : Hid (G < v.heap.size) := Nat.lt_of_lt_of_le (Nat.lt_of_lt_of_le hGX.out hsu) hg.size
  clear hk
  refine hK.out _ _ SV ?_
  intro hS
  clear hK K hS
  try simp only [Act.put, List.getElem_toArray, List.getElem_cons_zero, List.getElem_cons_succ, List.setIfInBounds_toArray, List.set_cons_zero, List.set_cons_succ]
  refine wpAnyH_done (by kernel_rfl) (NoPanic.normal ?_) _
  go_wp2_with fail
  obtain ⟨T, hT⟩ : ∃ W, Hid (W = v.drew) := ⟨_, Lib.hid rfl⟩
  have dT : Below v.heap.size v T := by rw [hT.out]; exact below_drew (Below.refl _ _)
  have RT := Lib.hid (range_keep SV dT hGV.out)
  have hKV : Hid (KB < v.heap.size) := lt_of_blk KV.out
  have KT : Hid (T.heap[KB]? = some (.cells (knC ⟨digL hs l, List.replicate 32 0, l.ep⟩).toArray 114 (0, 0))) := (dT.block KB hKV.out).trans KV.out
  have IT := Lib.hid (IV.out.below dT)
  have FT : Hid (Fr oi w T oi') := FV.out.trans (Fr.below dT)
  have hGT : Hid (G < T.heap.size) := Nat.lt_of_lt_of_le hGV.out dT.size
  have QT := Lib.hid (HQ.out.go FT.out (fun k hk => hk)).1
  refine wp_region_noPanic ?_
  refine wp_region_held_drew (S := fun w' => w'.rangeAt G 0 [.int .i64 l.au, .int .i64 l.sq, .int .i64 l.ep, .slice A n c, .slice B 32 d]) (by kernel_rfl) (by rw [← hT.out]; exact RT.out) (fun hS => ?_)
  rw [← hT.out]
  clear hS
  have hS : T.rangeAt G 0 [.int .i64 l.au, .int .i64 l.sq, .int .i64 l.ep, .slice A n c, .slice B 32 d] := RT.out
  refine wpAnyH_take (i := 0) (v := ?vb0) rfl (by kernel_rfl) (by kernel_rfl) (by kernel_rfl) (fun _ _ _ h => h) (Or.inl ⟨by rfl, ?hyb0⟩) hS ?restb0
  case hyb0 => (intro w' hSw; go_simp; first | done | with_reducible rfl)
  try simp only [Act.put, List.getElem_toArray, List.getElem_cons_zero, List.getElem_cons_succ, List.setIfInBounds_toArray, List.set_cons_zero, List.set_cons_succ]
  refine wpAnyH_take (i := 1) (v := .slice (some ⟨KB, 32, none⟩) 32 32) rfl (by kernel_rfl) (by kernel_rfl) (by kernel_rfl) (fun _ _ _ h => h) (Or.inl ⟨by rfl, ?hyb1⟩) hS ?restb1
  case hyb1 => (intro w' hSw; go_simp; first | done | with_reducible rfl)
  try simp only [Act.put, List.getElem_toArray, List.getElem_cons_zero, List.getElem_cons_succ, List.setIfInBounds_toArray, List.set_cons_zero, List.set_cons_succ]
  refine wpAnyH_take (i := 2) (v := ?vb2) rfl (by kernel_rfl) (by kernel_rfl) (by kernel_rfl) (fun _ _ _ h => h) (Or.inl ⟨by rfl, ?hyb2⟩) hS ?restb2
  case hyb2 => (intro w' hSw; go_simp; first | done | with_reducible rfl)
  try simp only [Act.put, List.getElem_toArray, List.getElem_cons_zero, List.getElem_cons_succ, List.setIfInBounds_toArray, List.set_cons_zero, List.set_cons_succ]
  refine wpAnyH_take (i := 3) (v := .slice B 32 d) rfl (by kernel_rfl) (by kernel_rfl) (by kernel_rfl) (fun _ _ _ h => h) (Or.inl ⟨by rfl, ?hyb3⟩) hS ?restb3
  case hyb3 => (intro w' hSw; have c4 := hSw 4 _ rfl; go_simp; first | done | with_reducible rfl)
  try simp only [Act.put, List.getElem_toArray, List.getElem_cons_zero, List.getElem_cons_succ, List.setIfInBounds_toArray, List.set_cons_zero, List.set_cons_succ]
  refine wpAnyH_ready (rs := [4]) (by kernel_rfl) (by simp) ?_
  refine AllReadyH.cons rfl (fun K hK => ?_) AllReadyH.nil
  refine step_copy_at (.tmp 18) (.tmp 20) 38 38 rfl rfl 5 Try.underlying38 (by kernel_rfl) KB 32 32 32 B d rfl rfl (by decide) (knC ⟨digL hs l, List.replicate 32 0, l.ep⟩) 114 KT.out (l.bd.map B8) _ QT.out (by rw [knC_len ⟨digL_len hs l, List.length_replicate, Hr.out.1.2.2.2.2.1, Hr.out.1.2.2.2.2.2⟩]; decide) (oneB _) ?_
  intro x hk hg
  rw [splice_bd (digL_len hs l) hbd.out] at hk
  have KX2 : Hid (x.heap[KB]? = some (.cells (knC (knL hs l)).toArray 114 (0, 0))) := hk
  have FX := Lib.hid (FT.out.set hg (Nat.le_of_lt (Nat.lt_of_le_of_lt hwG.out hGK.out)))
  have IX2 : Hid (IdealAt x gi (note hs (bytesL l)) oi' (KB :: Ri)) := IT.out.keep (Fr.one hg) (fun k hk => by simp at hk; simp [hk]) (fun k hk => by simp at hk; rw [hk]; exact hKo'.out) (fun k hk => Or.inl hk)
  have SX := range_gr RT.out hg hGT.out (by intro e; injection e with e; have := hGK.out; omega)
  have hGX2 : Hid (G < x.heap.size) := Nat.lt_of_lt_of_le hGT.out hg.size
  clear hk
  refine hK.out _ _ SX ?_
  intro hS
  clear hK K hS
  try simp only [Act.put, List.getElem_toArray, List.getElem_cons_zero, List.getElem_cons_succ, List.setIfInBounds_toArray, List.set_cons_zero, List.set_cons_succ]
  refine wpAnyH_done (by kernel_rfl) (NoPanic.normal ?_) _
  go_wp2_with fail
  obtain ⟨U, hU⟩ : ∃ W, Hid (W = x.drew) := ⟨_, Lib.hid rfl⟩
  have dU : Below x.heap.size x U := by rw [hU.out]; exact below_drew (Below.refl _ _)
  have RU := Lib.hid (range_keep SX dU hGX2.out)
  have hGU : Hid (G < U.heap.size) := Nat.lt_of_lt_of_le hGX2.out dU.size
  have hKX2 : Hid (KB < x.heap.size) := lt_of_blk KX2.out
  have KU : Hid (U.heap[KB]? = some (.cells (knC (knL hs l)).toArray 114 (0, 0))) := (dU.block KB hKX2.out).trans KX2.out
  have FU : Hid (Fr oi w U oi') := FX.out.trans (Fr.below dU)
  have IU := Lib.hid (IX2.out.below dU)
  have HKU : Hid (BookAt U gb S ob (Rb ++ oi')) := HK.out.keep FU.out HO.out HDJ.out (fun k hk => by rcases List.mem_append.1 hk with h1 | h1; exact Or.inl h1; exact (FU.out.sub k h1).imp (HO.out k) id)
  obtain ⟨b, nb, f, hv⟩ := HKU.out
  obtain ⟨RA, Rc, ef, hRc, hrow⟩ := hv.rows l.au
  have hbl := cell_blk hv.blk 0 rfl
  have hlk := hv.look ⟨by have := hau.out; omega, by have := hau.out; omega⟩ ef
  have HV := Lib.hid hv
  have HROW := Lib.hid hrow
  have hef := Lib.hid ef
  obtain ⟨L, hL⟩ : ∃ L, Hid ((ofA S l.au).length = L) := ⟨_, Lib.hid rfl⟩
  rw [hL.out] at hlk HROW hRc hef
  have c0 := RU.out 0 _ rfl
  clear hv hrow ef
  refine wp_region_noPanic ?_
  refine wp_region_held_drew (S := fun w' => w' = U) (by kernel_rfl) hU.out.symm (fun hS => ?_)
  rw [← hU.out]
  clear hS
  have hS : U = U := rfl
  refine wpAnyH_take (i := 0) (v := ?vc0) rfl (by kernel_rfl) (by kernel_rfl) (by kernel_rfl) (fun _ _ _ h => h) (Or.inl ⟨by rfl, ?hyc0⟩) hS ?restc0
  case hyc0 => ((intro w' hSw; subst hSw; go_simp; first | done | with_reducible rfl))
  try simp only [Act.put, List.getElem_toArray, List.getElem_cons_zero, List.getElem_cons_succ, List.setIfInBounds_toArray, List.set_cons_zero, List.set_cons_succ]
  refine wpAnyH_take (i := 1) (v := ?vc1) rfl (by kernel_rfl) (by kernel_rfl) (by kernel_rfl) (fun _ _ _ h => h) (Or.inl ⟨by rfl, ?hyc1⟩) hS ?restc1
  case hyc1 => ((intro w' hSw; subst hSw; go_simp; first | done | with_reducible rfl))
  try simp only [Act.put, List.getElem_toArray, List.getElem_cons_zero, List.getElem_cons_succ, List.setIfInBounds_toArray, List.set_cons_zero, List.set_cons_succ]
  refine wpAnyH_take (i := 2) (v := ?vc2) rfl (by kernel_rfl) (by kernel_rfl) (by kernel_rfl) (fun _ _ _ h => h) (Or.inl ⟨by rfl, ?hyc2⟩) hS ?restc2
  case hyc2 => ((intro w' hSw; subst hSw; go_simp; first | done | with_reducible rfl))
  try simp only [Act.put, List.getElem_toArray, List.getElem_cons_zero, List.getElem_cons_succ, List.setIfInBounds_toArray, List.set_cons_zero, List.set_cons_succ]
  refine wpAnyH_take (i := 3) (v := .map (some b)) rfl (by kernel_rfl) (by kernel_rfl) (by kernel_rfl) (fun _ _ _ h => h) (Or.inl ⟨by rfl, ?hyc3⟩) hS ?restc3
  case hyc3 => ((intro w' hSw; subst hSw; go_simp; first | done | with_reducible rfl))
  try simp only [Act.put, List.getElem_toArray, List.getElem_cons_zero, List.getElem_cons_succ, List.setIfInBounds_toArray, List.set_cons_zero, List.set_cons_succ]
  refine wpAnyH_take (i := 4) (v := ?vc4) rfl (by kernel_rfl) (by kernel_rfl) (by kernel_rfl) (fun _ _ _ h => h) (Or.inl ⟨by rfl, ?hyc4⟩) hS ?restc4
  case hyc4 => ((intro w' hSw; subst hSw; go_simp; first | done | with_reducible rfl))
  try simp only [Act.put, List.getElem_toArray, List.getElem_cons_zero, List.getElem_cons_succ, List.setIfInBounds_toArray, List.set_cons_zero, List.set_cons_succ]
  refine wpAnyH_take (i := 5) (v := .int .i64 l.au) rfl (by kernel_rfl) (by kernel_rfl) (by kernel_rfl) (fun _ _ _ h => h) (Or.inl ⟨by rfl, ?hyc5⟩) hS ?restc5
  case hyc5 => ((intro w' hSw; subst hSw; go_simp; first | done | with_reducible rfl))
  try simp only [Act.put, List.getElem_toArray, List.getElem_cons_zero, List.getElem_cons_succ, List.setIfInBounds_toArray, List.set_cons_zero, List.set_cons_succ]
  refine wpAnyH_take (i := 6) (v := .slice RA L Rc) rfl (by kernel_rfl) (by kernel_rfl) (by kernel_rfl) (fun _ _ _ h => h) (Or.inl ⟨by rfl, ?hyc6⟩) hS ?restc6
  case hyc6 => ((intro w' hSw; subst hSw; go_simp; first | done | with_reducible rfl))
  try simp only [Act.put, List.getElem_toArray, List.getElem_cons_zero, List.getElem_cons_succ, List.setIfInBounds_toArray, List.set_cons_zero, List.set_cons_succ]
  refine wpAnyH_take (i := 7) (v := ?vc7) rfl (by kernel_rfl) (by kernel_rfl) (by kernel_rfl) (fun _ _ _ h => h) (Or.inl ⟨by rfl, ?hyc7⟩) hS ?restc7
  case hyc7 => ((intro w' hSw; subst hSw; go_simp; first | done | with_reducible rfl))
  try simp only [Act.put, List.getElem_toArray, List.getElem_cons_zero, List.getElem_cons_succ, List.setIfInBounds_toArray, List.set_cons_zero, List.set_cons_succ]
  refine wpAnyH_done (by kernel_rfl) (NoPanic.normal ?_) _
  clear c0 hbl hlk hS
  have hLm : Hid (L ≤ 1048576) := by have h1 := ofA_len S l.au; have h2 := HV.out.sm; have h3 := hL.out; unfold Hid; omega
  go_wp2_with fail
  have hKU2 : Hid (KB < U.heap.size) := lt_of_blk KU.out
  have hgU : Hid (gb < U.heap.size) := HV.out.lt gb HV.out.og
  obtain ⟨Q, hQ⟩ : ∃ W, Hid (W = U.drew) := ⟨_, Lib.hid rfl⟩
  have dQ : Below U.heap.size U Q := by rw [hQ.out]; exact below_drew (Below.refl _ _)
  have RQ := Lib.hid (range_keep RU.out dQ hGU.out)
  have hGQ : Hid (G < Q.heap.size) := Nat.lt_of_lt_of_le hGU.out dQ.size
  have KQ := Lib.hid (range_keep (range_of KU.out) dQ hKU2.out)
  have hKQ : Hid (KB < Q.heap.size) := Nat.lt_of_lt_of_le hKU2.out dQ.size
  have VQ := Lib.hid (HV.out.below dQ)
  have GQ : Hid (Q.rangeAt gb 0 [.map (some b)]) := range_of VQ.out.blk
  have hgQ : Hid (gb < Q.heap.size) := VQ.out.lt gb VQ.out.og
  have FQ : Hid (Fr oi w Q oi') := FU.out.trans (Fr.below dQ)
  have IQ := Lib.hid (IU.out.below dQ)
  have hkok := Lib.hid (knL_ok hs Hr.out)
  have SQ : Q.rangeAt G 0 [.int .i64 l.au, .int .i64 l.sq, .int .i64 l.ep, .slice A n c, .slice B 32 d] ∧ Q.rangeAt gb 0 [.map (some b)] ∧ Q.rangeAt KB 0 (knC (knL hs l)) := ⟨RQ.out, GQ.out, KQ.out⟩
  have hgb : Hid (gb ≠ b) := VQ.out.ne
  have HROWQ : Hid (Rd Q Q.heap.size 65 RA L ((ofA S l.au).flatMap knC)) := by
    obtain ⟨A2, c2, ef2, _, hr2⟩ := VQ.out.rows l.au
    rw [hL.out] at ef2 hr2
    have e4 := hef.out.symm.trans ef2
    injection e4 with e4
    rw [e4]; exact hr2.1
  have hRAn : Hid (RA = none → L = 0) := fun e => by
    rcases Nat.eq_zero_or_pos L with h0 | h0
    · exact h0
    · obtain ⟨b', o', e', _⟩ := HROWQ.out.2 h0
      rw [e] at e'; cases e'
  refine wp_region_noPanic ?_
  refine wp_region_held_drew (S := fun w' => w'.rangeAt G 0 [.int .i64 l.au, .int .i64 l.sq, .int .i64 l.ep, .slice A n c, .slice B 32 d] ∧ w'.rangeAt gb 0 [.map (some b)] ∧ w'.rangeAt KB 0 (knC (knL hs l))) (by kernel_rfl) (by rw [← hQ.out]; exact SQ) (fun hS => ?_)
  rw [← hQ.out]
  clear hS
  have hS : Q.rangeAt G 0 [.int .i64 l.au, .int .i64 l.sq, .int .i64 l.ep, .slice A n c, .slice B 32 d] ∧ Q.rangeAt gb 0 [.map (some b)] ∧ Q.rangeAt KB 0 (knC (knL hs l)) := SQ
  refine wpAnyH_take (i := 0) (v := ?vd0) rfl (by kernel_rfl) (by kernel_rfl) (by kernel_rfl) (fun _ _ _ h => h) (Or.inl ⟨by rfl, ?hyd0⟩) hS ?restd0
  case hyd0 => (intro w' hSw; go_simp; first | done | with_reducible rfl)
  try simp only [Act.put, List.getElem_toArray, List.getElem_cons_zero, List.getElem_cons_succ, List.setIfInBounds_toArray, List.set_cons_zero, List.set_cons_succ]
  refine wpAnyH_take (i := 1) (v := ?vd1) rfl (by kernel_rfl) (by kernel_rfl) (by kernel_rfl) (fun _ _ _ h => h) (Or.inl ⟨by rfl, ?hyd1⟩) hS ?restd1
  case hyd1 => (intro w' hSw; go_simp; first | done | with_reducible rfl)
  try simp only [Act.put, List.getElem_toArray, List.getElem_cons_zero, List.getElem_cons_succ, List.setIfInBounds_toArray, List.set_cons_zero, List.set_cons_succ]
  refine wpAnyH_take (i := 2) (v := ?vd2) rfl (by kernel_rfl) (by kernel_rfl) (by kernel_rfl) (fun _ _ _ h => h) (Or.inl ⟨by rfl, ?hyd2⟩) hS ?restd2
  case hyd2 => (intro w' hSw; go_simp; first | done | with_reducible rfl)
  try simp only [Act.put, List.getElem_toArray, List.getElem_cons_zero, List.getElem_cons_succ, List.setIfInBounds_toArray, List.set_cons_zero, List.set_cons_succ]
  refine wpAnyH_take (i := 3) (v := .map (some b)) rfl (by kernel_rfl) (by kernel_rfl) (by kernel_rfl) (fun _ _ _ h => h) (Or.inl ⟨by rfl, ?hyd3⟩) hS ?restd3
  case hyd3 => (intro w' hSw; have c0 := hSw.2.1 0 _ rfl; go_simp; first | done | with_reducible rfl)
  try simp only [Act.put, List.getElem_toArray, List.getElem_cons_zero, List.getElem_cons_succ, List.setIfInBounds_toArray, List.set_cons_zero, List.set_cons_succ]
  refine wpAnyH_take (i := 4) (v := ?vd4) rfl (by kernel_rfl) (by kernel_rfl) (by kernel_rfl) (fun _ _ _ h => h) (Or.inl ⟨by rfl, ?hyd4⟩) hS ?restd4
  case hyd4 => (intro w' hSw; go_simp; first | done | with_reducible rfl)
  try simp only [Act.put, List.getElem_toArray, List.getElem_cons_zero, List.getElem_cons_succ, List.setIfInBounds_toArray, List.set_cons_zero, List.set_cons_succ]
  refine wpAnyH_take (i := 5) (v := .int .i64 l.au) rfl (by kernel_rfl) (by kernel_rfl) (by kernel_rfl) (fun _ _ _ h => h) (Or.inl ⟨by rfl, ?hyd5⟩) hS ?restd5
  case hyd5 => (intro w' hSw; have c0 := hSw.1 0 _ rfl; go_simp; first | done | with_reducible rfl)
  try simp only [Act.put, List.getElem_toArray, List.getElem_cons_zero, List.getElem_cons_succ, List.setIfInBounds_toArray, List.set_cons_zero, List.set_cons_succ]
  refine wpAnyH_take (i := 6) (v := ?vd6) rfl (by kernel_rfl) (by kernel_rfl) (by kernel_rfl) (fun _ _ _ h => h) (Or.inl ⟨by rfl, ?hyd6⟩) hS ?restd6
  case hyd6 => (intro w' hSw; go_simp; first | done | with_reducible rfl)
  try simp only [Act.put, List.getElem_toArray, List.getElem_cons_zero, List.getElem_cons_succ, List.setIfInBounds_toArray, List.set_cons_zero, List.set_cons_succ]
  refine wpAnyH_take (i := 7) (v := ?vd7) rfl (by kernel_rfl) (by kernel_rfl) (by kernel_rfl) (fun _ _ _ h => h) (Or.inl ⟨by rfl, ?hyd7⟩) hS ?restd7
  case hyd7 => (intro w' hSw; go_simp; first | done | with_reducible rfl)
  try simp only [Act.put, List.getElem_toArray, List.getElem_cons_zero, List.getElem_cons_succ, List.setIfInBounds_toArray, List.set_cons_zero, List.set_cons_succ]
  refine wpAnyH_take (i := 8) (v := .int .i64 (L : Int)) rfl (by kernel_rfl) (by kernel_rfl) (by kernel_rfl) (fun _ _ _ h => h) (Or.inl ⟨by rfl, ?hyd8⟩) hS ?restd8
  case hyd8 => (intro w' hSw; go_simp; first | done | with_reducible rfl)
  try simp only [Act.put, List.getElem_toArray, List.getElem_cons_zero, List.getElem_cons_succ, List.setIfInBounds_toArray, List.set_cons_zero, List.set_cons_succ]
  refine wpAnyH_take (i := 9) (v := ?vd9) rfl (by kernel_rfl) (by kernel_rfl) (by kernel_rfl) (fun _ _ _ h => h) (Or.inl ⟨by rfl, ?hyd9⟩) hS ?restd9
  case hyd9 => (intro w' hSw; go_simp; first | done | with_reducible rfl)
  try simp only [Act.put, List.getElem_toArray, List.getElem_cons_zero, List.getElem_cons_succ, List.setIfInBounds_toArray, List.set_cons_zero, List.set_cons_succ]
  refine wpAnyH_take (i := 10) (v := .int .i64 (L : Int)) rfl (by kernel_rfl) (by kernel_rfl) (by kernel_rfl) (fun _ _ _ h => h) (Or.inl ⟨by rfl, ?hyd10⟩) hS ?restd10
  case hyd10 => (intro w' hSw; go_simp; first | done | with_reducible rfl)
  try simp only [Act.put, List.getElem_toArray, List.getElem_cons_zero, List.getElem_cons_succ, List.setIfInBounds_toArray, List.set_cons_zero, List.set_cons_succ]
  refine wpAnyH_take (i := 11) (v := .slice RA L L) rfl (by kernel_rfl) (by kernel_rfl) (by kernel_rfl) (fun _ _ _ h => h) (Or.inl ⟨by rfl, ?hyd11⟩) hS ?restd11
  case hyd11 => (intro w' hSw; go_simp; first | done | with_reducible rfl)
  try simp only [Act.put, List.getElem_toArray, List.getElem_cons_zero, List.getElem_cons_succ, List.setIfInBounds_toArray, List.set_cons_zero, List.set_cons_succ]
  refine wpAnyH_take (i := 12) (v := .agg (knC (knL hs l)).toArray) rfl (by kernel_rfl) (by kernel_rfl) (by kernel_rfl) (fun _ _ _ h => h) (yieldsIf_load_mid (by rfl) 114 (.tmp 6) rfl KB 0 rfl (knC (knL hs l)) _ (fun w' hw => hw.2.2) Try.underlying114 rfl (by rw [knC_len hkok.out]; exact info65)) hS ?restd12
  try simp only [Act.put, List.getElem_toArray, List.getElem_cons_zero, List.getElem_cons_succ, List.setIfInBounds_toArray, List.set_cons_zero, List.set_cons_succ]
  refine wpAnyH_ready (rs := [13]) (by kernel_rfl) (by simp) ?_
  refine AllReadyH.cons rfl (fun K hK => ?_) AllReadyH.nil
  refine step_lit65 (.tmp 41) rfl rfl (knL hs l) hkok.out rfl ?_
  have PA := Lib.hid ((Below.refl Q.heap.size Q).alloc (Nat.le_refl _) (.cells (knC (knL hs l)).toArray 114))
  have LA : Hid (Rd (Q.alloc (.cells (knC (knL hs l)).toArray 114)) (Q.heap.size + 1) 65 (some ⟨Q.heap.size, 0, none⟩) 1 (knC (knL hs l))) := ⟨by rw [knC_len hkok.out], fun _ => ⟨Q.heap.size, 0, rfl, Nat.lt_succ_self _, fun j u hu => rangeNew Q (knC (knL hs l)) _ j u hu⟩⟩
  obtain ⟨M, hM⟩ : ∃ W, Hid (W = Q.alloc (.cells (knC (knL hs l)).toArray 114)) := ⟨_, Lib.hid rfl⟩
  rw [← hM.out] at PA LA ⊢
  obtain ⟨qz, hqz⟩ : ∃ q, Hid (q = Q.heap.size) := ⟨_, Lib.hid rfl⟩
  rw [← hqz.out] at LA ⊢
  have SM : M.rangeAt G 0 [.int .i64 l.au, .int .i64 l.sq, .int .i64 l.ep, .slice A n c, .slice B 32 d] ∧ M.rangeAt gb 0 [.map (some b)] ∧ M.rangeAt KB 0 (knC (knL hs l)) := ⟨range_keep RQ.out PA.out hGQ.out, range_keep GQ.out PA.out hgQ.out, range_keep KQ.out PA.out hKQ.out⟩
  refine hK.out _ _ SM ?_
  intro hS
  clear hK K hS
  try simp only [Act.put, List.getElem_toArray, List.getElem_cons_zero, List.getElem_cons_succ, List.setIfInBounds_toArray, List.set_cons_zero, List.set_cons_succ]
  obtain ⟨i65, z65, q1, q2, q3, q4, q5⟩ := info65z
  have VM := Lib.hid (VQ.out.below PA.out)
  have HROWM := Lib.hid (HROWQ.out.to PA.out)
  refine wpAnyH_ready (rs := [14]) (by kernel_rfl) (by simp) ?_
  refine AllReadyH.cons rfl (fun K hK => ?_) AllReadyH.nil
  refine step_grow (.tmp 40) (.tmp 42) 102 rfl rfl 114 i65 z65 65 72 Try.underlying102 q1 q2 q3 q4 q5 (by decide) RA L ((ofA S l.au).flatMap knC) rfl HROWM.out hRAn.out _ qz 1 1 (knC (knL hs l)) rfl LA.out (knC_one _) (by decide) (by have := hLm.out; simp only [maxLen]; omega) (by have := hLm.out; omega) ?_
  intro NA Nc N hown hgr
  have HOWN := Lib.hid hown
  have HGR := Lib.hid hgr
  have PN : Hid (Below Q.heap.size Q N) := PA.out.trans (Below.mono ⟨hgr.os, hgr.tape, hgr.output, hgr.size, fun k hk => hgr.block k hk (by simp)⟩ PA.out.size)
  have SN : N.rangeAt G 0 [.int .i64 l.au, .int .i64 l.sq, .int .i64 l.ep, .slice A n c, .slice B 32 d] ∧ N.rangeAt gb 0 [.map (some b)] ∧ N.rangeAt KB 0 (knC (knL hs l)) := ⟨range_keep RQ.out PN.out hGQ.out, range_keep GQ.out PN.out hgQ.out, range_keep KQ.out PN.out hKQ.out⟩
  clear hown hgr q1 q2 q3 q4 q5
  refine hK.out _ _ SN ?_
  intro hS
  clear hK K hS
  try simp only [Act.put, List.getElem_toArray, List.getElem_cons_zero, List.getElem_cons_succ, List.setIfInBounds_toArray, List.set_cons_zero, List.set_cons_succ]
  have hbN : Hid (MapV Try.prog 3 N b nb (.slice none 0 0) f) := VM.out.map.same (HGR.out.block b (VM.out.lt b VM.out.ob) (by simp))
  refine wpAnyH_ready (rs := [15]) (by kernel_rfl) (by simp) ?_
  refine AllReadyH.cons rfl (fun K hK => ?_) AllReadyH.nil
  refine step_updV (.tmp 32) (.tmp 34) (.tmp 43) 103 rfl rfl 3 102 keyedI Try.underlying103 (.slice none 0 0) b nb f rfl hbN.out (by have := HV.out.le; have := HV.out.sm; simp only [maxLen]; omega) (.int .i64 l.au) _ (.int .i64 l.au) rfl rfl (keyI _ ⟨by have := hau.out; omega, by have := hau.out; omega⟩) ?_
  intro F hmap hgr2
  have HMAP := Lib.hid hmap
  have HGR2 := Lib.hid hgr2
  have hbG : Hid (b ≠ G ∧ b ≠ KB) := ⟨fun e => by have h1 := HK.out.lt b HV.out.ob; have h2 := hwG.out; omega, fun e => by have h1 := HK.out.lt b HV.out.ob; have h2 := hwG.out; have h3 := hGK.out; omega⟩
  have hNs := PN.out.size
  have SF : F.rangeAt G 0 [.int .i64 l.au, .int .i64 l.sq, .int .i64 l.ep, .slice A n c, .slice B 32 d] ∧ F.rangeAt gb 0 [.map (some b)] ∧ F.rangeAt KB 0 (knC (knL hs l)) := ⟨range_gr SN.1 hgr2 (Nat.lt_of_lt_of_le hGQ.out hNs) (by intro e; injection e with e; exact hbG.out.1 e), range_gr SN.2.1 hgr2 (Nat.lt_of_lt_of_le hgQ.out hNs) (by intro e; injection e with e; exact hgb.out e.symm), range_gr SN.2.2 hgr2 (Nat.lt_of_lt_of_le hKQ.out hNs) (by intro e; injection e with e; exact hbG.out.2 e)⟩
  clear hmap hgr2
  refine hK.out _ _ SF ?_
  intro hS
  clear hK K hS
  try simp only [Act.put, List.getElem_toArray, List.getElem_cons_zero, List.getElem_cons_succ, List.setIfInBounds_toArray, List.set_cons_zero, List.set_cons_succ]
  refine wpAnyH_done (by kernel_rfl) (NoPanic.normal ?_) _
  go_wp2_with fail
  go_returns
  have hbo : Hid (b ∈ ob) := HV.out.ob
  have hboi : Hid (b ∉ oi') := fun hm => by rcases FQ.out.sub b hm with h1 | h1; exact HDJ.out b h1 hbo.out; have h2 := HK.out.lt b hbo.out; omega
  have hoi' : Hid (∀ k, k ∈ oi' → k < Q.heap.size) := note_lt IQ.out
  have hLe := hL.out
  subst hLe
  refine ⟨rfl, oi', ?_, ?_, ?_, FQ.out.sub⟩
  · exact (IQ.out.below PN.out).keep (Fr.one HGR2.out) (fun k hk => by simp at hk; rw [hk]; exact List.mem_cons_of_mem _ (HO2.out b hbo.out)) (fun k hk => by simp at hk; rw [hk]; exact hboi.out) (fun k hk => Or.inl (List.mem_cons_of_mem _ hk))
  · refine ⟨b, nb + 1, _, VM.out.put hau.out hkok.out HS.out HOWN.out HGR.out HMAP.out HGR2.out hgb.out (fun k hk => ?_)⟩
    have hQM := PA.out.size
    rcases List.mem_append.1 hk with h1 | h1
    · exact Nat.lt_of_lt_of_le (HRb.out k h1) (Nat.le_trans FQ.out.size hQM)
    · exact Nat.lt_of_lt_of_le (hoi'.out k h1) hQM
  · refine ⟨HGR2.out.os.trans (PN.out.os.trans FQ.out.os), HGR2.out.tape.trans (PN.out.tape.trans FQ.out.tape), HGR2.out.output.trans (PN.out.output.trans FQ.out.output), Nat.le_trans FQ.out.size (Nat.le_trans PN.out.size HGR2.out.size), fun k hk hn => ?_, fun k hk => ?_⟩
    · have h1 : k < Q.heap.size := Nat.lt_of_lt_of_le hk FQ.out.size
      have h2 : k ≠ b := fun e => hn (List.mem_append.2 (Or.inl (by rw [e]; exact hbo.out)))
      exact (HGR2.out.block k (Nat.lt_of_lt_of_le h1 PN.out.size) (fun e => h2 (by injection e))).trans ((PN.out.block k h1).trans (FQ.out.block k hk (fun hm => hn (List.mem_append.2 (Or.inr hm)))))
    · rcases List.mem_append.1 hk with h1 | h1
      · exact Or.inl (List.mem_append.2 (Or.inl h1))
      · exact (FQ.out.sub k h1).imp (fun h2 => List.mem_append.2 (Or.inr h2)) id
set_option maxHeartbeats 1000000 in
theorem take_ (gb : Nat) (S : Bk) (ob Rb : List Nat) (gi : Nat) (hs : List (List UInt8)) (oi Ri : List Nat) (l : Ln) (A : Option Addr) (n c : Nat) (B : Option Addr) (m d : Nat) (w : World) (hK : BookAt w gb S ob Rb) (hI : IdealAt w gi hs oi Ri)
    (hp : RdN oi w 1 A n (l.pv.map B8)) (hq : RdN oi w 1 B m (l.bd.map B8)) (ho : ∀ k, k ∈ oi → k ∈ Rb) (ho2 : ∀ k, k ∈ ob → k ∈ Ri) (hdj : ∀ k, k ∈ oi → k ∉ ob) (hn : hs.length ≤ 1000000) (hS : S.length < 1048576) (hRi : ∀ k, k ∈ Ri → k < w.heap.size) (hRb : ∀ k, k ∈ Rb → k < w.heap.size) :
    Calls Try.prog 21 #[.pointer (some ⟨gb, 0, none⟩), .iface 27 (.pointer (some ⟨gi, 0, none⟩)), lnV l A n c B m d] w fun e w' => ∃ oi', e = .returned (.int .i64 (checkE S hs l)) ∧ IdealAt w' gi (takeH S hs l) oi' Ri ∧ BookAt w' gb (takeS S hs l) ob (Rb ++ oi') ∧ Fr (ob ++ oi) w w' (ob ++ oi') ∧ (∀ k, k ∈ oi' → k ∈ oi ∨ w.heap.size ≤ k) := by
  obtain ⟨Y, hY⟩ : ∃ Y, Hid (Y = w.alloc (.cells #[.int .i64 l.au, .int .i64 l.sq, .int .i64 l.ep, .slice A n c, .slice B m d] 40)) := ⟨_, Lib.hid rfl⟩
  have BY : Hid (Below w.heap.size w Y) := by rw [hY.out]; exact (Below.refl _ _).alloc (Nat.le_refl _) _
  obtain ⟨G, hG⟩ : ∃ g, Hid (g = w.heap.size) := ⟨_, Lib.hid rfl⟩
  have RY : Hid (Y.rangeAt G 0 [.int .i64 l.au, .int .i64 l.sq, .int .i64 l.ep, .slice A n c, .slice B m d]) := by rw [hY.out, hG.out]; exact rangeNew w _ _
  have hGY : Hid (G < Y.heap.size) := by unfold Hid; rw [hG.out, hY.out, szAlloc]; exact Nat.lt_succ_self _
  have hGo : Hid (∀ k, k ∈ oi → k < G) := by unfold Hid; rw [hG.out]; exact note_lt hI
  have HK := Lib.hid hK
  have HI := Lib.hid hI
  have HP := Lib.hid hp
  have HQ := Lib.hid hq
  have HO := Lib.hid ho
  have HO2 := Lib.hid ho2
  have HDJ := Lib.hid hdj
  have HRi := Lib.hid hRi
  have HRb := Lib.hid hRb
  have HN := Lib.hid hn
  have HS := Lib.hid hS
  clear hK hI hp hq ho ho2 hdj hRi hRb hn hS
  go_enter Try.func21, Try.ntmps21
  unfold lnV
  go_wp2_with fail
  rw [← hY.out, ← hG.out]
  refine (check_ gb S ob Rb gi hs oi Ri l A n c B m d Y (HK.out.below BY.out) (HI.out.below BY.out) (HP.out.1.to BY.out) (HQ.out.1.to BY.out) HO.out HN.out (fun k hk => Nat.lt_of_lt_of_le (HRi.out k hk) BY.out.size)).mono ?_
  rintro e u ⟨o1, rfl, i1, f1⟩
  obtain ⟨E, hE⟩ : ∃ E, Hid (E = checkE S hs l) := ⟨_, Lib.hid rfl⟩
  rw [← hE.out]
  have I1 := Lib.hid i1
  have F1 : Hid (Fr oi w u o1) := (Fr.below BY.out).trans f1
  have RU := range_fr RY.out f1 hGY.out (fun hm => Nat.lt_irrefl _ (hGo.out G hm))
  clear i1 f1
  have hE0 : Hid (checkE S hs l = E) := hE.out.symm
  by_cases h0 : E = 0
  · have hT : Hid (takeH S hs l = note hs (bytesL l) ∧ takeS S hs l = S ++ [(l.au, knL hs l)]) := by
      have := hE.out; rw [h0] at this
      exact ⟨if_pos this.symm, if_pos this.symm⟩
    have hr : rightL l := checkE_right (hs := hs) (S := S) (by rw [← hE.out, h0])
    have hHS : Hid (checkH S hs l = hs) := by
      by_cases hle : l.sq ≤ ((ofA S l.au).length : Int)
      · exfalso
        have h1 := hE.out
        rw [h0, checkE_old hr hle (List.getElem?_eq_getElem (i := (l.sq - 1).toNat) (by have := hr.1.2.2.1; omega))] at h1
        split at h1 <;> omega
      · exact checkH_new (fun h => hle h.2)
    rw [hHS.out] at I1
    have c0 := RU 0 _ rfl
    have c1 := RU 1 _ rfl
    have c2 := RU 2 _ rfl
    have c3 := RU 3 _ rfl
    have c4 := RU 4 _ rfl
    have hr' := Lib.hid hr
    clear hr
    have K1 : Hid (BookAt u gb S ob (Rb ++ o1)) := HK.out.keep F1.out HO.out HDJ.out (fun k hk => by
      rcases List.mem_append.1 hk with h1 | h1
      · exact Or.inl h1
      · exact (F1.out.sub k h1).imp (HO.out k) id)
    have P1 : Hid (RdN o1 u 1 A n (l.pv.map B8)) := (HP.out.go F1.out (fun k hk => hk)).1 |> fun h => ⟨h, fun b o h0 e hm => by
      rcases F1.out.sub b hm with h1 | h1
      · exact HP.out.2 b o h0 e h1
      · obtain ⟨b', o', e', hb', _⟩ := HP.out.1.2 h0
        rw [e] at e'; injection e' with e'; injection e' with e1; omega⟩
    have Q1 : Hid (RdN o1 u 1 B m (l.bd.map B8)) := (HQ.out.go F1.out (fun k hk => hk)).1 |> fun h => ⟨h, fun b o h0 e hm => by
      rcases F1.out.sub b hm with h1 | h1
      · exact HQ.out.2 b o h0 e h1
      · obtain ⟨b', o', e', hb', _⟩ := HQ.out.1.2 h0
        rw [e] at e'; injection e' with e'; injection e' with e1; omega⟩
    have hdj1 : Hid (∀ k, k ∈ o1 → k ∉ ob) := fun k hk hm => by
      rcases F1.out.sub k hk with h1 | h1
      · exact HDJ.out k h1 hm
      · exact absurd (HK.out.lt k hm) (by omega)
    have hRi1 : Hid (∀ k, k ∈ Ri → k < u.heap.size) := fun k hk => Nat.lt_of_lt_of_le (HRi.out k hk) F1.out.size
    have hRb1 : Hid (∀ k, k ∈ Rb ++ o1 → k < u.heap.size) := fun k hk => by
      rcases List.mem_append.1 hk with h1 | h1
      · exact Nat.lt_of_lt_of_le (HRb.out k h1) F1.out.size
      · exact note_lt I1.out k h1
    clear hE RU
    subst h0
    go_wp2_with fail
    refine (put_ gb S ob (Rb ++ o1) gi hs o1 Ri l A n c B m d u K1.out I1.out P1.out Q1.out (fun k hk => List.mem_append.2 (Or.inr hk)) HO2.out hdj1.out HN.out HS.out hRi1.out hRb1.out hr'.out).mono ?_
    rintro e v ⟨o2, rfl, i2, k2, f2, s2⟩
    have I2 := Lib.hid i2
    have K2 := Lib.hid k2
    have F2 := Lib.hid f2
    have S2 := Lib.hid s2
    clear i2 k2 f2 s2 c0 c1 c2 c3 c4
    go_wp2_with fail
    go_ret
    refine ⟨o2, by rw [hE0.out]; rfl, by rw [hT.out.1]; exact I2.out, ?_, ?_, fun k hk => by
      rcases S2.out k hk with h1 | h1
      · exact F1.out.sub k h1
      · exact Or.inr (Nat.le_trans F1.out.size h1)⟩
    · rw [hT.out.2]
      refine K2.out.keep (own2 := []) (own2' := []) (Fr.below (Below.refl _ _)) (fun _ h => absurd h (by simp)) (fun _ h => absurd h (by simp)) (fun k hk => Or.inl ?_)
      rcases List.mem_append.1 hk with h1 | h1
      · exact List.mem_append.2 (Or.inl (List.mem_append.2 (Or.inl h1)))
      · exact List.mem_append.2 (Or.inr h1)
    · refine (Fr.trans (own' := ob ++ o1) ⟨F1.out.os, F1.out.tape, F1.out.output, F1.out.size, fun k hk hn => F1.out.block k hk (fun hm => hn (List.mem_append.2 (Or.inr hm))), fun k hk => ?_⟩ F2.out)
      rcases List.mem_append.1 hk with h1 | h1
      · exact Or.inl (List.mem_append.2 (Or.inl h1))
      · exact (F1.out.sub k h1).imp (fun h2 => List.mem_append.2 (Or.inr h2)) id
  · have hT : Hid (takeH S hs l = checkH S hs l ∧ takeS S hs l = S) := by
      have := hE.out
      exact ⟨if_neg (by rw [← this]; exact h0), if_neg (by rw [← this]; exact h0)⟩
    have h0' : (E != 0) = true := by simp [h0]
    clear RU
    go_wp2_with fail
    go_ret
    refine ⟨o1, by rw [hE0.out]; rfl, by rw [hT.out.1]; exact I1.out, ?_, ?_, F1.out.sub⟩
    · rw [hT.out.2]
      exact HK.out.keep F1.out HO.out HDJ.out (fun k hk => by
        rcases List.mem_append.1 hk with h1 | h1
        · exact Or.inl h1
        · exact (F1.out.sub k h1).imp (HO.out k) id)
    · refine ⟨F1.out.os, F1.out.tape, F1.out.output, F1.out.size, fun k hk hn => F1.out.block k hk (fun hm => hn (List.mem_append.2 (Or.inr hm))), fun k hk => ?_⟩
      rcases List.mem_append.1 hk with h1 | h1
      · exact Or.inl (List.mem_append.2 (Or.inl h1))
      · exact (F1.out.sub k h1).imp (fun h2 => List.mem_append.2 (Or.inr h2)) id
end Go.Proofs.Ytabcbpcfleociaa

/- A book and an ideal suite, side by side; the law's awake. -/
namespace Go.Proofs.Ytabcbpcfleociaa
open Go.RowKit Go.Maps
attribute [local go_sem ↓] Go.wp_at_zero Go.wp_at_succ
set_option linter.unusedSimpArgs false
set_option linter.unusedVariables false
theorem BookAt.anyR {w : World} {g : Nat} {own R : List Nat} (h : BookAt w g [] own R) (R' : List Nat) : BookAt w g [] own R' := by
  obtain ⟨b, n, f, hv⟩ := h
  refine ⟨b, n, f, hv.blk, hv.map, hv.le, hv.sm, fun a => ?_, hv.ok, hv.og, hv.ob, hv.lt⟩
  obtain ⟨A, c, e, hc, hr⟩ := hv.rows a
  exact ⟨A, c, e, hc, hr.1, fun b o h => absurd h (by rw [ofA_nil]; simp)⟩
theorem IdealAt.anyR {w : World} {g : Nat} {own R : List Nat} (h : IdealAt w g [] own R) (R' : List Nat) : IdealAt w g [] own R' := by
  obtain ⟨A, c, b, Qs, f, hv⟩ := h
  exact ⟨A, c, b, Qs, f, hv.blk, hv.map, hv.at_, hv.row, hv.qs, fun i q h hq hh => by simp at hh, hv.og, hv.ob, hv.oA, hv.lt⟩
/-- A book and a suite; X: the blocks that others own. -/
structure PairAt (w : World) (gb gi : Nat) (S : Bk) (hs : List (List UInt8)) (ob oi X : List Nat) : Prop where
  bk : BookAt w gb S ob (oi ++ X)
  id : IdealAt w gi hs oi (ob ++ X)
  dj : ∀ k, k ∈ oi → k ∉ ob
  xl : ∀ k, k ∈ X → k < w.heap.size
  xd : ∀ k, k ∈ X → k ∉ ob ∧ k ∉ oi
theorem PairAt.keep {w w' : World} {gb gi : Nat} {S : Bk} {hs : List (List UInt8)} {ob oi X o2 o2' X' : List Nat} (h : PairAt w gb gi S hs ob oi X) (hf : Fr o2 w w' o2') (h1 : ∀ k, k ∈ o2 → k ∈ X) (h3 : ∀ k, k ∈ X' → k ∈ X ∨ w.heap.size ≤ k) (h4 : ∀ k, k ∈ X' → k < w'.heap.size) : PairAt w' gb gi S hs ob oi X' := by
  refine ⟨h.bk.keep hf (fun k hk => List.mem_append.2 (Or.inr (h1 k hk))) (fun k hk => (h.xd k (h1 k hk)).1) (fun k hk => ?_), h.id.keep hf (fun k hk => List.mem_append.2 (Or.inr (h1 k hk))) (fun k hk => (h.xd k (h1 k hk)).2) (fun k hk => ?_), h.dj, h4, fun k hk => ?_⟩
  · rcases List.mem_append.1 hk with h5 | h5
    · exact Or.inl (List.mem_append.2 (Or.inl h5))
    · exact (h3 k h5).imp (fun h6 => List.mem_append.2 (Or.inr h6)) fun h => h
  · rcases List.mem_append.1 hk with h5 | h5
    · exact Or.inl (List.mem_append.2 (Or.inl h5))
    · exact (h3 k h5).imp (fun h6 => List.mem_append.2 (Or.inr h6)) fun h => h
  · rcases h3 k hk with h5 | h5
    · exact h.xd k h5
    · exact ⟨fun hm => absurd (h.bk.lt k hm) (by omega), fun hm => absurd (note_lt h.id k hm) (by omega)⟩
theorem PairAt.below {w w' : World} {gb gi : Nat} {S : Bk} {hs : List (List UInt8)} {ob oi X : List Nat} (h : PairAt w gb gi S hs ob oi X) (hb : Below w.heap.size w w') : PairAt w' gb gi S hs ob oi X :=
  h.keep (o2 := []) (o2' := []) (Fr.below hb) (fun _ h => absurd h (by simp)) (fun k hk => Or.inl hk) (fun k hk => Nat.lt_of_lt_of_le (h.xl k hk) hb.size)
theorem PairAt.check {w : World} {gb gi : Nat} {S : Bk} {hs : List (List UInt8)} {ob oi X : List Nat} (h : PairAt w gb gi S hs ob oi X) (l : Ln) (A : Option Addr) (n c : Nat) (B : Option Addr) (m d : Nat)
    (hp : Rd w w.heap.size 1 A n (l.pv.map B8)) (hq : Rd w w.heap.size 1 B m (l.bd.map B8)) (hn : hs.length ≤ 1000000) :
    Calls Try.prog 20 #[.pointer (some ⟨gb, 0, none⟩), .iface 27 (.pointer (some ⟨gi, 0, none⟩)), lnV l A n c B m d] w fun e w' => ∃ oi', e = .returned (.int .i64 (checkE S hs l)) ∧ PairAt w' gb gi S (checkH S hs l) ob oi' X ∧ Fr oi w w' oi' := by
  refine (check_ gb S ob (oi ++ X) gi hs oi (ob ++ X) l A n c B m d w h.bk h.id hp hq (fun k hk => List.mem_append.2 (Or.inl hk)) hn (fun k hk => ?_)).mono ?_
  · rcases List.mem_append.1 hk with h1 | h1
    · exact h.bk.lt k h1
    · exact h.xl k h1
  · rintro e w' ⟨oi', rfl, hi, hf⟩
    refine ⟨oi', rfl, ⟨h.bk.keep hf (fun k hk => List.mem_append.2 (Or.inl hk)) h.dj (fun k hk => ?_), hi, fun k hk hm => ?_, fun k hk => Nat.lt_of_lt_of_le (h.xl k hk) hf.size, fun k hk => ⟨(h.xd k hk).1, fun hm => ?_⟩⟩, hf⟩
    · rcases List.mem_append.1 hk with h1 | h1
      · exact (hf.sub k h1).imp (fun h2 => List.mem_append.2 (Or.inl h2)) fun h => h
      · exact Or.inl (List.mem_append.2 (Or.inr h1))
    · rcases hf.sub k hk with h1 | h1
      · exact h.dj k h1 hm
      · exact absurd (h.bk.lt k hm) (by omega)
    · rcases hf.sub k hm with h1 | h1
      · exact (h.xd k hk).2 h1
      · exact absurd (h.xl k hk) (by omega)
theorem PairAt.take {w : World} {gb gi : Nat} {S : Bk} {hs : List (List UInt8)} {ob oi X : List Nat} (h : PairAt w gb gi S hs ob oi X) (l : Ln) (A : Option Addr) (n c : Nat) (B : Option Addr) (m d : Nat)
    (hp : RdN oi w 1 A n (l.pv.map B8)) (hq : RdN oi w 1 B m (l.bd.map B8)) (hn : hs.length ≤ 1000000) (hS : S.length < 1048576) :
    Calls Try.prog 21 #[.pointer (some ⟨gb, 0, none⟩), .iface 27 (.pointer (some ⟨gi, 0, none⟩)), lnV l A n c B m d] w fun e w' => ∃ oi', e = .returned (.int .i64 (checkE S hs l)) ∧ PairAt w' gb gi (takeS S hs l) (takeH S hs l) ob oi' X ∧ Fr (ob ++ oi) w w' (ob ++ oi') := by
  refine (take_ gb S ob (oi ++ X) gi hs oi (ob ++ X) l A n c B m d w h.bk h.id hp hq (fun k hk => List.mem_append.2 (Or.inl hk)) (fun k hk => List.mem_append.2 (Or.inl hk)) h.dj hn hS (fun k hk => ?_) (fun k hk => ?_)).mono ?_
  · rcases List.mem_append.1 hk with h1 | h1
    · exact h.bk.lt k h1
    · exact h.xl k h1
  · rcases List.mem_append.1 hk with h1 | h1
    · exact note_lt h.id k h1
    · exact h.xl k h1
  · rintro e w' ⟨oi', rfl, hi, hb, hf, hs'⟩
    refine ⟨oi', rfl, ⟨hb.keep (own2 := []) (own2' := []) (Fr.below (Below.refl _ _)) (fun _ h => absurd h (by simp)) (fun _ h => absurd h (by simp)) (fun k hk => ?_), hi, fun k hk hm => ?_, fun k hk => Nat.lt_of_lt_of_le (h.xl k hk) hf.size, fun k hk => ⟨(h.xd k hk).1, fun hm => ?_⟩⟩, hf⟩
    · rcases List.mem_append.1 hk with h1 | h1
      · exact Or.inl (List.mem_append.2 (Or.inr h1))
      · exact Or.inl (List.mem_append.2 (Or.inl (List.mem_append.2 (Or.inr h1))))
    · rcases hs' k hk with h1 | h1
      · exact h.dj k h1 hm
      · exact absurd (h.bk.lt k hm) (by omega)
    · rcases hs' k hm with h1 | h1
      · exact (h.xd k hk).2 h1
      · exact absurd (h.xl k hk) (by omega)
theorem PairAt.begun {w w1 w2 : World} {gb gi : Nat} {ob oi X : List Nat} (hb : BookAt w1 gb [] ob []) (h1 : Below w.heap.size w w1) (hbn : ∀ k, k ∈ ob → w.heap.size ≤ k) (hi : IdealAt w2 gi [] oi []) (h2 : Below w1.heap.size w1 w2) (hin : ∀ k, k ∈ oi → w1.heap.size ≤ k) (hX : ∀ k, k ∈ X → k < w.heap.size) : PairAt w2 gb gi [] [] ob oi X :=
  ⟨(hb.below h2).anyR _, hi.anyR _, fun k hk hm => absurd (hb.lt k hm) (by have := hin k hk; omega), fun k hk => Nat.lt_of_lt_of_le (hX k hk) (Nat.le_trans h1.size h2.size), fun k hk => ⟨fun hm => absurd (hX k hk) (by have := hbn k hm; omega), fun hm => absurd (hX k hk) (by have := hin k hm; have := h1.size; omega)⟩⟩
theorem PairAt.begun' {w w1 w2 : World} {gb gi : Nat} {ob oi X : List Nat} (hi : IdealAt w1 gi [] oi []) (h1 : Below w.heap.size w w1) (hin : ∀ k, k ∈ oi → w.heap.size ≤ k) (hb : BookAt w2 gb [] ob []) (h2 : Below w1.heap.size w1 w2) (hbn : ∀ k, k ∈ ob → w1.heap.size ≤ k) (hX : ∀ k, k ∈ X → k < w.heap.size) : PairAt w2 gb gi [] [] ob oi X :=
  ⟨hb.anyR _, (hi.below h2).anyR _, fun k hk hm => absurd (note_lt hi k hk) (by have := hbn k hm; omega), fun k hk => Nat.lt_of_lt_of_le (hX k hk) (Nat.le_trans h1.size h2.size), fun k hk => ⟨fun hm => absurd (hX k hk) (by have := hbn k hm; have := h1.size; omega), fun hm => absurd (hX k hk) (by have := hin k hm; omega)⟩⟩
/-- The body of a link of the laws. -/
def body8 (b : UInt8) : List UInt8 := List.replicate 31 0 ++ [b]
theorem body8_len (b : UInt8) : (body8 b).length = 32 := rfl
theorem cells_zero31 : (madeCells (Value.int .u8 0).cells (31 * 1)).toList = (List.replicate 31 (0 : UInt8)).map B8 := by
  show (madeCells #[Value.int .u8 0] (31 * 1)).toList = _
  rw [Nat.mul_one, toList_madeCells_one]
  simp only [List.map_replicate]
  rfl
set_option maxRecDepth 4000 in
set_option maxHeartbeats 1000000 in
theorem body_ (b : UInt8) (x : Int) (hx : x = b.toNat) (w : World) : Calls Try.prog 53 #[.int .u8 x] w fun e w' => ∃ A c, e = .returned (.slice A 32 c) ∧ OwnS w' w.heap.size A 32 c ((body8 b).map B8) ∧ Below w.heap.size w w' := by
  subst hx
  obtain ⟨i, hi, hz, hsize, hby⟩ := info_parts info8
  go_enter Try.func53, Try.ntmps53
  go_wp2_with (first
    | (at_make
       refine wpList_make_full _ rfl (.const (.int .i64 31)) (.const (.int .i64 31)) 38 rfl w.heap.size 5 i (.int .u8 0) 1 Try.underlying38 hi hz hsize _ _ _ _ 31 rfl rfl rfl rfl (by rw [hby]; omega) (by simp only [maxLen]; omega) (Nat.le_refl _) ?_
       intro w1 h1 hg1
       have B1 : Hid (Below w.heap.size w w1) := (Below.refl _ _).grown hg1 (Nat.le_refl _) (fun k hk => by cases hk)
       have O1 : Hid (w1.ownsRow w.heap.size 5 1 (.slice (some ⟨w.heap.size, 0, none⟩) 31 31) 31 ((List.replicate 31 (0 : UInt8)).map B8)) := by rw [← cells_zero31]; exact h1
       clear h1)
    | (at_builtin
       have hlit := Lib.hid (one_lit w1 b)
       have OA := Lib.hid (own_below O1.out ((Below.refl w1.heap.size w1).alloc (Nat.le_refl _) (.cells #[.int .u8 (b.toNat : Int)] 5)))
       have BA := Lib.hid (B1.out.alloc B1.out.size (.cells #[.int .u8 (b.toNat : Int)] 5))
       refine wpList_app rfl (.tmp 3) (.tmp 5) 38 rfl w.heap.size 5 1 1 (.int .u8 0) Try.underlying38 infoB rfl (by decide) _ 31 _ rfl OA.out _ (some ⟨w1.heap.size, 0, none⟩) 1 1 (([b] : List UInt8).map B8) rfl hlit.out (oneB [b]) (by simp only [maxLen]; omega) (by omega) BA.out.size ?_
       intro A2 c2 w2 h2 hg2 _
       have O2 : Hid (OwnS w2 w.heap.size A2 32 c2 ((body8 b).map B8)) := by
         rw [← List.map_append] at h2
         exact OwnS.of_own h2
       have B2 := Lib.hid (BA.out.trans (below_grown hg2 (own_block_ge OA.out) BA.out.size))
       clear h2 hg2))
  go_ret
  exact ⟨A2, c2, rfl, O2.out, B2.out⟩
end Go.Proofs.Ytabcbpcfleociaa

/- The laws' awake: what is fixed of a first link. (Printed by gen_chk.py.) -/
namespace Go.Proofs.Ytabcbpcfleociaa
open Go.RowKit Go.Maps
attribute [local go_sem ↓] Go.wp_at_zero Go.wp_at_succ
set_option linter.unusedSimpArgs false
set_option linter.unusedVariables false
theorem field_sq (a : Value) (x : Int) (c : Value) (w : World) : (Instr.field 45 (.agg #[a, .int .i64 x, c]) 1).run Try.prog w = .ok (.int .i64 x) w := by kernel_rfl
def aw1 : Ln := ⟨0, 1, 1, [], body8 1⟩
def aw2 : Ln := ⟨0, 1, 1, [], body8 2⟩
def awS : Bk := takeS [] [] aw1
def awH : List (List UInt8) := takeH [] [] aw1
theorem aw_0 : checkE [] [] aw1 = 0 := by decide +kernel
theorem aw_16 : checkE awS awH aw1 = 16 := by decide +kernel
theorem aw_S : takeS awS awH aw1 = awS := by unfold takeS; rw [aw_16]; rfl
theorem aw_H : takeH awS awH aw1 = awH := by decide +kernel
theorem aw_18 : checkE awS awH aw2 = 18 := by decide +kernel
theorem aw_1 : (ofA awS 0).length = 1 := by decide +kernel
theorem OwnS.rdNo {w : World} {base n c : Nat} {A : Option Addr} {xs : List Value} (h : OwnS w base A n c xs) {no : List Nat} (hno : ∀ k, k ∈ no → k < base) : RdN no w 1 A n xs := by
  refine ⟨h.rd, fun b o h0 e hm => ?_⟩
  obtain ⟨b', o', e', hb', _⟩ := h.mem (by have := h.le; omega)
  rw [e] at e'
  injection e' with e'
  injection e' with e1
  have := hno b hm
  omega
theorem RdN.nil (no : List Nat) (w : World) (A : Option Addr) : RdN no w 1 A 0 [] := ⟨Rd.nil _ _ _ _, fun b o h => absurd h (by omega)⟩
theorem RdN.fr {no own own' no' : List Nat} {w w' : World} {size n : Nat} {A : Option Addr} {xs : List Value} (h : RdN no w size A n xs) (hf : Fr own w w' own') (hs : ∀ k, k ∈ own → k ∈ no) (h2 : ∀ k, k ∈ no' → k ∈ no ∨ w.heap.size ≤ k) : RdN no' w' size A n xs := by
  refine ⟨(h.go hf hs).1, fun b o h0 e hm => ?_⟩
  rcases h2 b hm with h3 | h3
  · exact h.2 b o h0 e h3
  · obtain ⟨b', o', e', hb', _⟩ := h.1.2 h0
    rw [e] at e'
    injection e' with e'
    injection e' with e1
    omega
set_option maxRecDepth 4000 in
set_option maxHeartbeats 2000000 in
theorem awake_ (w : World) : Calls Try.prog 15 #[] w fun e w' => e = .returned (.bool true) ∧ Below w.heap.size w w' := by
  go_enter Try.func15, Try.ntmps15
  go_wp2_with fail
  refine (newIdeal_ w).mono ?_
  rintro e u1 ⟨gi, oi, rfl, i1, hin, b1⟩
  have I1 := Lib.hid i1
  have HIN := Lib.hid hin
  have B1 := Lib.hid b1
  clear i1 hin b1
  go_wp2_with fail
  refine (new_ u1).mono ?_
  rintro e u2 ⟨gb, ob, rfl, k2, hbn, b2⟩
  have P2 : Hid (PairAt u2 gb gi [] [] ob oi []) := PairAt.begun' I1.out B1.out HIN.out k2 b2 hbn (fun k hk => by simp at hk)
  have B2 := Lib.hid (B1.out.trans (b2.mono B1.out.size))
  have hob : Hid (∀ k, k ∈ ob ++ oi → w.heap.size ≤ k) := fun k hk => by
    rcases List.mem_append.1 hk with h1 | h1
    · exact Nat.le_trans B1.out.size (hbn k h1)
    · exact HIN.out k h1
  have hot : Hid (∀ k, k ∈ ob ++ oi → k < u2.heap.size) := fun k hk => by
    rcases List.mem_append.1 hk with h1 | h1
    · exact P2.out.bk.lt k h1
    · exact note_lt P2.out.id k h1
  clear k2 hbn b2 I1 HIN
  go_wp2_with fail
  refine (body_ 1 1 rfl u2).mono ?_
  rintro e u3 ⟨A1, c1, rfl, o3, b3⟩
  have O3 := Lib.hid o3
  have B3 := Lib.hid b3
  clear o3 b3
  go_wp2_with fail
  obtain ⟨U, hU⟩ : ∃ U, Hid (U = u3.alloc (.cells #[.int .i64 0, .int .i64 1, .int .i64 1, .slice none 0 0, .slice A1 32 c1] 40)) := ⟨_, Lib.hid rfl⟩
  obtain ⟨G1, hG1⟩ : ∃ g, Hid (g = u3.heap.size) := ⟨_, Lib.hid rfl⟩
  rw [← hU.out, ← hG1.out]
  have BU : Hid (Below u2.heap.size u2 U) := by rw [hU.out]; exact B3.out.alloc B3.out.size _
  have RU : Hid (U.rangeAt G1 0 [.int .i64 0, .int .i64 1, .int .i64 1, .slice none 0 0, .slice A1 32 c1]) := by rw [hU.out, hG1.out]; exact rangeNew u3 _ _
  have hG1U : Hid (G1 < U.heap.size) := by unfold Hid; rw [hG1.out, hU.out, szAlloc]; exact Nat.lt_succ_self _
  have hG1o : Hid (∀ k, k ∈ ob ++ oi → k < G1) := fun k hk => by rw [hG1.out]; exact Nat.lt_of_lt_of_le (hot.out k hk) B3.out.size
  have OU : Hid (OwnS U u2.heap.size A1 32 c1 ((body8 1).map B8)) := by rw [hU.out]; exact O3.out.to ((Below.refl _ _).alloc (Nat.le_refl _) _)
  refine (body_ 2 2 rfl U).mono ?_
  rintro e u4 ⟨A2, c2, rfl, o4, b4⟩
  have O4 := Lib.hid o4
  have B4 := Lib.hid b4
  have R4 := Lib.hid (range_keep RU.out b4 hG1U.out)
  have hG14 : Hid (G1 < u4.heap.size) := Nat.lt_of_lt_of_le hG1U.out b4.size
  have f0 : ∀ o, (u4.alloc o).cell? ⟨G1, 0, none⟩ = some (.int .i64 0) := fun o => (World.cell?_alloc_lt u4 o _ hG14.out).trans (R4.out 0 _ rfl)
  have f1 : ∀ o, (u4.alloc o).cell? ⟨G1, 1, none⟩ = some (.int .i64 1) := fun o => (World.cell?_alloc_lt u4 o _ hG14.out).trans (R4.out 1 _ rfl)
  have f2 : ∀ o, (u4.alloc o).cell? ⟨G1, 2, none⟩ = some (.int .i64 1) := fun o => (World.cell?_alloc_lt u4 o _ hG14.out).trans (R4.out 2 _ rfl)
  have f3 : ∀ o, (u4.alloc o).cell? ⟨G1, 3, none⟩ = some (.slice none 0 0) := fun o => (World.cell?_alloc_lt u4 o _ hG14.out).trans (R4.out 3 _ rfl)
  have f4 : ∀ o, (u4.alloc o).cell? ⟨G1, 4, none⟩ = some (.slice A1 32 c1) := fun o => (World.cell?_alloc_lt u4 o _ hG14.out).trans (R4.out 4 _ rfl)
  clear o4 b4
  go_wp2_with fail
  clear f0 f1 f2 f3 f4
  obtain ⟨V, hV⟩ : ∃ U, Hid (U = u4.alloc (.cells #[.int .i64 0, .int .i64 1, .int .i64 1, .slice none 0 0, .slice A2 32 c2] 40)) := ⟨_, Lib.hid rfl⟩
  obtain ⟨G2, hG2⟩ : ∃ g, Hid (g = u4.heap.size) := ⟨_, Lib.hid rfl⟩
  rw [← hV.out, ← hG2.out]
  have BV : Hid (Below u2.heap.size u2 V) := by rw [hV.out]; exact (BU.out.trans (B4.out.mono BU.out.size)).alloc (Nat.le_trans BU.out.size B4.out.size) _
  have RV1 : Hid (V.rangeAt G1 0 [.int .i64 0, .int .i64 1, .int .i64 1, .slice none 0 0, .slice A1 32 c1]) := by rw [hV.out]; exact fun j v hj => (World.cell?_alloc_lt u4 _ _ hG14.out).trans (R4.out j v hj)
  have RV2 : Hid (V.rangeAt G2 0 [.int .i64 0, .int .i64 1, .int .i64 1, .slice none 0 0, .slice A2 32 c2]) := by rw [hV.out, hG2.out]; exact rangeNew u4 _ _
  have hG1V : Hid (G1 < V.heap.size) := by unfold Hid; rw [hV.out, szAlloc]; exact Nat.lt_succ_of_lt hG14.out
  have hG2V : Hid (G2 < V.heap.size) := by unfold Hid; rw [hG2.out, hV.out, szAlloc]; exact Nat.lt_succ_self _
  have hG2o : Hid (∀ k, k ∈ ob ++ oi → k < G2) := fun k hk => by rw [hG2.out]; exact Nat.lt_of_lt_of_le (hot.out k hk) (Nat.le_trans BU.out.size B4.out.size)
  have hbel : Below u4.heap.size u4 V := by rw [hV.out]; exact (Below.refl _ _).alloc (Nat.le_refl _) _
  have N1 : Hid (RdN (ob ++ oi) V 1 A1 32 ((body8 1).map B8)) := ((OU.out.to B4.out).to hbel).rdNo hot.out
  have N2 : Hid (RdN (ob ++ oi) V 1 A2 32 ((body8 2).map B8)) := (O4.out.to hbel).rdNo (fun k hk => Nat.lt_of_lt_of_le (hot.out k hk) BU.out.size)
  have PV := Lib.hid (P2.out.below BV.out)
  have BVw := Lib.hid (B2.out.trans (BV.out.mono B2.out.size))
  clear hbel hU RU OU O3 O4 R4
  refine (PV.out.take aw1 none 0 0 A1 32 c1 (RdN.nil _ _ _) (N1.out.less (fun k hk => Or.inl (List.mem_append.2 (Or.inr hk)))) (by decide) (by decide)).mono ?_
  rintro e x ⟨o1, rfl, px, fx⟩
  rw [show takeS [] [] aw1 = awS from rfl, show takeH [] [] aw1 = awH from rfl] at px
  rw [aw_0]
  have PX := Lib.hid px
  have FX := Lib.hid fx
  have hxs := fx.size
  have RX1 := range_fr RV1.out fx hG1V.out (fun hm => Nat.lt_irrefl _ (hG1o.out G1 hm))
  have RX2 := range_fr RV2.out fx hG2V.out (fun hm => Nat.lt_irrefl _ (hG2o.out G2 hm))
  have e0 : x.cell? ⟨G1, 0, none⟩ = some (.int .i64 0) := RX1 0 _ rfl
  have e1 : x.cell? ⟨G1, 1, none⟩ = some (.int .i64 1) := RX1 1 _ rfl
  have e2 : x.cell? ⟨G1, 2, none⟩ = some (.int .i64 1) := RX1 2 _ rfl
  have e3 : x.cell? ⟨G1, 3, none⟩ = some (.slice none 0 0) := RX1 3 _ rfl
  have e4 : x.cell? ⟨G1, 4, none⟩ = some (.slice A1 32 c1) := RX1 4 _ rfl
  have NX1 : Hid (RdN (ob ++ o1) x 1 A1 32 ((body8 1).map B8)) := N1.out.fr fx (fun k hk => hk) fx.sub
  have NX2 : Hid (RdN (ob ++ o1) x 1 A2 32 ((body8 2).map B8)) := N2.out.fr fx (fun k hk => hk) fx.sub
  have hG1x : Hid (G1 ∉ ob ++ o1) := fun hm => by
    rcases fx.sub G1 hm with h1 | h1
    · exact Nat.lt_irrefl _ (hG1o.out G1 h1)
    · exact absurd h1 (by have := hG1V.out; omega)
  have hG2x : Hid (G2 ∉ ob ++ o1) := fun hm => by
    rcases fx.sub G2 hm with h1 | h1
    · exact Nat.lt_irrefl _ (hG2o.out G2 h1)
    · exact absurd h1 (by have := hG2V.out; omega)
  clear px fx
  go_wp2_with fail
  clear e0 e1 e2 e3 e4
  refine (PX.out.take aw1 none 0 0 A1 32 c1 (RdN.nil _ _ _) (NX1.out.less (fun k hk => Or.inl (List.mem_append.2 (Or.inr hk)))) (by decide +kernel) (by decide +kernel)).mono ?_
  rintro e y ⟨o2, rfl, py, fy⟩
  rw [aw_S, aw_H] at py
  rw [aw_16]
  have PY := Lib.hid py
  have FY := Lib.hid fy
  have RY2 := range_fr RX2 fy (Nat.lt_of_lt_of_le hG2V.out hxs) hG2x.out
  have e0 : y.cell? ⟨G2, 0, none⟩ = some (.int .i64 0) := RY2 0 _ rfl
  have e1 : y.cell? ⟨G2, 1, none⟩ = some (.int .i64 1) := RY2 1 _ rfl
  have e2 : y.cell? ⟨G2, 2, none⟩ = some (.int .i64 1) := RY2 2 _ rfl
  have e3 : y.cell? ⟨G2, 3, none⟩ = some (.slice none 0 0) := RY2 3 _ rfl
  have e4 : y.cell? ⟨G2, 4, none⟩ = some (.slice A2 32 c2) := RY2 4 _ rfl
  have NY2 : Hid (RdN (ob ++ o2) y 1 A2 32 ((body8 2).map B8)) := NX2.out.fr fy (fun k hk => hk) fy.sub
  clear py fy
  go_wp2_with fail
  clear e0 e1 e2 e3 e4
  refine (PY.out.check aw2 none 0 0 A2 32 c2 (Rd.nil _ _ _ _) NY2.out.1 (by decide +kernel)).mono ?_
  rintro e z ⟨o3, rfl, pz, fz⟩
  rw [aw_18]
  have PZ := Lib.hid pz
  have FZ := Lib.hid fz
  clear pz fz
  go_wp2_with fail
  refine (head_in gb awS ob _ 0 z PZ.out.bk (by decide) (by decide)).mono ?_
  rintro e t ⟨A', m', c', rfl, e1, o1', bt⟩
  rw [aw_1]
  have hfd := field_sq (.int .i64 0) 1 (.slice A' m' c') t
  have BT := Lib.hid bt
  clear e1 o1' bt
  go_wp2_with fail
  go_ret
  refine ⟨rfl, ?_⟩
  have F1 : Fr (ob ++ oi) w V (ob ++ oi) := Fr.below BVw.out
  have F2 := F1.trans (FX.out.trans FY.out)
  have F3 : Fr (ob ++ o2) y z (ob ++ o3) := ⟨FZ.out.os, FZ.out.tape, FZ.out.output, FZ.out.size, fun k hk hn => FZ.out.block k hk (fun hm => hn (List.mem_append.2 (Or.inr hm))), fun k hk => by
    rcases List.mem_append.1 hk with h1 | h1
    · exact Or.inl (List.mem_append.2 (Or.inl h1))
    · exact (FZ.out.sub k h1).imp (fun h2 => List.mem_append.2 (Or.inr h2)) fun h => h⟩
  exact ((F2.trans F3).toBelow hob.out (Nat.le_refl _)).trans (BT.out.mono (F2.trans F3).size)
end Go.Proofs.Ytabcbpcfleociaa

/- A book that is not there; are two heads the same. -/
namespace Go.Proofs.Ytabcbpcfleociaa
open Go.RowKit Go.Maps
attribute [local go_sem ↓] Go.wp_at_zero Go.wp_at_succ
set_option linter.unusedSimpArgs false
set_option linter.unusedVariables false
theorem vector_nil (w : World) : Calls Try.prog 36 #[.pointer none] w fun e w' => e = .returned (.slice none 0 0) ∧ Below w.heap.size w w' := by
  go_enter Try.func36, Try.ntmps36
  go_wp2_with fail
  go_loopw [3, 6] (fun x3 x6 wr => ∃ i : Nat, x3 = .slice none 0 0 ∧ x6 = .int .i64 i ∧ i ≤ 5 ∧ Hid (Below w.heap.size w wr)) (fun _ x6 _ => 5 - (intOf x6).toNat)
  case atStart => exact ⟨0, rfl, rfl, by omega, Below.refl _ _⟩
  case round =>
    obtain ⟨i, rfl, rfl, hi, hb⟩ := hrel
    by_cases h5 : i < 5
    · have h5' : (i : Int) < 5 := by omega
      have e8 : IntKind.i64.wrap ((i : Int) + 1) = ((i + 1 : Nat) : Int) := by rw [IntWalk.i64_in _ (by omega)]; omega
      go_wp2_with fail
      refine (head_off none i wr (Or.inl rfl)).mono ?_
      rintro e w1 ⟨rfl, b1⟩
      have B1 := Lib.hid ((hb.out.trans (b1.mono hb.out.size)).alloc (Nat.le_trans hb.out.size b1.size) (.cells #[.int .i64 0, .int .i64 0, .slice none 0 0] 45))
      clear b1
      go_wp2_with fail
      go_roundw
      case rel => exact ⟨i + 1, rfl, by go_num, h5, B1⟩
      case measure => simp only [intOf]; omega
    · have hiS : Hid (i = 5) := (by omega : i = 5)
      have h5' : ¬ (i : Int) < 5 := by omega
      go_wp2_with fail
      go_ret
      exact ⟨rfl, hb.out⟩
theorem clone_nil (w : World) : Calls Try.prog 22 #[.pointer none] w fun e w' => e = .returned (.pointer none) ∧ w' = w := by
  go_enter Try.func22, Try.ntmps22
  go_wp2_with fail
  go_ret
  exact ⟨rfl, rfl⟩
theorem put_nil (A : Option Addr) (n c : Nat) (l : List UInt8) (w : World) (hr : Rd w w.heap.size 1 A n (l.map B8)) (hn : n ≤ 1000000) : Calls Try.prog 38 #[.pointer none, .slice A n c] w fun e w' => ∃ A' c', e = .returned (.slice A' n c') ∧ OwnS w' w.heap.size A' n c' (l.map B8) ∧ Below w.heap.size w w' := by
  have HR := Lib.hid hr
  go_enter Try.func38, Try.ntmps38
  go_wp2_with (at_builtin
               refine wpList_app rfl (.tmp 10) (.tmp 11) 38 rfl w.heap.size 5 1 1 (.int .u8 0) Try.underlying38 infoB rfl (by decide) (.slice (some ⟨w.heap.size, 0, none⟩) 0 0) 0 [] rfl (World.ownsRow_lit w #[] 0 (Nat.le_refl _) (by simp [maxLen]) rfl) w.heap.size A n c _ rfl (HR.out.alloc (Nat.le_refl _) _) (oneB l) (by simp only [maxLen]; omega) (by omega) (by simp) ?_
               intro A2 c2 w2 h2 hg2 _
               simp only [Nat.zero_add, List.nil_append] at h2
               have O2 := Lib.hid (OwnS.of_own h2)
               have B2 : Hid (Below w.heap.size w w2) := ((Below.refl _ _).alloc (Nat.le_refl _) _).grown hg2 (by simp) (fun k hk => by simp [Value.ownBlock] at hk; omega)
               clear h2 hg2)
  go_ret
  exact ⟨A2, c2, rfl, O2.out, B2.out⟩
theorem compare_nil (A : Option Addr) (n c : Nat) (w : World) : Calls Try.prog 42 #[.pointer none, .slice A n c] w fun e w' => e = .returned (.tuple #[.agg #[.bool false, .bool false], .slice none 0 0, .int .i64 1]) ∧ Below w.heap.size w w' := by
  go_enter Try.func42, Try.ntmps42
  go_wp2_with fail
  go_step3
  go_wp2_with fail
  rw [Exit.noGoto_ret]
  refine bodyPost_ret (v := .tuple #[.agg #[.bool false, .bool false], .slice none 0 0, .int .i64 1]) ?_ rfl ⟨rfl, ?_⟩
  · simp [results, Try.results42, go_sem]
  · go_grown
theorem sameHead_ (a n : Int) (A : Option Addr) (m c : Nat) (D : List UInt8) (a' n' : Int) (A' : Option Addr) (m' c' : Nat) (D' : List UInt8) (w : World) (hr : Rd w w.heap.size 1 A m (D.map B8)) (hr' : Rd w w.heap.size 1 A' m' (D'.map B8)) :
    Calls Try.prog 32 #[.agg #[.int .i64 a, .int .i64 n, .slice A m c], .agg #[.int .i64 a', .int .i64 n', .slice A' m' c']] w fun e w' => e = .returned (.bool (decide (a = a' ∧ n = n' ∧ D = D'))) ∧ Below w.heap.size w w' := by
  obtain ⟨W, hW⟩ : ∃ W, Hid (W = (w.alloc (.cells #[.int .i64 a, .int .i64 n, .slice A m c] 45)).alloc (.cells #[.int .i64 a', .int .i64 n', .slice A' m' c'] 45)) := ⟨_, Lib.hid rfl⟩
  have BW : Hid (Below w.heap.size w W) := by rw [hW.out]; exact ((Below.refl _ _).alloc (Nat.le_refl _) _).alloc (by rw [szAlloc]; omega) _
  have hc1 := conv8 W A m c D (hr.to BW.out)
  have hc2 := conv8 W A' m' c' D' (hr'.to BW.out)
  rw [hW.out] at hc1 hc2
  clear hr hr'
  by_cases h1 : a = a'
  · subst h1
    by_cases h2 : n = n'
    · subst h2
      go_enter Try.func32, Try.ntmps32
      go_wp2_with fail
      go_ret
      refine ⟨?_, by rw [← hW.out]; exact BW.out⟩
      show Ending.returned (Value.bool ((str D).toList == (str D').toList)) = _
      rw [eq_str]
      simp
    · have h2' : (n == n') = false := by simp [h2]
      go_enter Try.func32, Try.ntmps32
      go_wp2_with fail
      go_ret
      refine ⟨?_, by rw [← hW.out]; exact BW.out⟩
      simp [h2]
  · have h1' : (a == a') = false := by simp [h1]
    go_enter Try.func32, Try.ntmps32
    go_wp2_with fail
    go_ret
    refine ⟨?_, by rw [← hW.out]; exact BW.out⟩
    simp [h1]
end Go.Proofs.Ytabcbpcfleociaa
