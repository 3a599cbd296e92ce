/- The law WireBack's walk. -/
import Derived.Test.YtfobjpngajhdkaaWirH
import Derived.Test.YtfobjpngajhdkaaReg
namespace Go.Proofs.Ytfobjpngajhdkaa
open Go.RowKit
attribute [local go_sem ↓] Go.wp_at_zero Go.wp_at_succ
set_option linter.unusedSimpArgs false
theorem conv8 (w : World) (A : Option Addr) (n c : Nat) (l : List UInt8) (h : Rd w w.heap.size 1 A n (l.map B8)) : (convert 22 9 (.slice A n c)).run Try.prog w = .ok (.string (str l)) w :=
  run_convert_rd _ _ _ Try.underlying22 Try.underlying5 Try.underlying9 h
/-- A flag's bytes. -/
def flL (b : Bool) : List UInt8 := numL (if b then 1 else 0)
theorem flL_len (b : Bool) : (flL b).length ≤ 6 := (numL_len _).2
theorem nxt_num (x : Int) (rest : List UInt8) : nxt (numL x ++ rest) 0 0 = (clampN x, (numL x).length, 0) := nxt_put _ rest (clampN_le x)
theorem nxt_flag (b : Bool) (rest : List UInt8) : nxt (flL b ++ rest) 0 0 = ((if b then 1 else 0), (flL b).length, 0) := by
  unfold flL
  rw [nxt_num]
  cases b <;> rfl
theorem flag_put (A : Option Addr) (n c : Nat) (l : List UInt8) (b : Bool) (w : World) (hr : Rd w w.heap.size 1 A n (l.map B8)) (hn : l.length ≤ 140737488355322) :
    Calls Try.prog 13 #[.slice A n c, .bool b] w (RetB w.heap.size (l ++ flL b) w) := flag_any A n c l b w hr hn
theorem rflag_good (g : Nat) (A : Option Addr) (n c at_ : Nat) (l : List UInt8) (w : World) (h : Rdr w g A n c at_ 0) (hr : Rd w w.heap.size 1 A n (l.map B8)) (hn : n ≤ 140737488355328) (ha : at_ ≤ n) (b : Bool) (kk : Nat)
    (hx : nxt (l.drop at_) 0 0 = ((if b then 1 else 0), kk, 0)) (hk : at_ + kk ≤ n) :
    Calls Try.prog 21 #[.pointer (some ⟨g, 0, none⟩)] w fun r w' => r = .returned (.bool b) ∧ Rdr w' g A n c (at_ + kk) 0 ∧ w.grownBy w' (some g) := by
  go_enter Try.func21, Try.ntmps21
  go_wp2_with fail
  cases b
  · refine (number_good g A n c at_ l 0 1 _ h hr hn ha 0 kk hx (by omega) (by omega) hk).mono ?_; rintro r w2 ⟨rfl, h2, hg⟩
    go_wp2_with fail
    go_ret
    exact ⟨rfl, h2, hg⟩
  · refine (number_good g A n c at_ l 0 1 _ h hr hn ha 1 kk hx (by omega) (by omega) hk).mono ?_; rintro r w2 ⟨rfl, h2, hg⟩
    go_wp2_with fail
    go_ret
    exact ⟨rfl, h2, hg⟩
set_option maxHeartbeats 8000000 in
theorem wireBack_neg (x : Int) (A : Option Addr) (n c : Nat) (l : List UInt8) (A' : Option Addr) (n' c' : Nat) (l' : List UInt8) (yes : Bool) (w : World) (h0 : x < 0) (hr : Rd w w.heap.size 1 A n (l.map B8)) (hn : n ≤ 1048576) (hr' : Rd w w.heap.size 1 A' n' (l'.map B8)) (hn' : n' ≤ 1048576) :
    Calls Try.prog 6 #[.int .i64 x, .slice A n c, .slice A' n' c', .bool yes] w fun r w' => r = .returned (.bool true) ∧ Below w.heap.size w w' := by
  obtain rfl : l.length = n := by simpa using hr.len
  obtain rfl : l'.length = n' := by simpa using hr'.len
  have hlx := numL_len x
  have hll := numL_len l.length
  have hlf := flL_len yes
  have Htl := Lib.hid (show (textL l).length = (numL l.length).length + l.length by unfold textL; rw [List.length_append])
  have htl2 : (textL l).length ≤ l.length + 6 := by have := Htl.out; omega
  have hbig : ¬ (1099511627776 : Int) < (l.length : Int) := by omega
  go_enter Try.func6, Try.ntmps6
  go_wp2_with fail
  refine (number_any none 0 0 [] x _ (Rd.nil _ _ _ _) (by simp)).mono ?_
  rintro r w1 ⟨B1, d1, rfl, h1, hb1⟩
  rw [List.nil_append] at h1
  go_wp2_with fail
  refine (own_any A _ c l _ (hr.to hb1) (by omega)).mono ?_
  rintro r w2 ⟨B2, d2, rfl, h2, hb2⟩
  go_wp2_with fail
  refine (text_any B1 _ d1 (numL x) B2 _ d2 l _ (Rd.of_own (own_to h1 hb2)) (Rd.of_own h2) (by omega)).mono ?_
  rintro r w3 ⟨B3, d3, rfl, h3, hb3⟩
  have he3 : (numL x ++ textL l).length = (numL x).length + (textL l).length := List.length_append
  rw [he3] at h3
  go_wp2_with fail
  refine (flag_put B3 _ d3 (numL x ++ textL l) yes _ (by rw [← he3] at h3; rw [← he3]; exact Rd.of_own h3) (by omega)).mono ?_
  rintro r w4 ⟨B4, d4, rfl, h4, hb4⟩
  have he4 : (numL x ++ textL l ++ flL yes).length = (numL x).length + ((textL l).length + (flL yes).length) := by rw [List.length_append, he3, Nat.add_assoc]
  rw [he4] at h4
  have hB2 := hb1.trans (hb2.mono hb1.size)
  have hB3 := hB2.trans (hb3.mono hB2.size)
  have hB4 := hB3.trans (hb4.mono hB3.size)
  have hra4 := hr'.to hB4
  have hs3 := hb3.size
  have hs4 := hb4.size
  have hsB := hB3.size
  go_wp2_with (first
    | (at_builtin
       refine wpList_app rfl (.tmp 18) (.tmp 19) _ rfl w3.heap.size 5 1 1 _ Try.underlying22 info8 rfl (by omega) _ _ _ rfl h4 w4.heap.size A' _ c' _ rfl hra4 (B8_one _) (by simp only [maxLen]; omega) (by omega) hs4 ?_
       intro B5 d5 w5 h5 hg5 _
       have hb5 : Below w.heap.size w w5 := hB4.grown hg5 hB4.size (fun k hk => Nat.le_trans hsB (h4.lt k hk).1)))
  rw [← List.map_append] at h5
  obtain ⟨L, hL⟩ : ∃ L, L = numL x ++ textL l ++ flL yes ++ l' := ⟨_, rfl⟩
  rw [← hL] at h5
  obtain ⟨q, hq⟩ : ∃ q, q = (numL x).length + ((textL l).length + (flL yes).length) + l'.length := ⟨_, rfl⟩
  rw [← hq] at h5 ⊢
  have hLq : L.length = q := by rw [hL, hq, List.length_append, he4]
  refine (read_any B5 q d5 L _ (Rd.of_own h5) (by omega)).mono ?_
  rintro r w6 ⟨g, A6, c6, rfl, hg, hR6, hr6, hb6, hc6⟩
  have hB6 := hb5.trans (hb6.mono hb5.size)
  have qs := hr.to hB6
  have hgw : w.heap.size ≤ g := Nat.le_trans hb5.size hg
  have hx1 : nxt (L.drop 0) 0 0 = (clampN x, (numL x).length, 0) := by rw [List.drop_zero, hL, List.append_assoc, List.append_assoc]; exact nxt_num x _
  have hx2 : nxt (L.drop (numL x).length) 0 0 = (l.length, (numL l.length).length, 0) := by
    rw [hL, List.append_assoc, List.append_assoc, List.drop_left]
    unfold textL
    rw [List.append_assoc]
    have := nxt_num (l.length : Nat) (l ++ (flL yes ++ l'))
    rwa [clampN_nat _ (by omega)] at this
  have hx3 : (L.drop ((numL x).length + (numL l.length).length)).take l.length = l := by
    rw [hL, List.append_assoc, List.append_assoc, ← List.drop_drop, List.drop_left]
    unfold textL
    rw [List.append_assoc, List.drop_left, List.take_left]
  have hx4 : nxt (L.drop ((numL x).length + (numL l.length).length + l.length)) 0 0 = ((if yes then 1 else 0), (flL yes).length, 0) := by
    have e : (numL x).length + (numL l.length).length + l.length = (numL x ++ textL l).length := by rw [he3, Htl.out]; omega
    rw [e, hL, List.append_assoc (numL x ++ textL l), List.drop_left]
    exact nxt_flag yes l'
  have htl := Htl.out
  have hq2 : (q : Int) - (((numL x).length + (numL l.length).length + l.length + (flL yes).length : Nat) : Int) = (l'.length : Int) := by omega
  clear hL he3 he4
  rw [show clampN x = 0 from by unfold clampN; omega] at hx1
  generalize (numL x).length = i1 at *
  generalize (numL ((l.length : Nat) : Int)).length = i2 at *
  generalize (flL yes).length = i3 at *
  go_wp2_with fail
  have hd : Below w6.heap.size w6 w6.drew := (Still.refl w6).drew.below _
  have hRd := hR6.to hd
  have hrd := hr6.to hd
  replace qs := qs.to hd
  refine wp_region_noPanic ?_
  refine wp_region_held_drew (S := fun w' => (w6.drew).grownBy w' (some g)) (by kernel_rfl) (still_grown (Still.refl _) _) (fun hS => ?_)
  refine wpAnyH_take (i := 0) (v := ?v0) rfl (by kernel_rfl) (by kernel_rfl) (by kernel_rfl) (fun _ _ _ h => h) (Or.inl ⟨by rfl, ?hy0⟩) hS ?rest0
  case hy0 => (intro w hSw; go_simp; first | done | with_reducible rfl)
  try simp only [Act.put, List.getElem_toArray, List.getElem_cons_zero, List.getElem_cons_succ, List.setIfInBounds_toArray, List.set_cons_zero, List.set_cons_succ]
  refine wpAnyH_take (i := 2) (v := ?v2) rfl (by kernel_rfl) (by kernel_rfl) (by kernel_rfl) (fun _ _ _ h => h) (Or.inl ⟨by rfl, ?hy2⟩) hS ?rest2
  case hy2 => (intro w hSw; go_simp; first | done | with_reducible rfl)
  try simp only [Act.put, List.getElem_toArray, List.getElem_cons_zero, List.getElem_cons_succ, List.setIfInBounds_toArray, List.set_cons_zero, List.set_cons_succ]
  refine wpAnyH_ready (rs := [1]) (by kernel_rfl) (by simp) ?_
  refine AllReadyH.cons rfl (fun K hK => ?_) AllReadyH.nil
  go_simp
  refine (number_good g A6 _ c6 0 L 0 1099511627776 _ hRd hrd (by omega) (by omega) 0 i1 hx1 (by omega) (by omega) (by omega)).mono ?_
  rintro r u1 ⟨rfl, r1, p1⟩
  rw [Nat.zero_add] at r1
  replace qs := qs.only hRd p1
  have qr := hrd.only hRd p1
  go_wp2_with fail
  refine hK.out _ _ p1 ?_
  intro hS
  clear hK K
  try simp only [Act.put, List.getElem_toArray, List.getElem_cons_zero, List.getElem_cons_succ, List.setIfInBounds_toArray, List.set_cons_zero, List.set_cons_succ]
  refine wpAnyH_strong (S2 := fun w' => u1.grownBy w' (some g)) (fun w' (h' : u1.grownBy w' (some g)) => grown_trans' p1 h') _ _ _ _ ?_
  clear hS
  have hS : u1.grownBy u1 (some g) := still_grown (Still.refl _) _
  refine wpAnyH_take (i := 3) (v := ?v3) rfl (by kernel_rfl) (by kernel_rfl) (by kernel_rfl) (fun _ _ _ h => h) (Or.inl ⟨by rfl, ?hy3⟩) hS ?rest3
  case hy3 => (intro w hSw; go_simp; first | done | with_reducible rfl)
  try simp only [Act.put, List.getElem_toArray, List.getElem_cons_zero, List.getElem_cons_succ, List.setIfInBounds_toArray, List.set_cons_zero, List.set_cons_succ]
  refine wpAnyH_take (i := 4) (v := ?v4) rfl (by kernel_rfl) (by kernel_rfl) (by kernel_rfl) (fun _ _ _ h => h) (Or.inl ⟨by rfl, ?hy4⟩) hS ?rest4
  case hy4 => (intro w hSw; go_simp; first | done | with_reducible rfl)
  try simp only [Act.put, List.getElem_toArray, List.getElem_cons_zero, List.getElem_cons_succ, List.setIfInBounds_toArray, List.set_cons_zero, List.set_cons_succ]
  refine wpAnyH_take (i := 5) (v := ?v5) rfl (by kernel_rfl) (by kernel_rfl) (by kernel_rfl) (fun _ _ _ h => h) (Or.inl ⟨by rfl, ?hy5⟩) hS ?rest5
  case hy5 => (intro w hSw; go_simp; first | done | with_reducible rfl)
  try simp only [Act.put, List.getElem_toArray, List.getElem_cons_zero, List.getElem_cons_succ, List.setIfInBounds_toArray, List.set_cons_zero, List.set_cons_succ]
  refine wpAnyH_take (i := 6) (v := ?v6) rfl (by kernel_rfl) (by kernel_rfl) (by kernel_rfl) (fun _ _ _ h => h) (Or.inl ⟨by rfl, ?hy6⟩) hS ?rest6
  case hy6 => (intro w hSw; go_simp; first | done | with_reducible rfl)
  try simp only [Act.put, List.getElem_toArray, List.getElem_cons_zero, List.getElem_cons_succ, List.setIfInBounds_toArray, List.set_cons_zero, List.set_cons_succ]
  refine wpAnyH_take (i := 7) (v := ?v7) rfl (by kernel_rfl) (by kernel_rfl) (by kernel_rfl) (fun _ _ _ h => h) (Or.inl ⟨by rfl, ?hy7⟩) hS ?rest7
  case hy7 => (intro w hSw; go_simp; first | done | with_reducible rfl)
  try simp only [Act.put, List.getElem_toArray, List.getElem_cons_zero, List.getElem_cons_succ, List.setIfInBounds_toArray, List.set_cons_zero, List.set_cons_succ]
  refine wpAnyH_take (i := 10) (v := ?v10) rfl (by kernel_rfl) (by kernel_rfl) (by kernel_rfl) (fun _ _ _ h => h) (Or.inl ⟨by rfl, ?hy10⟩) hS ?rest10
  case hy10 => (intro w hSw; go_simp; first | done | with_reducible rfl)
  try simp only [Act.put, List.getElem_toArray, List.getElem_cons_zero, List.getElem_cons_succ, List.setIfInBounds_toArray, List.set_cons_zero, List.set_cons_succ]
  refine wpAnyH_take (i := 11) (v := ?v11) rfl (by kernel_rfl) (by kernel_rfl) (by kernel_rfl) (fun _ _ _ h => h) (Or.inl ⟨by rfl, ?hy11⟩) hS ?rest11
  case hy11 => (intro w hSw; have hcv := conv8 w A _ c _ (qs.only r1 hSw); go_simp; first | done | with_reducible rfl)
  try simp only [Act.put, List.getElem_toArray, List.getElem_cons_zero, List.getElem_cons_succ, List.setIfInBounds_toArray, List.set_cons_zero, List.set_cons_succ]
  refine wpAnyH_ready (rs := [8]) (by kernel_rfl) (by simp) ?_
  refine AllReadyH.cons rfl (fun K hK => ?_) AllReadyH.nil
  go_simp
  refine (text_good g A6 _ c6 i1 L (l.length : Nat) _ r1 qr (by omega) hc6 (by omega) l.length i2 hx2 (by omega) (by omega) (by omega)).mono ?_
  rintro r u2 ⟨B7, d7, rfl, t2, r2, p2⟩
  rw [hx3] at t2
  replace qs := qs.only r1 p2
  replace qr := qr.only r1 p2
  go_wp2_with fail
  refine hK.out _ _ p2 ?_
  intro hS
  clear hK K
  try simp only [Act.put, List.getElem_toArray, List.getElem_cons_zero, List.getElem_cons_succ, List.setIfInBounds_toArray, List.set_cons_zero, List.set_cons_succ]
  refine wpAnyH_strong (S2 := fun w' => u2.grownBy w' (some g)) (fun w' (h' : u2.grownBy w' (some g)) => grown_trans' p2 h') _ _ _ _ ?_
  clear hS
  have hS : u2.grownBy u2 (some g) := still_grown (Still.refl _) _
  refine wpAnyH_take (i := 9) (v := ?v9) rfl (by kernel_rfl) (by kernel_rfl) (by kernel_rfl) (fun _ _ _ h => h) (Or.inl ⟨by rfl, ?hy9⟩) hS ?rest9
  case hy9 => (intro w hSw; have hcv := conv8 w B7 _ d7 _ (t2.only r2 hSw); go_simp; first | done | with_reducible rfl)
  try simp only [Act.put, List.getElem_toArray, List.getElem_cons_zero, List.getElem_cons_succ, List.setIfInBounds_toArray, List.set_cons_zero, List.set_cons_succ]
  refine wpAnyH_take (i := 12) (v := ?v12) rfl (by kernel_rfl) (by kernel_rfl) (by kernel_rfl) (fun _ _ _ h => h) (Or.inl ⟨by rfl, ?hy12⟩) hS ?rest12
  case hy12 => (intro w hSw; go_simp; first | done | with_reducible rfl)
  try simp only [Act.put, List.getElem_toArray, List.getElem_cons_zero, List.getElem_cons_succ, List.setIfInBounds_toArray, List.set_cons_zero, List.set_cons_succ]
  refine wpAnyH_take (i := 13) (v := ?v13) rfl (by kernel_rfl) (by kernel_rfl) (by kernel_rfl) (fun _ _ _ h => h) (Or.inl ⟨by rfl, ?hy13⟩) hS ?rest13
  case hy13 => (intro w hSw; go_simp; first | done | with_reducible rfl)
  try simp only [Act.put, List.getElem_toArray, List.getElem_cons_zero, List.getElem_cons_succ, List.setIfInBounds_toArray, List.set_cons_zero, List.set_cons_succ]
  refine wpAnyH_take (i := 14) (v := ?v14) rfl (by kernel_rfl) (by kernel_rfl) (by kernel_rfl) (fun _ _ _ h => h) (Or.inl ⟨by rfl, ?hy14⟩) hS ?rest14
  case hy14 => (intro w hSw; go_simp; first | done | with_reducible rfl)
  try simp only [Act.put, List.getElem_toArray, List.getElem_cons_zero, List.getElem_cons_succ, List.setIfInBounds_toArray, List.set_cons_zero, List.set_cons_succ]
  refine wpAnyH_take (i := 15) (v := ?v15) rfl (by kernel_rfl) (by kernel_rfl) (by kernel_rfl) (fun _ _ _ h => h) (Or.inl ⟨by rfl, ?hy15⟩) hS ?rest15
  case hy15 => (intro w hSw; go_simp; first | done | with_reducible rfl)
  try simp only [Act.put, List.getElem_toArray, List.getElem_cons_zero, List.getElem_cons_succ, List.setIfInBounds_toArray, List.set_cons_zero, List.set_cons_succ]
  refine wpAnyH_take (i := 17) (v := ?v17) rfl (by kernel_rfl) (by kernel_rfl) (by kernel_rfl) (fun _ _ _ h => h) (Or.inl ⟨by rfl, ?hy17⟩) hS ?rest17
  case hy17 => (intro w hSw; go_simp; first | done | with_reducible rfl)
  try simp only [Act.put, List.getElem_toArray, List.getElem_cons_zero, List.getElem_cons_succ, List.setIfInBounds_toArray, List.set_cons_zero, List.set_cons_succ]
  refine wpAnyH_ready (rs := [16]) (by kernel_rfl) (by simp) ?_
  refine AllReadyH.cons rfl (fun K hK => ?_) AllReadyH.nil
  go_simp
  refine (rflag_good g A6 _ c6 _ L _ r2 qr (by omega) (by omega) yes i3 hx4 (by omega)).mono ?_
  rintro r u3 ⟨rfl, r3, p3⟩
  replace qs := qs.only r2 p3
  go_wp2_with fail
  refine hK.out _ _ p3 ?_
  intro hS
  clear hK K
  try simp only [Act.put, List.getElem_toArray, List.getElem_cons_zero, List.getElem_cons_succ, List.setIfInBounds_toArray, List.set_cons_zero, List.set_cons_succ]
  refine wpAnyH_strong (S2 := fun w' => u3.grownBy w' (some g)) (fun w' (h' : u3.grownBy w' (some g)) => grown_trans' p3 h') _ _ _ _ ?_
  clear hS
  have hS : u3.grownBy u3 (some g) := still_grown (Still.refl _) _
  refine wpAnyH_take (i := 18) (v := ?v18) rfl (by kernel_rfl) (by kernel_rfl) (by kernel_rfl) (fun _ _ _ h => h) (Or.inl ⟨by rfl, ?hy18⟩) hS ?rest18
  case hy18 => (intro w hSw; go_simp; first | done | with_reducible rfl)
  try simp only [Act.put, List.getElem_toArray, List.getElem_cons_zero, List.getElem_cons_succ, List.setIfInBounds_toArray, List.set_cons_zero, List.set_cons_succ]
  refine wpAnyH_take (i := 19) (v := ?v19) rfl (by kernel_rfl) (by kernel_rfl) (by kernel_rfl) (fun _ _ _ h => h) (Or.inl ⟨by rfl, ?hy19⟩) hS ?rest19
  case hy19 => (intro w hSw; go_simp; first | done | with_reducible rfl)
  try simp only [Act.put, List.getElem_toArray, List.getElem_cons_zero, List.getElem_cons_succ, List.setIfInBounds_toArray, List.set_cons_zero, List.set_cons_succ]
  refine wpAnyH_take (i := 20) (v := ?v20) rfl (by kernel_rfl) (by kernel_rfl) (by kernel_rfl) (fun _ _ _ h => h) (Or.inl ⟨by rfl, ?hy20⟩) hS ?rest20
  case hy20 => (intro w hSw; go_simp; first | done | with_reducible rfl)
  try simp only [Act.put, List.getElem_toArray, List.getElem_cons_zero, List.getElem_cons_succ, List.setIfInBounds_toArray, List.set_cons_zero, List.set_cons_succ]
  refine wpAnyH_take (i := 21) (v := ?v21) rfl (by kernel_rfl) (by kernel_rfl) (by kernel_rfl) (fun _ _ _ h => h) (Or.inl ⟨by rfl, ?hy21⟩) hS ?rest21
  case hy21 => (intro w hSw; go_simp; first | done | with_reducible rfl)
  try simp only [Act.put, List.getElem_toArray, List.getElem_cons_zero, List.getElem_cons_succ, List.setIfInBounds_toArray, List.set_cons_zero, List.set_cons_succ]
  refine wpAnyH_ready (rs := [22]) (by kernel_rfl) (by simp) ?_
  refine AllReadyH.cons rfl (fun K hK => ?_) AllReadyH.nil
  go_simp
  refine (err_any g A6 _ c6 _ 0 _ r3).mono ?_
  rintro r u4 ⟨rfl, rfl⟩
  have p4 : u3.grownBy u3 (some g) := still_grown (Still.refl _) _
  go_wp2_with fail
  refine hK.out _ _ p4 ?_
  intro hS
  clear hK K
  try simp only [Act.put, List.getElem_toArray, List.getElem_cons_zero, List.getElem_cons_succ, List.setIfInBounds_toArray, List.set_cons_zero, List.set_cons_succ]
  refine wpAnyH_strong (S2 := fun w' => u3.grownBy w' (some g)) (fun w' (h' : u3.grownBy w' (some g)) => grown_trans' p4 h') _ _ _ _ ?_
  clear hS
  have hS : u3.grownBy u3 (some g) := still_grown (Still.refl _) _
  refine wpAnyH_take (i := 23) (v := ?v23) rfl (by kernel_rfl) (by kernel_rfl) (by kernel_rfl) (fun _ _ _ h => h) (Or.inl ⟨by rfl, ?hy23⟩) hS ?rest23
  case hy23 => (intro w hSw; go_simp; first | done | with_reducible rfl)
  try simp only [Act.put, List.getElem_toArray, List.getElem_cons_zero, List.getElem_cons_succ, List.setIfInBounds_toArray, List.set_cons_zero, List.set_cons_succ]
  refine wpAnyH_take (i := 24) (v := ?v24) rfl (by kernel_rfl) (by kernel_rfl) (by kernel_rfl) (fun _ _ _ h => h) (Or.inl ⟨by rfl, ?hy24⟩) hS ?rest24
  case hy24 => (intro w hSw; go_simp; first | done | with_reducible rfl)
  try simp only [Act.put, List.getElem_toArray, List.getElem_cons_zero, List.getElem_cons_succ, List.setIfInBounds_toArray, List.set_cons_zero, List.set_cons_succ]
  refine wpAnyH_take (i := 25) (v := ?v25) rfl (by kernel_rfl) (by kernel_rfl) (by kernel_rfl) (fun _ _ _ h => h) (Or.inl ⟨by rfl, ?hy25⟩) hS ?rest25
  case hy25 => (intro w hSw; go_simp; first | done | with_reducible rfl)
  try simp only [Act.put, List.getElem_toArray, List.getElem_cons_zero, List.getElem_cons_succ, List.setIfInBounds_toArray, List.set_cons_zero, List.set_cons_succ]
  refine wpAnyH_take (i := 26) (v := ?v26) rfl (by kernel_rfl) (by kernel_rfl) (by kernel_rfl) (fun _ _ _ h => h) (Or.inl ⟨by rfl, ?hy26⟩) hS ?rest26
  case hy26 => (intro w hSw; go_simp; first | done | with_reducible rfl)
  try simp only [Act.put, List.getElem_toArray, List.getElem_cons_zero, List.getElem_cons_succ, List.setIfInBounds_toArray, List.set_cons_zero, List.set_cons_succ]
  refine wpAnyH_take (i := 28) (v := ?v28) rfl (by kernel_rfl) (by kernel_rfl) (by kernel_rfl) (fun _ _ _ h => h) (Or.inl ⟨by rfl, ?hy28⟩) hS ?rest28
  case hy28 => (intro w hSw; go_simp; first | done | with_reducible rfl)
  try simp only [Act.put, List.getElem_toArray, List.getElem_cons_zero, List.getElem_cons_succ, List.setIfInBounds_toArray, List.set_cons_zero, List.set_cons_succ]
  refine wpAnyH_take (i := 29) (v := ?v29) rfl (by kernel_rfl) (by kernel_rfl) (by kernel_rfl) (fun _ _ _ h => h) (Or.inl ⟨by rfl, ?hy29⟩) hS ?rest29
  case hy29 => (intro w hSw; go_simp; first | done | with_reducible rfl)
  try simp only [Act.put, List.getElem_toArray, List.getElem_cons_zero, List.getElem_cons_succ, List.setIfInBounds_toArray, List.set_cons_zero, List.set_cons_succ]
  refine wpAnyH_ready (rs := [27]) (by kernel_rfl) (by simp) ?_
  refine AllReadyH.cons rfl (fun K hK => ?_) AllReadyH.nil
  go_simp
  refine (Left_any g A6 _ c6 _ 0 _ r3 (by omega) (by omega)).mono ?_
  rintro r u5 ⟨rfl, s5⟩
  have p5 : u3.grownBy u5 (some g) := still_grown s5 _
  rw [hq2]
  go_wp2_with fail
  refine hK.out _ _ p5 ?_
  intro hS
  clear hK K
  try simp only [Act.put, List.getElem_toArray, List.getElem_cons_zero, List.getElem_cons_succ, List.setIfInBounds_toArray, List.set_cons_zero, List.set_cons_succ]
  refine wpAnyH_strong (S2 := fun w' => u5.grownBy w' (some g)) (fun w' (h' : u5.grownBy w' (some g)) => grown_trans' p5 h') _ _ _ _ ?_
  clear hS
  have hS : u5.grownBy u5 (some g) := still_grown (Still.refl _) _
  refine wpAnyH_take (i := 30) (v := ?v30) rfl (by kernel_rfl) (by kernel_rfl) (by kernel_rfl) (fun _ _ _ h => h) (Or.inl ⟨by rfl, ?hy30⟩) hS ?rest30
  case hy30 => (intro w hSw; go_simp; first | done | with_reducible rfl)
  try simp only [Act.put, List.getElem_toArray, List.getElem_cons_zero, List.getElem_cons_succ, List.setIfInBounds_toArray, List.set_cons_zero, List.set_cons_succ]
  refine wpAnyH_take (i := 31) (v := ?v31) rfl (by kernel_rfl) (by kernel_rfl) (by kernel_rfl) (fun _ _ _ h => h) (Or.inl ⟨by rfl, ?hy31⟩) hS ?rest31
  case hy31 => (intro w hSw; go_simp; first | done | with_reducible rfl)
  try simp only [Act.put, List.getElem_toArray, List.getElem_cons_zero, List.getElem_cons_succ, List.setIfInBounds_toArray, List.set_cons_zero, List.set_cons_succ]
  refine wpAnyH_take (i := 32) (v := ?v32) rfl (by kernel_rfl) (by kernel_rfl) (by kernel_rfl) (fun _ _ _ h => h) (Or.inl ⟨by rfl, ?hy32⟩) hS ?rest32
  case hy32 => (intro w hSw; go_simp; first | done | with_reducible rfl)
  try simp only [Act.put, List.getElem_toArray, List.getElem_cons_zero, List.getElem_cons_succ, List.setIfInBounds_toArray, List.set_cons_zero, List.set_cons_succ]
  refine wpAnyH_ready (rs := [33]) (by kernel_rfl) (by simp) ?_
  refine AllReadyH.cons rfl (fun K hK => ?_) AllReadyH.nil
  go_simp
  refine (awake_any _).mono ?_
  rintro r u6 ⟨rfl, b6⟩
  have p6 : u5.grownBy u6 (some g) := below_grown' b6 _
  go_wp2_with fail
  refine hK.out _ _ p6 ?_
  intro hS
  clear hK K
  try simp only [Act.put, List.getElem_toArray, List.getElem_cons_zero, List.getElem_cons_succ, List.setIfInBounds_toArray, List.set_cons_zero, List.set_cons_succ]
  refine wpAnyH_take (i := 34) (v := ?v34) rfl (by kernel_rfl) (by kernel_rfl) (by kernel_rfl) (fun _ _ _ h => h) (Or.inl ⟨by rfl, ?hy34⟩) hS ?rest34
  case hy34 => (intro w hSw; go_simp; first | done | with_reducible rfl)
  try simp only [Act.put, List.getElem_toArray, List.getElem_cons_zero, List.getElem_cons_succ, List.setIfInBounds_toArray, List.set_cons_zero, List.set_cons_succ]
  refine wpAnyH_take (i := 35) (v := ?v35) rfl (by kernel_rfl) (by kernel_rfl) (by kernel_rfl) (fun _ _ _ h => h) (Or.inl ⟨by rfl, ?hy35⟩) hS ?rest35
  case hy35 => (intro w hSw; go_simp; first | done | with_reducible rfl)
  try simp only [Act.put, List.getElem_toArray, List.getElem_cons_zero, List.getElem_cons_succ, List.setIfInBounds_toArray, List.set_cons_zero, List.set_cons_succ]
  refine wpAnyH_done (by kernel_rfl) (NoPanic.normal ?_) _
  go_wp2_with fail
  go_ret
  have hBd := hB6.trans (hd.mono hB6.size)
  have hP := grown_trans' (grown_trans' (grown_trans' p1 p2) p3) (grown_trans' p5 p6)
  exact ⟨rfl, grown_below hBd hP hgw hBd.size⟩
set_option maxHeartbeats 8000000 in
theorem wireBack_far (x : Int) (A : Option Addr) (n c : Nat) (l : List UInt8) (A' : Option Addr) (n' c' : Nat) (l' : List UInt8) (yes : Bool) (w : World) (h0 : 1099511627776 < x) (hr : Rd w w.heap.size 1 A n (l.map B8)) (hn : n ≤ 1048576) (hr' : Rd w w.heap.size 1 A' n' (l'.map B8)) (hn' : n' ≤ 1048576) :
    Calls Try.prog 6 #[.int .i64 x, .slice A n c, .slice A' n' c', .bool yes] w fun r w' => r = .returned (.bool true) ∧ Below w.heap.size w w' := by
  obtain rfl : l.length = n := by simpa using hr.len
  obtain rfl : l'.length = n' := by simpa using hr'.len
  have hlx := numL_len x
  have hll := numL_len l.length
  have hlf := flL_len yes
  have Htl := Lib.hid (show (textL l).length = (numL l.length).length + l.length by unfold textL; rw [List.length_append])
  have htl2 : (textL l).length ≤ l.length + 6 := by have := Htl.out; omega
  have hbig : ¬ (1099511627776 : Int) < (l.length : Int) := by omega
  go_enter Try.func6, Try.ntmps6
  go_wp2_with fail
  refine (number_any none 0 0 [] x _ (Rd.nil _ _ _ _) (by simp)).mono ?_
  rintro r w1 ⟨B1, d1, rfl, h1, hb1⟩
  rw [List.nil_append] at h1
  go_wp2_with fail
  refine (own_any A _ c l _ (hr.to hb1) (by omega)).mono ?_
  rintro r w2 ⟨B2, d2, rfl, h2, hb2⟩
  go_wp2_with fail
  refine (text_any B1 _ d1 (numL x) B2 _ d2 l _ (Rd.of_own (own_to h1 hb2)) (Rd.of_own h2) (by omega)).mono ?_
  rintro r w3 ⟨B3, d3, rfl, h3, hb3⟩
  have he3 : (numL x ++ textL l).length = (numL x).length + (textL l).length := List.length_append
  rw [he3] at h3
  go_wp2_with fail
  refine (flag_put B3 _ d3 (numL x ++ textL l) yes _ (by rw [← he3] at h3; rw [← he3]; exact Rd.of_own h3) (by omega)).mono ?_
  rintro r w4 ⟨B4, d4, rfl, h4, hb4⟩
  have he4 : (numL x ++ textL l ++ flL yes).length = (numL x).length + ((textL l).length + (flL yes).length) := by rw [List.length_append, he3, Nat.add_assoc]
  rw [he4] at h4
  have hB2 := hb1.trans (hb2.mono hb1.size)
  have hB3 := hB2.trans (hb3.mono hB2.size)
  have hB4 := hB3.trans (hb4.mono hB3.size)
  have hra4 := hr'.to hB4
  have hs3 := hb3.size
  have hs4 := hb4.size
  have hsB := hB3.size
  go_wp2_with (first
    | (at_builtin
       refine wpList_app rfl (.tmp 18) (.tmp 19) _ rfl w3.heap.size 5 1 1 _ Try.underlying22 info8 rfl (by omega) _ _ _ rfl h4 w4.heap.size A' _ c' _ rfl hra4 (B8_one _) (by simp only [maxLen]; omega) (by omega) hs4 ?_
       intro B5 d5 w5 h5 hg5 _
       have hb5 : Below w.heap.size w w5 := hB4.grown hg5 hB4.size (fun k hk => Nat.le_trans hsB (h4.lt k hk).1)))
  rw [← List.map_append] at h5
  obtain ⟨L, hL⟩ : ∃ L, L = numL x ++ textL l ++ flL yes ++ l' := ⟨_, rfl⟩
  rw [← hL] at h5
  obtain ⟨q, hq⟩ : ∃ q, q = (numL x).length + ((textL l).length + (flL yes).length) + l'.length := ⟨_, rfl⟩
  rw [← hq] at h5 ⊢
  have hLq : L.length = q := by rw [hL, hq, List.length_append, he4]
  refine (read_any B5 q d5 L _ (Rd.of_own h5) (by omega)).mono ?_
  rintro r w6 ⟨g, A6, c6, rfl, hg, hR6, hr6, hb6, hc6⟩
  have hB6 := hb5.trans (hb6.mono hb5.size)
  have qs := hr.to hB6
  have hgw : w.heap.size ≤ g := Nat.le_trans hb5.size hg
  have hx1 : nxt (L.drop 0) 0 0 = (clampN x, (numL x).length, 0) := by rw [List.drop_zero, hL, List.append_assoc, List.append_assoc]; exact nxt_num x _
  have hx2 : nxt (L.drop (numL x).length) 0 0 = (l.length, (numL l.length).length, 0) := by
    rw [hL, List.append_assoc, List.append_assoc, List.drop_left]
    unfold textL
    rw [List.append_assoc]
    have := nxt_num (l.length : Nat) (l ++ (flL yes ++ l'))
    rwa [clampN_nat _ (by omega)] at this
  have hx3 : (L.drop ((numL x).length + (numL l.length).length)).take l.length = l := by
    rw [hL, List.append_assoc, List.append_assoc, ← List.drop_drop, List.drop_left]
    unfold textL
    rw [List.append_assoc, List.drop_left, List.take_left]
  have hx4 : nxt (L.drop ((numL x).length + (numL l.length).length + l.length)) 0 0 = ((if yes then 1 else 0), (flL yes).length, 0) := by
    have e : (numL x).length + (numL l.length).length + l.length = (numL x ++ textL l).length := by rw [he3, Htl.out]; omega
    rw [e, hL, List.append_assoc (numL x ++ textL l), List.drop_left]
    exact nxt_flag yes l'
  have htl := Htl.out
  have hq2 : (q : Int) - (((numL x).length + (numL l.length).length + l.length + (flL yes).length : Nat) : Int) = (l'.length : Int) := by omega
  clear hL he3 he4
  rw [show clampN x = 1099511627776 from by unfold clampN; omega] at hx1
  generalize (numL x).length = i1 at *
  generalize (numL ((l.length : Nat) : Int)).length = i2 at *
  generalize (flL yes).length = i3 at *
  go_wp2_with fail
  have hd : Below w6.heap.size w6 w6.drew := (Still.refl w6).drew.below _
  have hRd := hR6.to hd
  have hrd := hr6.to hd
  replace qs := qs.to hd
  refine wp_region_noPanic ?_
  refine wp_region_held_drew (S := fun w' => (w6.drew).grownBy w' (some g)) (by kernel_rfl) (still_grown (Still.refl _) _) (fun hS => ?_)
  refine wpAnyH_take (i := 0) (v := ?v0) rfl (by kernel_rfl) (by kernel_rfl) (by kernel_rfl) (fun _ _ _ h => h) (Or.inl ⟨by rfl, ?hy0⟩) hS ?rest0
  case hy0 => (intro w hSw; go_simp; first | done | with_reducible rfl)
  try simp only [Act.put, List.getElem_toArray, List.getElem_cons_zero, List.getElem_cons_succ, List.setIfInBounds_toArray, List.set_cons_zero, List.set_cons_succ]
  refine wpAnyH_take (i := 2) (v := ?v2) rfl (by kernel_rfl) (by kernel_rfl) (by kernel_rfl) (fun _ _ _ h => h) (Or.inl ⟨by rfl, ?hy2⟩) hS ?rest2
  case hy2 => (intro w hSw; go_simp; first | done | with_reducible rfl)
  try simp only [Act.put, List.getElem_toArray, List.getElem_cons_zero, List.getElem_cons_succ, List.setIfInBounds_toArray, List.set_cons_zero, List.set_cons_succ]
  refine wpAnyH_ready (rs := [1]) (by kernel_rfl) (by simp) ?_
  refine AllReadyH.cons rfl (fun K hK => ?_) AllReadyH.nil
  go_simp
  refine (number_good g A6 _ c6 0 L 0 1099511627776 _ hRd hrd (by omega) (by omega) 1099511627776 i1 hx1 (by omega) (by omega) (by omega)).mono ?_
  rintro r u1 ⟨rfl, r1, p1⟩
  rw [Nat.zero_add] at r1
  replace qs := qs.only hRd p1
  have qr := hrd.only hRd p1
  go_wp2_with fail
  refine hK.out _ _ p1 ?_
  intro hS
  clear hK K
  try simp only [Act.put, List.getElem_toArray, List.getElem_cons_zero, List.getElem_cons_succ, List.setIfInBounds_toArray, List.set_cons_zero, List.set_cons_succ]
  refine wpAnyH_strong (S2 := fun w' => u1.grownBy w' (some g)) (fun w' (h' : u1.grownBy w' (some g)) => grown_trans' p1 h') _ _ _ _ ?_
  clear hS
  have hS : u1.grownBy u1 (some g) := still_grown (Still.refl _) _
  refine wpAnyH_take (i := 3) (v := ?v3) rfl (by kernel_rfl) (by kernel_rfl) (by kernel_rfl) (fun _ _ _ h => h) (Or.inl ⟨by rfl, ?hy3⟩) hS ?rest3
  case hy3 => (intro w hSw; go_simp; first | done | with_reducible rfl)
  try simp only [Act.put, List.getElem_toArray, List.getElem_cons_zero, List.getElem_cons_succ, List.setIfInBounds_toArray, List.set_cons_zero, List.set_cons_succ]
  refine wpAnyH_take (i := 4) (v := ?v4) rfl (by kernel_rfl) (by kernel_rfl) (by kernel_rfl) (fun _ _ _ h => h) (Or.inl ⟨by rfl, ?hy4⟩) hS ?rest4
  case hy4 => (intro w hSw; go_simp; first | done | with_reducible rfl)
  try simp only [Act.put, List.getElem_toArray, List.getElem_cons_zero, List.getElem_cons_succ, List.setIfInBounds_toArray, List.set_cons_zero, List.set_cons_succ]
  refine wpAnyH_take (i := 5) (v := ?v5) rfl (by kernel_rfl) (by kernel_rfl) (by kernel_rfl) (fun _ _ _ h => h) (Or.inl ⟨by rfl, ?hy5⟩) hS ?rest5
  case hy5 => (intro w hSw; go_simp; first | done | with_reducible rfl)
  try simp only [Act.put, List.getElem_toArray, List.getElem_cons_zero, List.getElem_cons_succ, List.setIfInBounds_toArray, List.set_cons_zero, List.set_cons_succ]
  refine wpAnyH_take (i := 6) (v := ?v6) rfl (by kernel_rfl) (by kernel_rfl) (by kernel_rfl) (fun _ _ _ h => h) (Or.inl ⟨by rfl, ?hy6⟩) hS ?rest6
  case hy6 => (intro w hSw; go_simp; first | done | with_reducible rfl)
  try simp only [Act.put, List.getElem_toArray, List.getElem_cons_zero, List.getElem_cons_succ, List.setIfInBounds_toArray, List.set_cons_zero, List.set_cons_succ]
  refine wpAnyH_take (i := 7) (v := ?v7) rfl (by kernel_rfl) (by kernel_rfl) (by kernel_rfl) (fun _ _ _ h => h) (Or.inl ⟨by rfl, ?hy7⟩) hS ?rest7
  case hy7 => (intro w hSw; go_simp; first | done | with_reducible rfl)
  try simp only [Act.put, List.getElem_toArray, List.getElem_cons_zero, List.getElem_cons_succ, List.setIfInBounds_toArray, List.set_cons_zero, List.set_cons_succ]
  refine wpAnyH_take (i := 10) (v := ?v10) rfl (by kernel_rfl) (by kernel_rfl) (by kernel_rfl) (fun _ _ _ h => h) (Or.inl ⟨by rfl, ?hy10⟩) hS ?rest10
  case hy10 => (intro w hSw; go_simp; first | done | with_reducible rfl)
  try simp only [Act.put, List.getElem_toArray, List.getElem_cons_zero, List.getElem_cons_succ, List.setIfInBounds_toArray, List.set_cons_zero, List.set_cons_succ]
  refine wpAnyH_take (i := 11) (v := ?v11) rfl (by kernel_rfl) (by kernel_rfl) (by kernel_rfl) (fun _ _ _ h => h) (Or.inl ⟨by rfl, ?hy11⟩) hS ?rest11
  case hy11 => (intro w hSw; have hcv := conv8 w A _ c _ (qs.only r1 hSw); go_simp; first | done | with_reducible rfl)
  try simp only [Act.put, List.getElem_toArray, List.getElem_cons_zero, List.getElem_cons_succ, List.setIfInBounds_toArray, List.set_cons_zero, List.set_cons_succ]
  refine wpAnyH_ready (rs := [8]) (by kernel_rfl) (by simp) ?_
  refine AllReadyH.cons rfl (fun K hK => ?_) AllReadyH.nil
  go_simp
  refine (text_good g A6 _ c6 i1 L (l.length : Nat) _ r1 qr (by omega) hc6 (by omega) l.length i2 hx2 (by omega) (by omega) (by omega)).mono ?_
  rintro r u2 ⟨B7, d7, rfl, t2, r2, p2⟩
  rw [hx3] at t2
  replace qs := qs.only r1 p2
  replace qr := qr.only r1 p2
  go_wp2_with fail
  refine hK.out _ _ p2 ?_
  intro hS
  clear hK K
  try simp only [Act.put, List.getElem_toArray, List.getElem_cons_zero, List.getElem_cons_succ, List.setIfInBounds_toArray, List.set_cons_zero, List.set_cons_succ]
  refine wpAnyH_strong (S2 := fun w' => u2.grownBy w' (some g)) (fun w' (h' : u2.grownBy w' (some g)) => grown_trans' p2 h') _ _ _ _ ?_
  clear hS
  have hS : u2.grownBy u2 (some g) := still_grown (Still.refl _) _
  refine wpAnyH_take (i := 9) (v := ?v9) rfl (by kernel_rfl) (by kernel_rfl) (by kernel_rfl) (fun _ _ _ h => h) (Or.inl ⟨by rfl, ?hy9⟩) hS ?rest9
  case hy9 => (intro w hSw; have hcv := conv8 w B7 _ d7 _ (t2.only r2 hSw); go_simp; first | done | with_reducible rfl)
  try simp only [Act.put, List.getElem_toArray, List.getElem_cons_zero, List.getElem_cons_succ, List.setIfInBounds_toArray, List.set_cons_zero, List.set_cons_succ]
  refine wpAnyH_take (i := 12) (v := ?v12) rfl (by kernel_rfl) (by kernel_rfl) (by kernel_rfl) (fun _ _ _ h => h) (Or.inl ⟨by rfl, ?hy12⟩) hS ?rest12
  case hy12 => (intro w hSw; go_simp; first | done | with_reducible rfl)
  try simp only [Act.put, List.getElem_toArray, List.getElem_cons_zero, List.getElem_cons_succ, List.setIfInBounds_toArray, List.set_cons_zero, List.set_cons_succ]
  refine wpAnyH_take (i := 13) (v := ?v13) rfl (by kernel_rfl) (by kernel_rfl) (by kernel_rfl) (fun _ _ _ h => h) (Or.inl ⟨by rfl, ?hy13⟩) hS ?rest13
  case hy13 => (intro w hSw; go_simp; first | done | with_reducible rfl)
  try simp only [Act.put, List.getElem_toArray, List.getElem_cons_zero, List.getElem_cons_succ, List.setIfInBounds_toArray, List.set_cons_zero, List.set_cons_succ]
  refine wpAnyH_take (i := 14) (v := ?v14) rfl (by kernel_rfl) (by kernel_rfl) (by kernel_rfl) (fun _ _ _ h => h) (Or.inl ⟨by rfl, ?hy14⟩) hS ?rest14
  case hy14 => (intro w hSw; go_simp; first | done | with_reducible rfl)
  try simp only [Act.put, List.getElem_toArray, List.getElem_cons_zero, List.getElem_cons_succ, List.setIfInBounds_toArray, List.set_cons_zero, List.set_cons_succ]
  refine wpAnyH_take (i := 15) (v := ?v15) rfl (by kernel_rfl) (by kernel_rfl) (by kernel_rfl) (fun _ _ _ h => h) (Or.inl ⟨by rfl, ?hy15⟩) hS ?rest15
  case hy15 => (intro w hSw; go_simp; first | done | with_reducible rfl)
  try simp only [Act.put, List.getElem_toArray, List.getElem_cons_zero, List.getElem_cons_succ, List.setIfInBounds_toArray, List.set_cons_zero, List.set_cons_succ]
  refine wpAnyH_take (i := 17) (v := ?v17) rfl (by kernel_rfl) (by kernel_rfl) (by kernel_rfl) (fun _ _ _ h => h) (Or.inl ⟨by rfl, ?hy17⟩) hS ?rest17
  case hy17 => (intro w hSw; go_simp; first | done | with_reducible rfl)
  try simp only [Act.put, List.getElem_toArray, List.getElem_cons_zero, List.getElem_cons_succ, List.setIfInBounds_toArray, List.set_cons_zero, List.set_cons_succ]
  refine wpAnyH_ready (rs := [16]) (by kernel_rfl) (by simp) ?_
  refine AllReadyH.cons rfl (fun K hK => ?_) AllReadyH.nil
  go_simp
  refine (rflag_good g A6 _ c6 _ L _ r2 qr (by omega) (by omega) yes i3 hx4 (by omega)).mono ?_
  rintro r u3 ⟨rfl, r3, p3⟩
  replace qs := qs.only r2 p3
  go_wp2_with fail
  refine hK.out _ _ p3 ?_
  intro hS
  clear hK K
  try simp only [Act.put, List.getElem_toArray, List.getElem_cons_zero, List.getElem_cons_succ, List.setIfInBounds_toArray, List.set_cons_zero, List.set_cons_succ]
  refine wpAnyH_strong (S2 := fun w' => u3.grownBy w' (some g)) (fun w' (h' : u3.grownBy w' (some g)) => grown_trans' p3 h') _ _ _ _ ?_
  clear hS
  have hS : u3.grownBy u3 (some g) := still_grown (Still.refl _) _
  refine wpAnyH_take (i := 18) (v := ?v18) rfl (by kernel_rfl) (by kernel_rfl) (by kernel_rfl) (fun _ _ _ h => h) (Or.inl ⟨by rfl, ?hy18⟩) hS ?rest18
  case hy18 => (intro w hSw; go_simp; first | done | with_reducible rfl)
  try simp only [Act.put, List.getElem_toArray, List.getElem_cons_zero, List.getElem_cons_succ, List.setIfInBounds_toArray, List.set_cons_zero, List.set_cons_succ]
  refine wpAnyH_take (i := 19) (v := ?v19) rfl (by kernel_rfl) (by kernel_rfl) (by kernel_rfl) (fun _ _ _ h => h) (Or.inl ⟨by rfl, ?hy19⟩) hS ?rest19
  case hy19 => (intro w hSw; go_simp; first | done | with_reducible rfl)
  try simp only [Act.put, List.getElem_toArray, List.getElem_cons_zero, List.getElem_cons_succ, List.setIfInBounds_toArray, List.set_cons_zero, List.set_cons_succ]
  refine wpAnyH_take (i := 20) (v := ?v20) rfl (by kernel_rfl) (by kernel_rfl) (by kernel_rfl) (fun _ _ _ h => h) (Or.inl ⟨by rfl, ?hy20⟩) hS ?rest20
  case hy20 => (intro w hSw; go_simp; first | done | with_reducible rfl)
  try simp only [Act.put, List.getElem_toArray, List.getElem_cons_zero, List.getElem_cons_succ, List.setIfInBounds_toArray, List.set_cons_zero, List.set_cons_succ]
  refine wpAnyH_take (i := 21) (v := ?v21) rfl (by kernel_rfl) (by kernel_rfl) (by kernel_rfl) (fun _ _ _ h => h) (Or.inl ⟨by rfl, ?hy21⟩) hS ?rest21
  case hy21 => (intro w hSw; go_simp; first | done | with_reducible rfl)
  try simp only [Act.put, List.getElem_toArray, List.getElem_cons_zero, List.getElem_cons_succ, List.setIfInBounds_toArray, List.set_cons_zero, List.set_cons_succ]
  refine wpAnyH_ready (rs := [22]) (by kernel_rfl) (by simp) ?_
  refine AllReadyH.cons rfl (fun K hK => ?_) AllReadyH.nil
  go_simp
  refine (err_any g A6 _ c6 _ 0 _ r3).mono ?_
  rintro r u4 ⟨rfl, rfl⟩
  have p4 : u3.grownBy u3 (some g) := still_grown (Still.refl _) _
  go_wp2_with fail
  refine hK.out _ _ p4 ?_
  intro hS
  clear hK K
  try simp only [Act.put, List.getElem_toArray, List.getElem_cons_zero, List.getElem_cons_succ, List.setIfInBounds_toArray, List.set_cons_zero, List.set_cons_succ]
  refine wpAnyH_strong (S2 := fun w' => u3.grownBy w' (some g)) (fun w' (h' : u3.grownBy w' (some g)) => grown_trans' p4 h') _ _ _ _ ?_
  clear hS
  have hS : u3.grownBy u3 (some g) := still_grown (Still.refl _) _
  refine wpAnyH_take (i := 23) (v := ?v23) rfl (by kernel_rfl) (by kernel_rfl) (by kernel_rfl) (fun _ _ _ h => h) (Or.inl ⟨by rfl, ?hy23⟩) hS ?rest23
  case hy23 => (intro w hSw; go_simp; first | done | with_reducible rfl)
  try simp only [Act.put, List.getElem_toArray, List.getElem_cons_zero, List.getElem_cons_succ, List.setIfInBounds_toArray, List.set_cons_zero, List.set_cons_succ]
  refine wpAnyH_take (i := 24) (v := ?v24) rfl (by kernel_rfl) (by kernel_rfl) (by kernel_rfl) (fun _ _ _ h => h) (Or.inl ⟨by rfl, ?hy24⟩) hS ?rest24
  case hy24 => (intro w hSw; go_simp; first | done | with_reducible rfl)
  try simp only [Act.put, List.getElem_toArray, List.getElem_cons_zero, List.getElem_cons_succ, List.setIfInBounds_toArray, List.set_cons_zero, List.set_cons_succ]
  refine wpAnyH_take (i := 25) (v := ?v25) rfl (by kernel_rfl) (by kernel_rfl) (by kernel_rfl) (fun _ _ _ h => h) (Or.inl ⟨by rfl, ?hy25⟩) hS ?rest25
  case hy25 => (intro w hSw; go_simp; first | done | with_reducible rfl)
  try simp only [Act.put, List.getElem_toArray, List.getElem_cons_zero, List.getElem_cons_succ, List.setIfInBounds_toArray, List.set_cons_zero, List.set_cons_succ]
  refine wpAnyH_take (i := 26) (v := ?v26) rfl (by kernel_rfl) (by kernel_rfl) (by kernel_rfl) (fun _ _ _ h => h) (Or.inl ⟨by rfl, ?hy26⟩) hS ?rest26
  case hy26 => (intro w hSw; go_simp; first | done | with_reducible rfl)
  try simp only [Act.put, List.getElem_toArray, List.getElem_cons_zero, List.getElem_cons_succ, List.setIfInBounds_toArray, List.set_cons_zero, List.set_cons_succ]
  refine wpAnyH_take (i := 28) (v := ?v28) rfl (by kernel_rfl) (by kernel_rfl) (by kernel_rfl) (fun _ _ _ h => h) (Or.inl ⟨by rfl, ?hy28⟩) hS ?rest28
  case hy28 => (intro w hSw; go_simp; first | done | with_reducible rfl)
  try simp only [Act.put, List.getElem_toArray, List.getElem_cons_zero, List.getElem_cons_succ, List.setIfInBounds_toArray, List.set_cons_zero, List.set_cons_succ]
  refine wpAnyH_take (i := 29) (v := ?v29) rfl (by kernel_rfl) (by kernel_rfl) (by kernel_rfl) (fun _ _ _ h => h) (Or.inl ⟨by rfl, ?hy29⟩) hS ?rest29
  case hy29 => (intro w hSw; go_simp; first | done | with_reducible rfl)
  try simp only [Act.put, List.getElem_toArray, List.getElem_cons_zero, List.getElem_cons_succ, List.setIfInBounds_toArray, List.set_cons_zero, List.set_cons_succ]
  refine wpAnyH_ready (rs := [27]) (by kernel_rfl) (by simp) ?_
  refine AllReadyH.cons rfl (fun K hK => ?_) AllReadyH.nil
  go_simp
  refine (Left_any g A6 _ c6 _ 0 _ r3 (by omega) (by omega)).mono ?_
  rintro r u5 ⟨rfl, s5⟩
  have p5 : u3.grownBy u5 (some g) := still_grown s5 _
  rw [hq2]
  go_wp2_with fail
  refine hK.out _ _ p5 ?_
  intro hS
  clear hK K
  try simp only [Act.put, List.getElem_toArray, List.getElem_cons_zero, List.getElem_cons_succ, List.setIfInBounds_toArray, List.set_cons_zero, List.set_cons_succ]
  refine wpAnyH_strong (S2 := fun w' => u5.grownBy w' (some g)) (fun w' (h' : u5.grownBy w' (some g)) => grown_trans' p5 h') _ _ _ _ ?_
  clear hS
  have hS : u5.grownBy u5 (some g) := still_grown (Still.refl _) _
  refine wpAnyH_take (i := 30) (v := ?v30) rfl (by kernel_rfl) (by kernel_rfl) (by kernel_rfl) (fun _ _ _ h => h) (Or.inl ⟨by rfl, ?hy30⟩) hS ?rest30
  case hy30 => (intro w hSw; go_simp; first | done | with_reducible rfl)
  try simp only [Act.put, List.getElem_toArray, List.getElem_cons_zero, List.getElem_cons_succ, List.setIfInBounds_toArray, List.set_cons_zero, List.set_cons_succ]
  refine wpAnyH_take (i := 31) (v := ?v31) rfl (by kernel_rfl) (by kernel_rfl) (by kernel_rfl) (fun _ _ _ h => h) (Or.inl ⟨by rfl, ?hy31⟩) hS ?rest31
  case hy31 => (intro w hSw; go_simp; first | done | with_reducible rfl)
  try simp only [Act.put, List.getElem_toArray, List.getElem_cons_zero, List.getElem_cons_succ, List.setIfInBounds_toArray, List.set_cons_zero, List.set_cons_succ]
  refine wpAnyH_take (i := 32) (v := ?v32) rfl (by kernel_rfl) (by kernel_rfl) (by kernel_rfl) (fun _ _ _ h => h) (Or.inl ⟨by rfl, ?hy32⟩) hS ?rest32
  case hy32 => (intro w hSw; go_simp; first | done | with_reducible rfl)
  try simp only [Act.put, List.getElem_toArray, List.getElem_cons_zero, List.getElem_cons_succ, List.setIfInBounds_toArray, List.set_cons_zero, List.set_cons_succ]
  refine wpAnyH_ready (rs := [33]) (by kernel_rfl) (by simp) ?_
  refine AllReadyH.cons rfl (fun K hK => ?_) AllReadyH.nil
  go_simp
  refine (awake_any _).mono ?_
  rintro r u6 ⟨rfl, b6⟩
  have p6 : u5.grownBy u6 (some g) := below_grown' b6 _
  go_wp2_with fail
  refine hK.out _ _ p6 ?_
  intro hS
  clear hK K
  try simp only [Act.put, List.getElem_toArray, List.getElem_cons_zero, List.getElem_cons_succ, List.setIfInBounds_toArray, List.set_cons_zero, List.set_cons_succ]
  refine wpAnyH_take (i := 34) (v := ?v34) rfl (by kernel_rfl) (by kernel_rfl) (by kernel_rfl) (fun _ _ _ h => h) (Or.inl ⟨by rfl, ?hy34⟩) hS ?rest34
  case hy34 => (intro w hSw; go_simp; first | done | with_reducible rfl)
  try simp only [Act.put, List.getElem_toArray, List.getElem_cons_zero, List.getElem_cons_succ, List.setIfInBounds_toArray, List.set_cons_zero, List.set_cons_succ]
  refine wpAnyH_take (i := 35) (v := ?v35) rfl (by kernel_rfl) (by kernel_rfl) (by kernel_rfl) (fun _ _ _ h => h) (Or.inl ⟨by rfl, ?hy35⟩) hS ?rest35
  case hy35 => (intro w hSw; go_simp; first | done | with_reducible rfl)
  try simp only [Act.put, List.getElem_toArray, List.getElem_cons_zero, List.getElem_cons_succ, List.setIfInBounds_toArray, List.set_cons_zero, List.set_cons_succ]
  refine wpAnyH_done (by kernel_rfl) (NoPanic.normal ?_) _
  go_wp2_with fail
  go_ret
  have hBd := hB6.trans (hd.mono hB6.size)
  have hP := grown_trans' (grown_trans' (grown_trans' p1 p2) p3) (grown_trans' p5 p6)
  exact ⟨rfl, grown_below hBd hP hgw hBd.size⟩
set_option maxHeartbeats 8000000 in
theorem wireBack_mid (m : Nat) (A : Option Addr) (n c : Nat) (l : List UInt8) (A' : Option Addr) (n' c' : Nat) (l' : List UInt8) (yes : Bool) (w : World) (hm0 : m ≤ 1099511627776) (hr : Rd w w.heap.size 1 A n (l.map B8)) (hn : n ≤ 1048576) (hr' : Rd w w.heap.size 1 A' n' (l'.map B8)) (hn' : n' ≤ 1048576) :
    Calls Try.prog 6 #[.int .i64 ((m : Nat) : Int), .slice A n c, .slice A' n' c', .bool yes] w fun r w' => r = .returned (.bool true) ∧ Below w.heap.size w w' := by
  obtain rfl : l.length = n := by simpa using hr.len
  obtain rfl : l'.length = n' := by simpa using hr'.len
  have hlx := numL_len ((m : Nat) : Int)
  have hll := numL_len l.length
  have hlf := flL_len yes
  have Htl := Lib.hid (show (textL l).length = (numL l.length).length + l.length by unfold textL; rw [List.length_append])
  have htl2 : (textL l).length ≤ l.length + 6 := by have := Htl.out; omega
  have hbig : ¬ (1099511627776 : Int) < (l.length : Int) := by omega
  go_enter Try.func6, Try.ntmps6
  go_wp2_with fail
  refine (number_any none 0 0 [] ((m : Nat) : Int) _ (Rd.nil _ _ _ _) (by simp)).mono ?_
  rintro r w1 ⟨B1, d1, rfl, h1, hb1⟩
  rw [List.nil_append] at h1
  go_wp2_with fail
  refine (own_any A _ c l _ (hr.to hb1) (by omega)).mono ?_
  rintro r w2 ⟨B2, d2, rfl, h2, hb2⟩
  go_wp2_with fail
  refine (text_any B1 _ d1 (numL ((m : Nat) : Int)) B2 _ d2 l _ (Rd.of_own (own_to h1 hb2)) (Rd.of_own h2) (by omega)).mono ?_
  rintro r w3 ⟨B3, d3, rfl, h3, hb3⟩
  have he3 : (numL ((m : Nat) : Int) ++ textL l).length = (numL ((m : Nat) : Int)).length + (textL l).length := List.length_append
  rw [he3] at h3
  go_wp2_with fail
  refine (flag_put B3 _ d3 (numL ((m : Nat) : Int) ++ textL l) yes _ (by rw [← he3] at h3; rw [← he3]; exact Rd.of_own h3) (by omega)).mono ?_
  rintro r w4 ⟨B4, d4, rfl, h4, hb4⟩
  have he4 : (numL ((m : Nat) : Int) ++ textL l ++ flL yes).length = (numL ((m : Nat) : Int)).length + ((textL l).length + (flL yes).length) := by rw [List.length_append, he3, Nat.add_assoc]
  rw [he4] at h4
  have hB2 := hb1.trans (hb2.mono hb1.size)
  have hB3 := hB2.trans (hb3.mono hB2.size)
  have hB4 := hB3.trans (hb4.mono hB3.size)
  have hra4 := hr'.to hB4
  have hs3 := hb3.size
  have hs4 := hb4.size
  have hsB := hB3.size
  go_wp2_with (first
    | (at_builtin
       refine wpList_app rfl (.tmp 18) (.tmp 19) _ rfl w3.heap.size 5 1 1 _ Try.underlying22 info8 rfl (by omega) _ _ _ rfl h4 w4.heap.size A' _ c' _ rfl hra4 (B8_one _) (by simp only [maxLen]; omega) (by omega) hs4 ?_
       intro B5 d5 w5 h5 hg5 _
       have hb5 : Below w.heap.size w w5 := hB4.grown hg5 hB4.size (fun k hk => Nat.le_trans hsB (h4.lt k hk).1)))
  rw [← List.map_append] at h5
  obtain ⟨L, hL⟩ : ∃ L, L = numL ((m : Nat) : Int) ++ textL l ++ flL yes ++ l' := ⟨_, rfl⟩
  rw [← hL] at h5
  obtain ⟨q, hq⟩ : ∃ q, q = (numL ((m : Nat) : Int)).length + ((textL l).length + (flL yes).length) + l'.length := ⟨_, rfl⟩
  rw [← hq] at h5 ⊢
  have hLq : L.length = q := by rw [hL, hq, List.length_append, he4]
  refine (read_any B5 q d5 L _ (Rd.of_own h5) (by omega)).mono ?_
  rintro r w6 ⟨g, A6, c6, rfl, hg, hR6, hr6, hb6, hc6⟩
  have hB6 := hb5.trans (hb6.mono hb5.size)
  have qs := hr.to hB6
  have hgw : w.heap.size ≤ g := Nat.le_trans hb5.size hg
  have hx1 : nxt (L.drop 0) 0 0 = (clampN ((m : Nat) : Int), (numL ((m : Nat) : Int)).length, 0) := by rw [List.drop_zero, hL, List.append_assoc, List.append_assoc]; exact nxt_num ((m : Nat) : Int) _
  have hx2 : nxt (L.drop (numL ((m : Nat) : Int)).length) 0 0 = (l.length, (numL l.length).length, 0) := by
    rw [hL, List.append_assoc, List.append_assoc, List.drop_left]
    unfold textL
    rw [List.append_assoc]
    have := nxt_num (l.length : Nat) (l ++ (flL yes ++ l'))
    rwa [clampN_nat _ (by omega)] at this
  have hx3 : (L.drop ((numL ((m : Nat) : Int)).length + (numL l.length).length)).take l.length = l := by
    rw [hL, List.append_assoc, List.append_assoc, ← List.drop_drop, List.drop_left]
    unfold textL
    rw [List.append_assoc, List.drop_left, List.take_left]
  have hx4 : nxt (L.drop ((numL ((m : Nat) : Int)).length + (numL l.length).length + l.length)) 0 0 = ((if yes then 1 else 0), (flL yes).length, 0) := by
    have e : (numL ((m : Nat) : Int)).length + (numL l.length).length + l.length = (numL ((m : Nat) : Int) ++ textL l).length := by rw [he3, Htl.out]; omega
    rw [e, hL, List.append_assoc (numL ((m : Nat) : Int) ++ textL l), List.drop_left]
    exact nxt_flag yes l'
  have htl := Htl.out
  have hq2 : (q : Int) - (((numL ((m : Nat) : Int)).length + (numL l.length).length + l.length + (flL yes).length : Nat) : Int) = (l'.length : Int) := by omega
  clear hL he3 he4
  rw [clampN_nat m hm0] at hx1
  generalize (numL ((m : Nat) : Int)).length = i1 at *
  generalize (numL ((l.length : Nat) : Int)).length = i2 at *
  generalize (flL yes).length = i3 at *
  go_wp2_with fail
  have hd : Below w6.heap.size w6 w6.drew := (Still.refl w6).drew.below _
  have hRd := hR6.to hd
  have hrd := hr6.to hd
  replace qs := qs.to hd
  refine wp_region_noPanic ?_
  refine wp_region_held_drew (S := fun w' => (w6.drew).grownBy w' (some g)) (by kernel_rfl) (still_grown (Still.refl _) _) (fun hS => ?_)
  refine wpAnyH_take (i := 0) (v := ?v0) rfl (by kernel_rfl) (by kernel_rfl) (by kernel_rfl) (fun _ _ _ h => h) (Or.inl ⟨by rfl, ?hy0⟩) hS ?rest0
  case hy0 => (intro w hSw; go_simp; first | done | with_reducible rfl)
  try simp only [Act.put, List.getElem_toArray, List.getElem_cons_zero, List.getElem_cons_succ, List.setIfInBounds_toArray, List.set_cons_zero, List.set_cons_succ]
  refine wpAnyH_take (i := 2) (v := ?v2) rfl (by kernel_rfl) (by kernel_rfl) (by kernel_rfl) (fun _ _ _ h => h) (Or.inl ⟨by rfl, ?hy2⟩) hS ?rest2
  case hy2 => (intro w hSw; go_simp; first | done | with_reducible rfl)
  try simp only [Act.put, List.getElem_toArray, List.getElem_cons_zero, List.getElem_cons_succ, List.setIfInBounds_toArray, List.set_cons_zero, List.set_cons_succ]
  refine wpAnyH_ready (rs := [1]) (by kernel_rfl) (by simp) ?_
  refine AllReadyH.cons rfl (fun K hK => ?_) AllReadyH.nil
  go_simp
  refine (number_good g A6 _ c6 0 L 0 1099511627776 _ hRd hrd (by omega) (by omega) m i1 hx1 (by omega) (by omega) (by omega)).mono ?_
  rintro r u1 ⟨rfl, r1, p1⟩
  rw [Nat.zero_add] at r1
  replace qs := qs.only hRd p1
  have qr := hrd.only hRd p1
  go_wp2_with fail
  refine hK.out _ _ p1 ?_
  intro hS
  clear hK K
  try simp only [Act.put, List.getElem_toArray, List.getElem_cons_zero, List.getElem_cons_succ, List.setIfInBounds_toArray, List.set_cons_zero, List.set_cons_succ]
  refine wpAnyH_strong (S2 := fun w' => u1.grownBy w' (some g)) (fun w' (h' : u1.grownBy w' (some g)) => grown_trans' p1 h') _ _ _ _ ?_
  clear hS
  have hS : u1.grownBy u1 (some g) := still_grown (Still.refl _) _
  refine wpAnyH_take (i := 3) (v := ?v3) rfl (by kernel_rfl) (by kernel_rfl) (by kernel_rfl) (fun _ _ _ h => h) (Or.inl ⟨by rfl, ?hy3⟩) hS ?rest3
  case hy3 => (intro w hSw; go_simp; first | done | with_reducible rfl)
  try simp only [Act.put, List.getElem_toArray, List.getElem_cons_zero, List.getElem_cons_succ, List.setIfInBounds_toArray, List.set_cons_zero, List.set_cons_succ]
  refine wpAnyH_take (i := 4) (v := ?v4) rfl (by kernel_rfl) (by kernel_rfl) (by kernel_rfl) (fun _ _ _ h => h) (Or.inl ⟨by rfl, ?hy4⟩) hS ?rest4
  case hy4 => (intro w hSw; go_simp; first | done | with_reducible rfl)
  try simp only [Act.put, List.getElem_toArray, List.getElem_cons_zero, List.getElem_cons_succ, List.setIfInBounds_toArray, List.set_cons_zero, List.set_cons_succ]
  refine wpAnyH_take (i := 5) (v := ?v5) rfl (by kernel_rfl) (by kernel_rfl) (by kernel_rfl) (fun _ _ _ h => h) (Or.inl ⟨by rfl, ?hy5⟩) hS ?rest5
  case hy5 => (intro w hSw; go_simp; first | done | with_reducible rfl)
  try simp only [Act.put, List.getElem_toArray, List.getElem_cons_zero, List.getElem_cons_succ, List.setIfInBounds_toArray, List.set_cons_zero, List.set_cons_succ]
  refine wpAnyH_take (i := 6) (v := ?v6) rfl (by kernel_rfl) (by kernel_rfl) (by kernel_rfl) (fun _ _ _ h => h) (Or.inl ⟨by rfl, ?hy6⟩) hS ?rest6
  case hy6 => (intro w hSw; go_simp; first | done | with_reducible rfl)
  try simp only [Act.put, List.getElem_toArray, List.getElem_cons_zero, List.getElem_cons_succ, List.setIfInBounds_toArray, List.set_cons_zero, List.set_cons_succ]
  refine wpAnyH_take (i := 7) (v := ?v7) rfl (by kernel_rfl) (by kernel_rfl) (by kernel_rfl) (fun _ _ _ h => h) (Or.inl ⟨by rfl, ?hy7⟩) hS ?rest7
  case hy7 => (intro w hSw; go_simp; first | done | with_reducible rfl)
  try simp only [Act.put, List.getElem_toArray, List.getElem_cons_zero, List.getElem_cons_succ, List.setIfInBounds_toArray, List.set_cons_zero, List.set_cons_succ]
  refine wpAnyH_take (i := 10) (v := ?v10) rfl (by kernel_rfl) (by kernel_rfl) (by kernel_rfl) (fun _ _ _ h => h) (Or.inl ⟨by rfl, ?hy10⟩) hS ?rest10
  case hy10 => (intro w hSw; go_simp; first | done | with_reducible rfl)
  try simp only [Act.put, List.getElem_toArray, List.getElem_cons_zero, List.getElem_cons_succ, List.setIfInBounds_toArray, List.set_cons_zero, List.set_cons_succ]
  refine wpAnyH_take (i := 11) (v := ?v11) rfl (by kernel_rfl) (by kernel_rfl) (by kernel_rfl) (fun _ _ _ h => h) (Or.inl ⟨by rfl, ?hy11⟩) hS ?rest11
  case hy11 => (intro w hSw; have hcv := conv8 w A _ c _ (qs.only r1 hSw); go_simp; first | done | with_reducible rfl)
  try simp only [Act.put, List.getElem_toArray, List.getElem_cons_zero, List.getElem_cons_succ, List.setIfInBounds_toArray, List.set_cons_zero, List.set_cons_succ]
  refine wpAnyH_ready (rs := [8]) (by kernel_rfl) (by simp) ?_
  refine AllReadyH.cons rfl (fun K hK => ?_) AllReadyH.nil
  go_simp
  refine (text_good g A6 _ c6 i1 L (l.length : Nat) _ r1 qr (by omega) hc6 (by omega) l.length i2 hx2 (by omega) (by omega) (by omega)).mono ?_
  rintro r u2 ⟨B7, d7, rfl, t2, r2, p2⟩
  rw [hx3] at t2
  replace qs := qs.only r1 p2
  replace qr := qr.only r1 p2
  go_wp2_with fail
  refine hK.out _ _ p2 ?_
  intro hS
  clear hK K
  try simp only [Act.put, List.getElem_toArray, List.getElem_cons_zero, List.getElem_cons_succ, List.setIfInBounds_toArray, List.set_cons_zero, List.set_cons_succ]
  refine wpAnyH_strong (S2 := fun w' => u2.grownBy w' (some g)) (fun w' (h' : u2.grownBy w' (some g)) => grown_trans' p2 h') _ _ _ _ ?_
  clear hS
  have hS : u2.grownBy u2 (some g) := still_grown (Still.refl _) _
  refine wpAnyH_take (i := 9) (v := ?v9) rfl (by kernel_rfl) (by kernel_rfl) (by kernel_rfl) (fun _ _ _ h => h) (Or.inl ⟨by rfl, ?hy9⟩) hS ?rest9
  case hy9 => (intro w hSw; have hcv := conv8 w B7 _ d7 _ (t2.only r2 hSw); go_simp; first | done | with_reducible rfl)
  try simp only [Act.put, List.getElem_toArray, List.getElem_cons_zero, List.getElem_cons_succ, List.setIfInBounds_toArray, List.set_cons_zero, List.set_cons_succ]
  refine wpAnyH_take (i := 12) (v := ?v12) rfl (by kernel_rfl) (by kernel_rfl) (by kernel_rfl) (fun _ _ _ h => h) (Or.inl ⟨by rfl, ?hy12⟩) hS ?rest12
  case hy12 => (intro w hSw; go_simp; first | done | with_reducible rfl)
  try simp only [Act.put, List.getElem_toArray, List.getElem_cons_zero, List.getElem_cons_succ, List.setIfInBounds_toArray, List.set_cons_zero, List.set_cons_succ]
  refine wpAnyH_take (i := 13) (v := ?v13) rfl (by kernel_rfl) (by kernel_rfl) (by kernel_rfl) (fun _ _ _ h => h) (Or.inl ⟨by rfl, ?hy13⟩) hS ?rest13
  case hy13 => (intro w hSw; go_simp; first | done | with_reducible rfl)
  try simp only [Act.put, List.getElem_toArray, List.getElem_cons_zero, List.getElem_cons_succ, List.setIfInBounds_toArray, List.set_cons_zero, List.set_cons_succ]
  refine wpAnyH_take (i := 14) (v := ?v14) rfl (by kernel_rfl) (by kernel_rfl) (by kernel_rfl) (fun _ _ _ h => h) (Or.inl ⟨by rfl, ?hy14⟩) hS ?rest14
  case hy14 => (intro w hSw; go_simp; first | done | with_reducible rfl)
  try simp only [Act.put, List.getElem_toArray, List.getElem_cons_zero, List.getElem_cons_succ, List.setIfInBounds_toArray, List.set_cons_zero, List.set_cons_succ]
  refine wpAnyH_take (i := 15) (v := ?v15) rfl (by kernel_rfl) (by kernel_rfl) (by kernel_rfl) (fun _ _ _ h => h) (Or.inl ⟨by rfl, ?hy15⟩) hS ?rest15
  case hy15 => (intro w hSw; go_simp; first | done | with_reducible rfl)
  try simp only [Act.put, List.getElem_toArray, List.getElem_cons_zero, List.getElem_cons_succ, List.setIfInBounds_toArray, List.set_cons_zero, List.set_cons_succ]
  refine wpAnyH_take (i := 17) (v := ?v17) rfl (by kernel_rfl) (by kernel_rfl) (by kernel_rfl) (fun _ _ _ h => h) (Or.inl ⟨by rfl, ?hy17⟩) hS ?rest17
  case hy17 => (intro w hSw; go_simp; first | done | with_reducible rfl)
  try simp only [Act.put, List.getElem_toArray, List.getElem_cons_zero, List.getElem_cons_succ, List.setIfInBounds_toArray, List.set_cons_zero, List.set_cons_succ]
  refine wpAnyH_ready (rs := [16]) (by kernel_rfl) (by simp) ?_
  refine AllReadyH.cons rfl (fun K hK => ?_) AllReadyH.nil
  go_simp
  refine (rflag_good g A6 _ c6 _ L _ r2 qr (by omega) (by omega) yes i3 hx4 (by omega)).mono ?_
  rintro r u3 ⟨rfl, r3, p3⟩
  replace qs := qs.only r2 p3
  go_wp2_with fail
  refine hK.out _ _ p3 ?_
  intro hS
  clear hK K
  try simp only [Act.put, List.getElem_toArray, List.getElem_cons_zero, List.getElem_cons_succ, List.setIfInBounds_toArray, List.set_cons_zero, List.set_cons_succ]
  refine wpAnyH_strong (S2 := fun w' => u3.grownBy w' (some g)) (fun w' (h' : u3.grownBy w' (some g)) => grown_trans' p3 h') _ _ _ _ ?_
  clear hS
  have hS : u3.grownBy u3 (some g) := still_grown (Still.refl _) _
  refine wpAnyH_take (i := 18) (v := ?v18) rfl (by kernel_rfl) (by kernel_rfl) (by kernel_rfl) (fun _ _ _ h => h) (Or.inl ⟨by rfl, ?hy18⟩) hS ?rest18
  case hy18 => (intro w hSw; go_simp; first | done | with_reducible rfl)
  try simp only [Act.put, List.getElem_toArray, List.getElem_cons_zero, List.getElem_cons_succ, List.setIfInBounds_toArray, List.set_cons_zero, List.set_cons_succ]
  refine wpAnyH_take (i := 19) (v := ?v19) rfl (by kernel_rfl) (by kernel_rfl) (by kernel_rfl) (fun _ _ _ h => h) (Or.inl ⟨by rfl, ?hy19⟩) hS ?rest19
  case hy19 => (intro w hSw; go_simp; first | done | with_reducible rfl)
  try simp only [Act.put, List.getElem_toArray, List.getElem_cons_zero, List.getElem_cons_succ, List.setIfInBounds_toArray, List.set_cons_zero, List.set_cons_succ]
  refine wpAnyH_take (i := 20) (v := ?v20) rfl (by kernel_rfl) (by kernel_rfl) (by kernel_rfl) (fun _ _ _ h => h) (Or.inl ⟨by rfl, ?hy20⟩) hS ?rest20
  case hy20 => (intro w hSw; go_simp; first | done | with_reducible rfl)
  try simp only [Act.put, List.getElem_toArray, List.getElem_cons_zero, List.getElem_cons_succ, List.setIfInBounds_toArray, List.set_cons_zero, List.set_cons_succ]
  refine wpAnyH_take (i := 21) (v := ?v21) rfl (by kernel_rfl) (by kernel_rfl) (by kernel_rfl) (fun _ _ _ h => h) (Or.inl ⟨by rfl, ?hy21⟩) hS ?rest21
  case hy21 => (intro w hSw; go_simp; first | done | with_reducible rfl)
  try simp only [Act.put, List.getElem_toArray, List.getElem_cons_zero, List.getElem_cons_succ, List.setIfInBounds_toArray, List.set_cons_zero, List.set_cons_succ]
  refine wpAnyH_ready (rs := [22]) (by kernel_rfl) (by simp) ?_
  refine AllReadyH.cons rfl (fun K hK => ?_) AllReadyH.nil
  go_simp
  refine (err_any g A6 _ c6 _ 0 _ r3).mono ?_
  rintro r u4 ⟨rfl, rfl⟩
  have p4 : u3.grownBy u3 (some g) := still_grown (Still.refl _) _
  go_wp2_with fail
  refine hK.out _ _ p4 ?_
  intro hS
  clear hK K
  try simp only [Act.put, List.getElem_toArray, List.getElem_cons_zero, List.getElem_cons_succ, List.setIfInBounds_toArray, List.set_cons_zero, List.set_cons_succ]
  refine wpAnyH_strong (S2 := fun w' => u3.grownBy w' (some g)) (fun w' (h' : u3.grownBy w' (some g)) => grown_trans' p4 h') _ _ _ _ ?_
  clear hS
  have hS : u3.grownBy u3 (some g) := still_grown (Still.refl _) _
  refine wpAnyH_take (i := 23) (v := ?v23) rfl (by kernel_rfl) (by kernel_rfl) (by kernel_rfl) (fun _ _ _ h => h) (Or.inl ⟨by rfl, ?hy23⟩) hS ?rest23
  case hy23 => (intro w hSw; go_simp; first | done | with_reducible rfl)
  try simp only [Act.put, List.getElem_toArray, List.getElem_cons_zero, List.getElem_cons_succ, List.setIfInBounds_toArray, List.set_cons_zero, List.set_cons_succ]
  refine wpAnyH_take (i := 24) (v := ?v24) rfl (by kernel_rfl) (by kernel_rfl) (by kernel_rfl) (fun _ _ _ h => h) (Or.inl ⟨by rfl, ?hy24⟩) hS ?rest24
  case hy24 => (intro w hSw; go_simp; first | done | with_reducible rfl)
  try simp only [Act.put, List.getElem_toArray, List.getElem_cons_zero, List.getElem_cons_succ, List.setIfInBounds_toArray, List.set_cons_zero, List.set_cons_succ]
  refine wpAnyH_take (i := 25) (v := ?v25) rfl (by kernel_rfl) (by kernel_rfl) (by kernel_rfl) (fun _ _ _ h => h) (Or.inl ⟨by rfl, ?hy25⟩) hS ?rest25
  case hy25 => (intro w hSw; go_simp; first | done | with_reducible rfl)
  try simp only [Act.put, List.getElem_toArray, List.getElem_cons_zero, List.getElem_cons_succ, List.setIfInBounds_toArray, List.set_cons_zero, List.set_cons_succ]
  refine wpAnyH_take (i := 26) (v := ?v26) rfl (by kernel_rfl) (by kernel_rfl) (by kernel_rfl) (fun _ _ _ h => h) (Or.inl ⟨by rfl, ?hy26⟩) hS ?rest26
  case hy26 => (intro w hSw; go_simp; first | done | with_reducible rfl)
  try simp only [Act.put, List.getElem_toArray, List.getElem_cons_zero, List.getElem_cons_succ, List.setIfInBounds_toArray, List.set_cons_zero, List.set_cons_succ]
  refine wpAnyH_take (i := 28) (v := ?v28) rfl (by kernel_rfl) (by kernel_rfl) (by kernel_rfl) (fun _ _ _ h => h) (Or.inl ⟨by rfl, ?hy28⟩) hS ?rest28
  case hy28 => (intro w hSw; go_simp; first | done | with_reducible rfl)
  try simp only [Act.put, List.getElem_toArray, List.getElem_cons_zero, List.getElem_cons_succ, List.setIfInBounds_toArray, List.set_cons_zero, List.set_cons_succ]
  refine wpAnyH_take (i := 29) (v := ?v29) rfl (by kernel_rfl) (by kernel_rfl) (by kernel_rfl) (fun _ _ _ h => h) (Or.inl ⟨by rfl, ?hy29⟩) hS ?rest29
  case hy29 => (intro w hSw; go_simp; first | done | with_reducible rfl)
  try simp only [Act.put, List.getElem_toArray, List.getElem_cons_zero, List.getElem_cons_succ, List.setIfInBounds_toArray, List.set_cons_zero, List.set_cons_succ]
  refine wpAnyH_ready (rs := [27]) (by kernel_rfl) (by simp) ?_
  refine AllReadyH.cons rfl (fun K hK => ?_) AllReadyH.nil
  go_simp
  refine (Left_any g A6 _ c6 _ 0 _ r3 (by omega) (by omega)).mono ?_
  rintro r u5 ⟨rfl, s5⟩
  have p5 : u3.grownBy u5 (some g) := still_grown s5 _
  rw [hq2]
  go_wp2_with fail
  refine hK.out _ _ p5 ?_
  intro hS
  clear hK K
  try simp only [Act.put, List.getElem_toArray, List.getElem_cons_zero, List.getElem_cons_succ, List.setIfInBounds_toArray, List.set_cons_zero, List.set_cons_succ]
  refine wpAnyH_strong (S2 := fun w' => u5.grownBy w' (some g)) (fun w' (h' : u5.grownBy w' (some g)) => grown_trans' p5 h') _ _ _ _ ?_
  clear hS
  have hS : u5.grownBy u5 (some g) := still_grown (Still.refl _) _
  refine wpAnyH_take (i := 30) (v := ?v30) rfl (by kernel_rfl) (by kernel_rfl) (by kernel_rfl) (fun _ _ _ h => h) (Or.inl ⟨by rfl, ?hy30⟩) hS ?rest30
  case hy30 => (intro w hSw; go_simp; first | done | with_reducible rfl)
  try simp only [Act.put, List.getElem_toArray, List.getElem_cons_zero, List.getElem_cons_succ, List.setIfInBounds_toArray, List.set_cons_zero, List.set_cons_succ]
  refine wpAnyH_take (i := 31) (v := ?v31) rfl (by kernel_rfl) (by kernel_rfl) (by kernel_rfl) (fun _ _ _ h => h) (Or.inl ⟨by rfl, ?hy31⟩) hS ?rest31
  case hy31 => (intro w hSw; go_simp; first | done | with_reducible rfl)
  try simp only [Act.put, List.getElem_toArray, List.getElem_cons_zero, List.getElem_cons_succ, List.setIfInBounds_toArray, List.set_cons_zero, List.set_cons_succ]
  refine wpAnyH_take (i := 32) (v := ?v32) rfl (by kernel_rfl) (by kernel_rfl) (by kernel_rfl) (fun _ _ _ h => h) (Or.inl ⟨by rfl, ?hy32⟩) hS ?rest32
  case hy32 => (intro w hSw; go_simp; first | done | with_reducible rfl)
  try simp only [Act.put, List.getElem_toArray, List.getElem_cons_zero, List.getElem_cons_succ, List.setIfInBounds_toArray, List.set_cons_zero, List.set_cons_succ]
  refine wpAnyH_ready (rs := [33]) (by kernel_rfl) (by simp) ?_
  refine AllReadyH.cons rfl (fun K hK => ?_) AllReadyH.nil
  go_simp
  refine (awake_any _).mono ?_
  rintro r u6 ⟨rfl, b6⟩
  have p6 : u5.grownBy u6 (some g) := below_grown' b6 _
  go_wp2_with fail
  refine hK.out _ _ p6 ?_
  intro hS
  clear hK K
  try simp only [Act.put, List.getElem_toArray, List.getElem_cons_zero, List.getElem_cons_succ, List.setIfInBounds_toArray, List.set_cons_zero, List.set_cons_succ]
  refine wpAnyH_take (i := 34) (v := ?v34) rfl (by kernel_rfl) (by kernel_rfl) (by kernel_rfl) (fun _ _ _ h => h) (Or.inl ⟨by rfl, ?hy34⟩) hS ?rest34
  case hy34 => (intro w hSw; go_simp; first | done | with_reducible rfl)
  try simp only [Act.put, List.getElem_toArray, List.getElem_cons_zero, List.getElem_cons_succ, List.setIfInBounds_toArray, List.set_cons_zero, List.set_cons_succ]
  refine wpAnyH_take (i := 35) (v := ?v35) rfl (by kernel_rfl) (by kernel_rfl) (by kernel_rfl) (fun _ _ _ h => h) (Or.inl ⟨by rfl, ?hy35⟩) hS ?rest35
  case hy35 => (intro w hSw; go_simp; first | done | with_reducible rfl)
  try simp only [Act.put, List.getElem_toArray, List.getElem_cons_zero, List.getElem_cons_succ, List.setIfInBounds_toArray, List.set_cons_zero, List.set_cons_succ]
  refine wpAnyH_done (by kernel_rfl) (NoPanic.normal ?_) _
  go_wp2_with fail
  go_ret
  have hBd := hB6.trans (hd.mono hB6.size)
  have hP := grown_trans' (grown_trans' (grown_trans' p1 p2) p3) (grown_trans' p5 p6)
  exact ⟨rfl, grown_below hBd hP hgw hBd.size⟩
theorem wireBack_walk (x : Int) (A : Option Addr) (n c : Nat) (l : List UInt8) (A' : Option Addr) (n' c' : Nat) (l' : List UInt8) (yes : Bool) (w : World) (_ : (Lit.int .i64 x).wf = true) (hr : Rd w w.heap.size 1 A n (l.map B8)) (_ : n ≤ c) (hn : n ≤ 1048576) (hr' : Rd w w.heap.size 1 A' n' (l'.map B8)) (_ : n' ≤ c') (hn' : n' ≤ 1048576) :
    Calls Try.prog 6 #[.int .i64 x, .slice A n c, .slice A' n' c', .bool yes] w fun r w' => r = .returned (.bool true) ∧ Below w.heap.size w w' := by
  rcases clamp_at x with ⟨h0, _⟩ | ⟨h0, _⟩ | ⟨h0, h1, _⟩
  · exact wireBack_neg x A n c l A' n' c' l' yes w h0 hr hn hr' hn'
  · exact wireBack_far x A n c l A' n' c' l' yes w h0 hr hn hr' hn'
  · obtain ⟨m, rfl⟩ := Int.eq_ofNat_of_zero_le h0
    exact wireBack_mid m A n c l A' n' c' l' yes w (by omega) hr hn hr' hn'
end Go.Proofs.Ytfobjpngajhdkaa
