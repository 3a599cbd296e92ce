/- The law WireForm's walk. -/
import Derived.Test.YtfobjpngajhdkaaWirF
import Derived.Deep.DrawnRows
namespace Go.Proofs.Ytfobjpngajhdkaa
open Go.RowKit
attribute [local go_sem ↓] Go.wp_at_zero Go.wp_at_succ

theorem nxt_le {L : List UInt8} {x kk : Nat} (h : nxt L 0 0 = (x, kk, 0)) : kk ≤ L.length := by
  have h1 := (nxt_again L x kk h).1
  have h2 := (nxt_again L x kk h).2.1
  have h3 := congrArg List.length h1
  rw [List.length_take] at h3
  omega
theorem numL_of {L : List UInt8} {x kk : Nat} (h : nxt L 0 0 = (x, kk, 0)) : L.take kk = numL x ∧ kk = (numL x).length := by
  have h1 := nxt_again L x kk h
  have h2 : clampN x = x := by unfold clampN; omega
  unfold numL; rw [h2]
  exact ⟨h1.1, h1.2.1⟩
/-- Number, of any bytes: a fault, or the number. -/
theorem number_two (g : Nat) (A : Option Addr) (n c at_ : Nat) (l : List UInt8) (w : World) (h : Rdr w g A n c at_ 0) (hr : Rd w w.heap.size 1 A n (l.map B8)) (hn : n ≤ 140737488355322) (ha : at_ ≤ n) :
    Calls Try.prog 17 #[.pointer (some ⟨g, 0, none⟩), .int .i64 0, .int .i64 1099511627776] w fun r w' =>
      (∃ f : Int, (f == 0) = false ∧ r = .returned (.int .i64 0) ∧ Rdr w' g A n c at_ f ∧ w.grownBy w' (some g)) ∨
      (∃ x kk : Nat, nxt (l.drop at_) 0 0 = (x, kk, 0) ∧ at_ + kk ≤ n ∧ r = .returned (.int .i64 x) ∧ Rdr w' g A n c (at_ + kk) 0 ∧ w.grownBy w' (some g)) := by
  obtain ⟨x, kk, f, hx⟩ : ∃ x kk f, nxt (l.drop at_) 0 0 = (x, kk, f) := ⟨_, _, _, rfl⟩
  by_cases hf : f = 0
  · subst hf
    have hk := nxt_le hx
    have h3 := (nxt_again _ _ _ hx).2.2
    have hl := hr.len
    rw [List.length_map] at hl
    rw [List.length_drop] at hk
    exact (number_good g A n c at_ l 0 1099511627776 w h hr (by omega) ha x kk hx (by omega) (by omega) (by omega)).mono fun r w' ⟨e1, e2, e3⟩ => .inr ⟨x, kk, hx, by omega, e1, e2, e3⟩
  · have hf2 : (f == 0) = false := by rw [beq_eq_false_iff_ne]; exact hf
    exact (number_bad g A n c at_ l 0 1099511627776 w h hr (by omega) ha x kk f hx hf2).mono fun r w' ⟨e1, e2, e3⟩ => .inl ⟨f, hf2, e1, e2, e3⟩
/-- Text, of any bytes: a fault, or the text. -/
theorem text_two (g : Nat) (A : Option Addr) (n c at_ : Nat) (l : List UInt8) (most : Int) (w : World) (h : Rdr w g A n c at_ 0) (hr : Rd w w.heap.size 1 A n (l.map B8)) (hn : n ≤ 140737488355322) (hnc : n ≤ c) (ha : at_ ≤ n) (hm : 0 ≤ most) :
    Calls Try.prog 19 #[.pointer (some ⟨g, 0, none⟩), .int .i64 most] w fun r w' =>
      (∃ f : Int, (f == 0) = false ∧ r = .returned (.slice none 0 0) ∧ Rdr w' g A n c at_ f ∧ w.grownBy w' (some g)) ∨
      (∃ (x kk : Nat) (A' : Option Addr) (c' : Nat), nxt (l.drop at_) 0 0 = (x, kk, 0) ∧ at_ + kk + x ≤ n ∧ r = .returned (.slice A' x c') ∧ Rd w' w'.heap.size 1 A' x (((l.drop (at_ + kk)).take x).map B8) ∧ Rdr w' g A n c (at_ + kk + x) 0 ∧ w.grownBy w' (some g)) := by
  obtain ⟨x, kk, f, hx⟩ : ∃ x kk f, nxt (l.drop at_) 0 0 = (x, kk, f) := ⟨_, _, _, rfl⟩
  by_cases hf : f = 0
  · subst hf
    have hk := nxt_le hx
    have hl := hr.len
    rw [List.length_map] at hl
    rw [List.length_drop] at hk
    by_cases h1 : most < x
    · exact (text_long g A n c at_ l most w h hr hn ha x kk hx hm h1).mono fun r w' ⟨e1, e2, e3⟩ => .inl ⟨2, by decide, e1, e2, e3⟩
    · by_cases h2 : n - at_ - kk < x
      · exact (text_short g A n c at_ l most w h hr hn ha x kk hx hm (by omega) (by omega) h2).mono fun r w' ⟨e1, e2, e3⟩ => .inl ⟨3, by decide, e1, e2, e3⟩
      · exact (text_good g A n c at_ l most w h hr hn hnc ha x kk hx hm (by omega) (by omega)).mono fun r w' ⟨A', c', e1, e2, e3, e4⟩ => .inr ⟨x, kk, A', c', hx, by omega, e1, e2, e3, e4⟩
  · have hf2 : (f == 0) = false := by rw [beq_eq_false_iff_ne]; exact hf
    exact (text_bad g A n c at_ l most w h hr hn ha x kk f hx hf2).mono fun r w' ⟨e1, e2, e3⟩ => .inl ⟨f, hf2, e1, e2, e3⟩

theorem conv8 (w : World) (A : Option Addr) (n c : Nat) (l : List UInt8) (h : Rd w w.heap.size 1 A n (l.map B8)) : (convert 22 9 (.slice A n c)).run Try.prog w = .ok (.string (str l)) w :=
  run_convert_rd _ _ _ Try.underlying22 Try.underlying5 Try.underlying9 h

theorem text_of {L : List UInt8} {x kk : Nat} (h : nxt L 0 0 = (x, kk, 0)) (hk : kk + x ≤ L.length) : L.take (kk + x) = textL ((L.drop kk).take x) := by
  have h1 := numL_of h
  have e1 : ((L.drop kk).take x).length = x := by rw [List.length_take, List.length_drop]; omega
  unfold textL
  rw [e1, ← h1.1, List.take_add]

/-- What stands while a drawn statement runs: the reader, the bytes handed in, and all that was there. -/
structure Half (w0 : World) (A : Option Addr) (l : List UInt8) (g : Nat) (A2 : Option Addr) (n2 c2 at_ : Nat) (w : World) : Prop where
  rdr : Rdr w g A2 n2 c2 at_ 0
  bel : Below w0.heap.size w0 w
  arg : Rd w0 w0.heap.size 1 A l.length (l.map B8)
theorem Half.step {w0 : World} {A : Option Addr} {l : List UInt8} {g : Nat} {A2 : Option Addr} {n2 c2 at_ : Nat} {w w' : World} (h : Half w0 A l g A2 n2 c2 at_ w) (hb : Below w.heap.size w w') : Half w0 A l g A2 n2 c2 at_ w' :=
  ⟨h.rdr.to hb, h.bel.trans (hb.mono h.bel.size), h.arg⟩
theorem Half.conv {w0 : World} {A : Option Addr} {l : List UInt8} {g : Nat} {A2 : Option Addr} {n2 c2 at_ : Nat} {w : World} (h : Half w0 A l g A2 n2 c2 at_ w) {k : Nat} (hk : k ≤ l.length) (c : Nat) {m : List UInt8} (hm : l.take k = m) :
    (convert 22 9 (.slice A k c)).run Try.prog w = .ok (.string (str m)) w := by
  subst hm
  refine conv8 w A k c _ ?_
  have := (h.arg.to h.bel).take hk
  rwa [← List.map_take] at this

set_option maxHeartbeats 20000000 in
theorem wireForm_walk (A : Option Addr) (n c : Nat) (l : List UInt8) (w : World) (hr : Rd w w.heap.size 1 A n (l.map B8)) (hnc : n ≤ c) (hn : n ≤ 140737488351232) :
    Calls Try.prog 5 #[.slice A n c] w fun r w' => r = .returned (.bool true) ∧ Below w.heap.size w w' := by
  obtain rfl : l.length = n := by simpa using hr.len
  go_enter Try.func5, Try.ntmps5
  go_wp2_with fail
  refine (own_any A _ c l _ hr (by omega)).mono ?_
  rintro r w1 ⟨A1, c1, rfl, h1, hb1⟩
  go_wp2_with fail
  refine (read_any A1 _ c1 l _ (Rd.of_own h1) (by omega)).mono ?_
  rintro r w2 ⟨g, A2, c2, rfl, hg, hR2, hr2, hb2, hc2⟩
  have hB2 : Below w.heap.size w w2 := hb1.trans (hb2.mono hb1.size)
  go_wp2_with fail
  refine (number_two g A2 _ c2 0 l _ hR2 hr2 (by omega) (Nat.zero_le _)).mono ?_
  rintro r w3 (⟨f, hf, rfl, hR3, hg3⟩ | ⟨x, kk, hx, hk, rfl, hR3, hg3⟩)
  · have hB3 := grown_below hB2 hg3 (Nat.le_trans hb1.size hg) hB2.size
    go_wp2_with fail
    go_quiet ((go_at_call 18; refine Calls.quiet_of_same ((err_any g A2 _ c2 0 f _ (by exact hR3)).mono fun _ _ h => ⟨h.1, h.2.symm⟩)))
    have hBx := hB3.trans ((Still.drewN w3 nq).below _)
    go_wp2_with fail
    refine (own_any A _ c l _ (hr.to hBx) (by omega)).mono ?_
    rintro r v1 ⟨B1, d1, rfl, k1, kb1⟩
    go_wp2_with fail
    refine (read_any B1 _ d1 l _ (Rd.of_own k1) (by omega)).mono ?_
    rintro r v2 ⟨g', B2, d2, rfl, kg, kR2, kr2, kb2, kc2⟩
    have kB2 : Below w.heap.size w v2 := hBx.trans ((kb1.trans (kb2.mono kb1.size)).mono hBx.size)
    go_wp2_with fail
    refine (text_two g' B2 _ d2 0 l _ _ kR2 kr2 (by omega) kc2 (Nat.zero_le _) (by omega)).mono ?_
    have kz1 := hBx.size
    have kz2 := kb1.size
    rintro r v3 (⟨f, hf, rfl, kR3, kg3⟩ | ⟨x', kk', A7, c7, hx', hk', rfl, kr7, kR3, kg3⟩)
    · have kB3 := grown_below kB2 kg3 (by omega) kB2.size
      go_wp2_with fail
      go_quiet ((go_at_call 18; refine Calls.quiet_of_same ((err_any g' B2 _ d2 0 f _ (by exact kR3)).mono fun _ _ h => ⟨h.1, h.2.symm⟩)))
      go_wp2_with fail
      refine (awake_any _).mono ?_
      rintro r v9 ⟨rfl, kb9⟩
      go_wp2_with fail
      go_ret
      have kB4 := kB3.trans ((Still.drewN v3 nq).below _)
      exact ⟨rfl, kB4.trans (kb9.mono kB4.size)⟩
    · have kB3 := grown_below kB2 kg3 (by omega) kB2.size
      rw [List.drop_zero] at hx'
      rw [Nat.zero_add] at hk' kR3 kr7
      have Hnum' := Lib.hid (text_of hx' hk')
      have hln' : ((l.drop kk').take x').length = x' := by rw [List.length_take, List.length_drop]; omega
      have Hln' := Lib.hid hln'
      have hs1' : IntKind.i64.wrap ((l.length : Int) - ((l.length : Int) - ((kk' + x' : Nat) : Int))) = ((kk' + x' : Nat) : Int) := by rw [show (l.length : Int) - ((l.length : Int) - ((kk' + x' : Nat) : Int)) = ((kk' + x' : Nat) : Int) from by omega]; exact IntWalk.i64_in _ (by omega)
      have hs5' : (l.length : Int) - ((l.length : Int) - ((kk' + x' : Nat) : Int)) = ((kk' + x' : Nat) : Int) := by omega
      have hs4' : IntKind.i64.wrap ((kk' + x' : Nat) : Int) = ((kk' + x' : Nat) : Int) := IntWalk.i64_in _ (by omega)
      have hs2' : (0 : Int) ≤ ((kk' + x' : Nat) : Int) := by omega
      have hs3' : ((kk' + x' : Nat) : Int) ≤ (c : Int) := by omega
      have hq' : x' ≤ 140737488355322 := by omega
      generalize kk' + x' = q at *
      clear hx' hln'
      have kS0 : Half w A l g' B2 l.length d2 q v3.drew := ⟨kR3, kB3.trans ((Still.refl v3).drew.below _), hr⟩
      have kcv0 := kS0.conv hk' c Hnum'.out
      go_wp2_with fail
      go_region_with (first
        | (go_at_call 18; refine (err_any g' B2 _ d2 q 0 _ (Half.rdr (by assumption))).mono ?_; rintro r v5 ⟨rfl, rfl⟩)
        | (go_at_call 11; refine (text_any none 0 0 [] A7 x' c7 ((l.drop kk').take x') _ (Rd.nil _ _ _ _) (by exact kr7) (by rw [Hln'.out]; simpa using hq')).mono ?_; rintro r v6 ⟨A6, c6, rfl, k6, kb6⟩
           rw [List.nil_append] at k6
           have kS6 := Half.step (by assumption) kb6
           have kcv6 := kS6.conv hk' c Hnum'.out
           have kcn6 := conv8 v6 A6 _ c6 _ (Rd.of_own k6))
        | (go_at_call 20; refine (Left_any g' B2 _ d2 q 0 _ (Half.rdr (by assumption)) (by omega) hk').mono ?_; rintro r v7 ⟨rfl, ks7⟩
           have kS7 := Half.step (by assumption) (ks7.below _)
           have kcv7 := kS7.conv hk' c Hnum'.out
           try have kcn7 := conv8 v7 A6 _ c6 _ ((Rd.of_own k6).to (ks7.below _))))
      all_goals
        go_wp2_with fail
        refine (awake_any _).mono ?_
        rintro r v9 ⟨rfl, kb9⟩
        go_wp2_with fail
        go_ret
        exact ⟨rfl, kS7.bel.trans (kb9.mono kS7.bel.size)⟩
  · have hB3 := grown_below hB2 hg3 (Nat.le_trans hb1.size hg) hB2.size
    rw [List.drop_zero] at hx
    rw [Nat.zero_add] at hk hR3
    have Hnum := Lib.hid (numL_of hx).1
    have Hx := Lib.hid hx
    clear hx
    have hs1 : IntKind.i64.wrap ((l.length : Int) - ((l.length : Int) - (kk : Int))) = (kk : Int) := by rw [show (l.length : Int) - ((l.length : Int) - (kk : Int)) = (kk : Int) from by omega]; exact IntWalk.i64_in _ (by omega)
    have hs4 : IntKind.i64.wrap (kk : Int) = (kk : Int) := IntWalk.i64_in _ (by omega)
    have hs5 : (l.length : Int) - ((l.length : Int) - (kk : Int)) = (kk : Int) := by omega
    have hs2 : (0 : Int) ≤ (kk : Int) := by omega
    have hs3 : (kk : Int) ≤ (c : Int) := by omega
    have hS0 : Half w A l g A2 l.length c2 kk w3.drew := ⟨hR3, hB3.trans ((Still.refl w3).drew.below _), hr⟩
    have hcv0 := hS0.conv hk c Hnum.out
    go_wp2_with fail
    go_region_with (first
      | (go_at_call 18; refine (err_any g A2 _ c2 kk 0 _ (Half.rdr (by assumption))).mono ?_; rintro r w5 ⟨rfl, rfl⟩)
      | (go_at_call 9; refine (number_any none 0 0 [] x _ (Rd.nil _ _ _ _) (by simp)).mono ?_; rintro r w6 ⟨A6, c6, rfl, h6, hb6⟩
         rw [List.nil_append] at h6
         have hS6 := Half.step (by assumption) hb6
         have hcv6 := hS6.conv hk c Hnum.out
         have hcn6 := conv8 w6 A6 _ c6 _ (Rd.of_own h6))
      | (go_at_call 20; refine (Left_any g A2 _ c2 kk 0 _ (Half.rdr (by assumption)) (by omega) hk).mono ?_; rintro r w7 ⟨rfl, hs7⟩
         have hS7 := Half.step (by assumption) (hs7.below _)
         have hcv7 := hS7.conv hk c Hnum.out
         try have hcn7 := conv8 w7 A6 _ c6 _ ((Rd.of_own h6).to (hs7.below _))))
    all_goals
      have hBx := hS7.bel
      go_wp2_with fail
      refine (own_any A _ c l _ (hr.to hBx) (by omega)).mono ?_
      rintro r v1 ⟨B1, d1, rfl, k1, kb1⟩
      go_wp2_with fail
      refine (read_any B1 _ d1 l _ (Rd.of_own k1) (by omega)).mono ?_
      rintro r v2 ⟨g', B2, d2, rfl, kg, kR2, kr2, kb2, kc2⟩
      have kB2 : Below w.heap.size w v2 := hBx.trans ((kb1.trans (kb2.mono kb1.size)).mono hBx.size)
      go_wp2_with fail
      refine (text_two g' B2 _ d2 0 l _ _ kR2 kr2 (by omega) kc2 (Nat.zero_le _) (by omega)).mono ?_
      have kz1 := hBx.size
      have kz2 := kb1.size
      rintro r v3 (⟨f, hf, rfl, kR3, kg3⟩ | ⟨x', kk', A7, c7, hx', hk', rfl, kr7, kR3, kg3⟩)
      · have kB3 := grown_below kB2 kg3 (by omega) kB2.size
        go_wp2_with fail
        go_quiet ((go_at_call 18; refine Calls.quiet_of_same ((err_any g' B2 _ d2 0 f _ (by exact kR3)).mono fun _ _ h => ⟨h.1, h.2.symm⟩)))
        go_wp2_with fail
        refine (awake_any _).mono ?_
        rintro r v9 ⟨rfl, kb9⟩
        go_wp2_with fail
        go_ret
        have kB4 := kB3.trans ((Still.drewN v3 nq).below _)
        exact ⟨rfl, kB4.trans (kb9.mono kB4.size)⟩
      · have kB3 := grown_below kB2 kg3 (by omega) kB2.size
        rw [List.drop_zero] at hx'
        rw [Nat.zero_add] at hk' kR3 kr7
        have Hnum' := Lib.hid (text_of hx' hk')
        have hln' : ((l.drop kk').take x').length = x' := by rw [List.length_take, List.length_drop]; omega
        have Hln' := Lib.hid hln'
        have hs1' : IntKind.i64.wrap ((l.length : Int) - ((l.length : Int) - ((kk' + x' : Nat) : Int))) = ((kk' + x' : Nat) : Int) := by rw [show (l.length : Int) - ((l.length : Int) - ((kk' + x' : Nat) : Int)) = ((kk' + x' : Nat) : Int) from by omega]; exact IntWalk.i64_in _ (by omega)
        have hs5' : (l.length : Int) - ((l.length : Int) - ((kk' + x' : Nat) : Int)) = ((kk' + x' : Nat) : Int) := by omega
        have hs4' : IntKind.i64.wrap ((kk' + x' : Nat) : Int) = ((kk' + x' : Nat) : Int) := IntWalk.i64_in _ (by omega)
        have hs2' : (0 : Int) ≤ ((kk' + x' : Nat) : Int) := by omega
        have hs3' : ((kk' + x' : Nat) : Int) ≤ (c : Int) := by omega
        have hq' : x' ≤ 140737488355322 := by omega
        generalize kk' + x' = q at *
        clear hx' hln'
        have kS0 : Half w A l g' B2 l.length d2 q v3.drew := ⟨kR3, kB3.trans ((Still.refl v3).drew.below _), hr⟩
        have kcv0 := kS0.conv hk' c Hnum'.out
        go_wp2_with fail
        go_region_with (first
          | (go_at_call 18; refine (err_any g' B2 _ d2 q 0 _ (Half.rdr (by assumption))).mono ?_; rintro r v5 ⟨rfl, rfl⟩)
          | (go_at_call 11; refine (text_any none 0 0 [] A7 x' c7 ((l.drop kk').take x') _ (Rd.nil _ _ _ _) (by exact kr7) (by rw [Hln'.out]; simpa using hq')).mono ?_; rintro r v6 ⟨A6, c6, rfl, k6, kb6⟩
             rw [List.nil_append] at k6
             have kS6 := Half.step (by assumption) kb6
             have kcv6 := kS6.conv hk' c Hnum'.out
             have kcn6 := conv8 v6 A6 _ c6 _ (Rd.of_own k6))
          | (go_at_call 20; refine (Left_any g' B2 _ d2 q 0 _ (Half.rdr (by assumption)) (by omega) hk').mono ?_; rintro r v7 ⟨rfl, ks7⟩
             have kS7 := Half.step (by assumption) (ks7.below _)
             have kcv7 := kS7.conv hk' c Hnum'.out
             try have kcn7 := conv8 v7 A6 _ c6 _ ((Rd.of_own k6).to (ks7.below _))))
        all_goals
          go_wp2_with fail
          refine (awake_any _).mono ?_
          rintro r v9 ⟨rfl, kb9⟩
          go_wp2_with fail
          go_ret
          exact ⟨rfl, kS7.bel.trans (kb9.mono kS7.bel.size)⟩
end Go.Proofs.Ytfobjpngajhdkaa
