/- The law WireCut's walk. -/
import Derived.Test.YtfobjpngajhdkaaWirE
namespace Go.Proofs.Ytfobjpngajhdkaa
open Go.RowKit

theorem cut_short {m t : Nat} (h : m ≤ 1099511627776) (ht : t < (dig m).length) : nxt (((dig m).take t).drop 0) 0 0 = (0, 0, 3) := by rw [List.drop_zero]; exact nxt_short m t h ht

theorem text_take (l : List UInt8) (k : Nat) (h : (numL l.length).length ≤ k) : (textL l).take k = numL l.length ++ l.take (k - (numL l.length).length) := by
  unfold textL; rw [List.take_append, List.take_of_length_le h]

theorem text_take_lt (l : List UInt8) (k : Nat) (h : k ≤ (numL l.length).length) : (textL l).take k = (numL l.length).take k := by
  unfold textL; rw [List.take_append_of_le_length h]

set_option maxHeartbeats 1000000 in
theorem wireCut_walk (x : Int) (A : Option Addr) (n c : Nat) (l : List UInt8) (at_ : Int) (w : World) (_ : (Lit.int .i64 x).wf = true) (hr : Rd w w.heap.size 1 A n (l.map B8)) (_ : n ≤ c) (hn : n ≤ 140737488351232) (hat : (Lit.int .u16 at_).wf = true) :
    Calls Try.prog 4 #[.int .i64 x, .slice A n c, .int .u16 at_] w fun r w' => r = .returned (.bool true) ∧ Below w.heap.size w w' := by
  obtain rfl : l.length = n := by simpa using hr.len
  have hat1 : 0 ≤ at_ ∧ at_ < 65536 := by
    simp only [Lit.wf, Bool.and_eq_true, decide_eq_true_eq] at hat
    rw [show IntKind.u16.min = 0 from rfl, show IntKind.u16.max = 65535 from rfl] at hat
    omega
  obtain ⟨t, rfl⟩ := Int.eq_ofNat_of_zero_le hat1.1
  go_enter Try.func4, Try.ntmps4
  go_wp2_with fail
  refine (number_any none 0 0 [] x _ (Rd.nil _ _ _ _) (by simp)).mono ?_
  rintro r w1 ⟨A1, c1, rfl, h1, hb1⟩
  rw [List.nil_append] at h1
  go_wp2_with fail
  refine (own_any A _ c l _ (hr.to hb1) (by omega)).mono ?_
  rintro r w2 ⟨A2, c2, rfl, h2, hb2⟩
  go_wp2_with fail
  refine (text_any none 0 0 [] A2 _ c2 l _ (Rd.nil _ _ _ _) (Rd.of_own h2) (by simp; omega)).mono ?_
  rintro r w3 ⟨A3, c3, rfl, h3, hb3⟩
  rw [List.nil_append] at h3
  have hlen := numL_len x
  have hm1 : ¬ ((numL x).length : Int) < 1 := by omega
  have hm2 : (((numL x).length : Int) == 0) = false := by rw [beq_eq_false_iff_ne]; omega
  have hk1 := Nat.mod_lt t (show 0 < (numL x).length by omega)
  have hs1 : (0 : Int) ≤ (t : Int) % ((numL x).length : Int) := Int.emod_nonneg _ (by omega)
  have hs2 : (t : Int) % ((numL x).length : Int) ≤ (c1 : Int) := by
    have e1 := Int.emod_lt_of_pos (t : Int) (show (0 : Int) < ((numL x).length : Int) by omega)
    have e2 := own_cap h1
    omega
  go_wp2_with fail
  have hrA := ((Rd.of_own h1).to (hb2.trans (hb3.mono hb2.size))).take (k := t % (numL x).length) (by omega)
  rw [← List.map_take] at hrA
  refine (read_any A1 (t % (numL x).length) c1 _ _ hrA (by omega)).mono ?_
  rintro r w4 ⟨g1, A4, c4, rfl, hg1, hR4, hr4, hb4, _⟩
  clear hs1 hs2 hm1 hm2
  have hlt : (textL l).length = (numL l.length).length + l.length := by unfold textL; rw [List.length_append]
  have hlen2 := numL_len l.length
  have hm3 : ¬ ((textL l).length : Int) < 1 := by omega
  have hm4 : (((textL l).length : Int) == 0) = false := by rw [beq_eq_false_iff_ne]; omega
  have hk2 := Nat.mod_lt t (show 0 < (textL l).length by omega)
  have hk3 : t % (textL l).length ≤ t := Nat.mod_le _ _
  have hs3 : (0 : Int) ≤ (t : Int) % ((textL l).length : Int) := Int.emod_nonneg _ (by omega)
  have hs4 : (t : Int) % ((textL l).length : Int) ≤ (c3 : Int) := by
    have e1 := Int.emod_lt_of_pos (t : Int) (show (0 : Int) < ((textL l).length : Int) by omega)
    have e2 := own_cap h3
    omega
  have Hlt := Lib.hid hlt
  clear hlt
  go_wp2_with fail
  have hrB := ((Rd.of_own h3).to hb4).take (k := t % (textL l).length) (by omega)
  rw [← List.map_take] at hrB
  refine (read_any A3 (t % (textL l).length) c3 _ _ hrB (by omega)).mono ?_
  rintro r w5 ⟨g2, A5, c5, rfl, hg2, hR5, hr5, hb5, hc5⟩
  clear hs3 hs4 hm3 hm4
  have hB5 : Below w.heap.size w w5 := hb1.trans ((hb2.trans ((hb3.trans ((hb4.trans (hb5.mono hb4.size)).mono hb3.size)).mono hb2.size)).mono hb1.size)
  have hlt4 := hR4.lt
  have hR4' := hR4.to hb5
  have hr4' := hr4.to hb5
  go_wp2_with fail
  refine (number_bad g1 A4 _ c4 0 _ 0 1099511627776 _ hR4' hr4' (by omega) (Nat.zero_le _) 0 0 3 (cut_short (clampN_le x) hk1) (by decide)).mono ?_
  rintro r w6 ⟨rfl, hR6, hg6⟩
  go_wp2_with fail
  refine (err_any g1 A4 _ c4 0 3 _ hR6).mono ?_
  rintro r w7 ⟨rfl, rfl⟩
  have hR7 : Rdr w6 g2 A5 (t % (textL l).length) c5 0 0 := (hg6.block g2 hR5.lt (fun e => by injection e with e; omega)).trans hR5
  have hr7 := hr5.only hR4' hg6
  have hT : Calls Try.prog 19 #[.pointer (some ⟨g2, 0, none⟩), .int .i64 (l.length : Nat)] w6 fun r w' => r = .returned (.slice none 0 0) ∧ Rdr w' g2 A5 (t % (textL l).length) c5 0 3 ∧ w6.grownBy w' (some g2) := by
    have hlt := Hlt.out
    by_cases hin : t % (textL l).length < (numL l.length).length
    · refine text_bad g2 A5 _ c5 0 _ _ _ hR7 hr7 (by omega) (Nat.zero_le _) 0 0 3 ?_ (by decide)
      have : (textL l).take (t % (textL l).length) = (numL l.length).take (t % (textL l).length) := text_take_lt l _ (by omega)
      rw [this]
      exact cut_short (clampN_le _) hin
    · have hcl : clampN l.length = min l.length 1099511627776 := by unfold clampN; omega
      have hnx : nxt (((textL l).take (t % (textL l).length)).drop 0) 0 0 = (clampN l.length, (numL l.length).length, 0) := by
        rw [List.drop_zero]
        have : (textL l).take (t % (textL l).length) = numL l.length ++ l.take (t % (textL l).length - (numL l.length).length) := text_take l _ (by omega)
        rw [this]
        exact nxt_put _ _ (clampN_le _)
      exact text_short g2 A5 _ c5 0 _ _ _ hR7 hr7 (by omega) (Nat.zero_le _) _ _ hnx (by omega) (by omega) (by omega) (by omega)
  go_wp2_with fail
  refine hT.mono ?_
  rintro r w8 ⟨rfl, hR8, hg8⟩
  go_wp2_with fail
  refine (err_any g2 A5 _ c5 0 3 _ hR8).mono ?_
  rintro r w9 ⟨rfl, rfl⟩
  go_wp2_with fail
  refine (awake_any _).mono ?_
  rintro r w9 ⟨rfl, hb9⟩
  go_wp2_with fail
  go_ret
  have hs12 := hb1.size
  have hs23 := hb2.size
  have hs34 := hb3.size
  have hs45 := hb4.size
  have hB6 := grown_below hB5 hg6 (by omega) hB5.size
  have hB8 := grown_below hB6 hg8 (by omega) hB6.size
  exact ⟨rfl, hB8.trans (hb9.mono hB8.size)⟩
end Go.Proofs.Ytfobjpngajhdkaa
