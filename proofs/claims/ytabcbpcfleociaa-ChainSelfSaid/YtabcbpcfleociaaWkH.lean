/- The contracts of the document's Digits, Number, Text, Flag. -/
import Derived.Test.YtabcbpcfleociaaWkA
namespace Go.Proofs.Ytabcbpcfleociaa
open Go.RowKit

theorem lit1 (w : World) (u : Value) (b : UInt8) (h : B8 b = u) : (w.alloc (.cells #[u] 5)).ownsRow w.heap.size 5 1 (.slice (some ⟨w.heap.size, 0, none⟩) 1 1) 1 ([b].map B8) := by
  subst h
  exact World.ownsRow_lit w #[B8 b] 1 (Nat.le_refl _) (by simp [maxLen]) rfl
theorem clampN_nat (m : Nat) (h : m ≤ 1099511627776) : clampN m = m := by unfold clampN; omega
theorem numL_nat (m : Nat) (h : m ≤ 1099511627776) : numL m = dig m := by unfold numL; rw [clampN_nat m h]

set_option maxHeartbeats 1000000 in
theorem refDigits_nat : ∀ (k m : Nat) (w : World), m < 128 ^ (k + 1) → m ≤ 1099511627776 → Calls Try.prog 75 #[.int .i64 m] w (RetB w.heap.size (dig m) w) := by
  intro k
  induction k with
  | zero =>
    intro m w hm hM
    have hlt : (m : Int) < 128 := by omega
    go_enter Try.func75, Try.ntmps75
    go_wp2_with fail
    go_ret
    rw [dig_small m (by omega)]
    exact RetB.mk rfl rfl (lit1 w _ (UInt8.ofNat m) (congrArg (Value.int .u8) (byte_last m (by omega)))) ((Below.refl _ _).alloc (Nat.le_refl _) _)
  | succ k ih =>
    intro m w hm hM
    by_cases hlt0 : m < 128
    · have hlt : (m : Int) < 128 := by omega
      go_enter Try.func75, Try.ntmps75
      go_wp2_with fail
      go_ret
      rw [dig_small m hlt0]
      exact RetB.mk rfl rfl (lit1 w _ (UInt8.ofNat m) (congrArg (Value.int .u8) (byte_last m (by omega)))) ((Below.refl _ _).alloc (Nat.le_refl _) _)
    · have hlt : ¬ (m : Int) < 128 := by omega
      have hd : m / 128 < 128 ^ (k + 1) := by rw [Nat.pow_succ] at hm; exact Nat.div_lt_of_lt_mul (by rw [Nat.mul_comm]; exact hm)
      have hlen := numL_len (m / 128 : Nat)
      rw [numL_nat _ (by omega)] at hlen
      have Hnx := Lib.hid (dig_great m (by omega))
      go_enter Try.func75, Try.ntmps75
      go_wp2_with fail
      rw [show (m : Int) / 128 = ((m / 128 : Nat) : Int) from by omega]
      refine (ih (m / 128) _ hd (by omega)).mono ?_
      rintro r w1 ⟨A1, c1, rfl, h1, hb1⟩
      have hl1 := own_to (lit1 w _ (UInt8.ofNat (128 + m % 128)) (congrArg (Value.int .u8) (byte_more m))) hb1
      have hb0 : Below w.heap.size w w1 := ((Below.refl _ _).alloc (Nat.le_refl _) _).trans (hb1.mono (by simp))
      go_wp2_with (first
        | (at_builtin
           refine wpList_app rfl (.tmp 15) (.tmp 18) _ rfl w.heap.size 5 1 1 _ Try.underlying38 info8 rfl (by omega) _ _ _ rfl hl1 w1.heap.size A1 _ c1 _ rfl (Rd.of_own h1) (B8_one _) (by simp only [maxLen]; omega) (by omega) hb0.size ?_
           intro A2 c2 w2 h2 hg2 _
           have hb2 : Below w.heap.size w w2 := hb0.grown hg2 hb0.size (fun k hk => (hl1.lt k hk).1)))
      go_ret
      rw [Hnx.out]
      exact RetB.mk (n := 1 + (dig (m / 128)).length) (by rw [List.length_cons, Nat.add_comm]) rfl (by rw [← List.map_append] at h2; exact h2) hb2
theorem refDigits_any (x : Int) (w : World) : Calls Try.prog 75 #[.int .i64 x] w (RetB w.heap.size (numL x) w) := by
  rcases clamp_at x with ⟨h0, hc⟩ | ⟨h0, hc⟩ | ⟨h0, h1, hc⟩
  · unfold numL
    rw [hc]
    go_enter Try.func75, Try.ntmps75
    go_wp2_with fail
    go_ret
    exact RetB.mk rfl rfl (lit1 w _ 0 rfl) ((Below.refl _ _).alloc (Nat.le_refl _) _)
  · unfold numL
    rw [hc]
    go_enter Try.func75, Try.ntmps75
    go_wp2_with fail
    refine (refDigits_nat 5 8589934592 _ (by omega) (by omega)).mono ?_
    rintro r w1 ⟨A1, c1, rfl, h1, hb1⟩
    have hlen := numL_len (8589934592 : Nat)
    rw [numL_nat _ (by omega)] at hlen
    have hl1 := own_to (lit1 w _ 128 rfl) hb1
    have hb0 : Below w.heap.size w w1 := ((Below.refl _ _).alloc (Nat.le_refl _) _).trans (hb1.mono (by simp))
    go_wp2_with (first
      | (at_builtin
         refine wpList_app rfl (.tmp 15) (.tmp 18) _ rfl w.heap.size 5 1 1 _ Try.underlying38 info8 rfl (by omega) _ _ _ rfl hl1 w1.heap.size A1 _ c1 _ rfl (Rd.of_own h1) (B8_one _) (by simp only [maxLen]; omega) (by omega) hb0.size ?_
         intro A2 c2 w2 h2 hg2 _
         have hb2 : Below w.heap.size w w2 := hb0.grown hg2 hb0.size (fun k hk => (hl1.lt k hk).1)))
    go_ret
    rw [dig_great 1099511627776 (by omega)]
    exact RetB.mk (n := 1 + (dig 8589934592).length) (by rw [List.length_cons, Nat.add_comm]) rfl (by rw [← List.map_append] at h2; exact h2) hb2
  · obtain ⟨m, rfl⟩ := Int.eq_ofNat_of_zero_le h0
    unfold numL
    rw [clampN_nat m (by omega)]
    exact refDigits_nat 5 m w (by omega) (by omega)

theorem refNumber_any (A : Option Addr) (n c : Nat) (l : List UInt8) (x : Int) (w : World) (hr : Rd w w.heap.size 1 A n (l.map B8)) (hn : l.length ≤ 140737488355322) :
    Calls Try.prog 61 #[.slice A n c, .int .i64 x] w (RetB w.heap.size (l ++ numL x) w) := by
  obtain rfl : l.length = n := by simpa using hr.len
  have hlen := numL_len x
  go_enter Try.func61, Try.ntmps61
  go_wp2_with (first
    | (at_builtin
       refine wpList_app rfl (.tmp 5) (.tmp 6) _ rfl w.heap.size 5 1 1 _ Try.underlying38 info8 rfl (by omega) (.slice (some ⟨w.heap.size, 0, none⟩) 0 0) 0 [] rfl (World.ownsRow_lit w #[] 0 (Nat.le_refl _) (by simp [maxLen]) rfl) w.heap.size A l.length c _ rfl (hr.alloc (Nat.le_refl _) _) (B8_one _) (by simp only [maxLen]; omega) (by omega) (by simp) ?_
       intro A1 c1 w1 h1 hg1 _
       simp only [Nat.zero_add, List.nil_append] at h1
       have hb1 : Below w.heap.size w w1 := ((Below.refl _ _).alloc (Nat.le_refl _) _).grown hg1 (by simp) (fun k hk => by simp [Value.ownBlock] at hk; omega))
    | (go_at_call 75; refine (refDigits_any x _).mono ?_; rintro r w2 ⟨A2, c2, rfl, h2, hb2⟩; have h1' := own_to h1 hb2; have hb3 := hb1.trans (hb2.mono hb1.size))
    | (at_builtin
       refine wpList_app rfl (.tmp 7) (.tmp 9) _ rfl w.heap.size 5 1 1 _ Try.underlying38 info8 rfl (by omega) _ _ _ rfl h1' w2.heap.size A2 _ c2 _ rfl (Rd.of_own h2) (B8_one _) (by simp only [maxLen]; omega) (by omega) hb3.size ?_
       intro A3 c3 w3 h3 hg3 _
       have hb4 : Below w.heap.size w w3 := hb3.grown hg3 hb3.size (fun k hk => (h1'.lt k hk).1)))
  go_ret
  exact RetB.mk List.length_append rfl (by rw [List.map_append]; exact h3) hb4
theorem refText_any (A : Option Addr) (n c : Nat) (l : List UInt8) (A' : Option Addr) (n' c' : Nat) (s : List UInt8) (w : World) (hr : Rd w w.heap.size 1 A n (l.map B8)) (hr' : Rd w w.heap.size 1 A' n' (s.map B8)) (hn : l.length + s.length ≤ 140737488355322) :
    Calls Try.prog 62 #[.slice A n c, .slice A' n' c'] w (RetB w.heap.size (l ++ textL s) w) := by
  obtain rfl : l.length = n := by simpa using hr.len
  obtain rfl : s.length = n' := by simpa using hr'.len
  have hl := numL_len s.length
  have hll : (l ++ numL s.length).length = l.length + (numL s.length).length := List.length_append
  have Hll := Lib.hid hll
  clear hll
  go_enter Try.func62, Try.ntmps62
  go_wp2_with (first
    | (go_at_call 61; refine (refNumber_any A _ c l s.length _ hr (by omega)).mono ?_; rintro e w1 ⟨A1, c1, rfl, h1, hb1⟩
       rw [Hll.out] at h1
       have hr1 := hr'.to hb1)
    | (at_builtin
       refine wpList_app rfl (.tmp 8) (.tmp 9) _ rfl w.heap.size 5 1 1 _ Try.underlying38 info8 rfl (by omega) _ _ _ rfl h1 w1.heap.size A' s.length c' _ rfl hr1 (B8_one _) (by simp only [maxLen]; omega) (by omega) hb1.size ?_
       intro A2 c2 w2 h2 hg2 _
       have hb2 : Below w.heap.size w w2 := hb1.grown hg2 hb1.size (fun k hk => (h1.lt k hk).1)))
  go_ret
  unfold textL
  rw [← List.append_assoc]
  exact RetB.mk (by rw [List.length_append, Hll.out]) rfl (by rw [List.map_append]; exact h2) hb2
end Go.Proofs.Ytabcbpcfleociaa
