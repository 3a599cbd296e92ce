/- The contracts of Number, Text: the program's and the document's. -/
import Derived.Test.YtabcbpcfleociaaMWirP
import Derived.Test.YtabcbpcfleociaaMLib
namespace Go.Proofs.Ytabcbpcfleociaa
open Go.RowKit

/-- What comes back is a slice of the call's own that holds the bytes l; nothing that was there has turned. -/
def RetB (base : Nat) (l : List UInt8) (w : World) (e : Ending) (w' : World) : Prop :=
  ∃ A c, e = .returned (.slice A l.length c) ∧ w'.ownsRow base 5 1 (.slice A l.length c) l.length (l.map B8) ∧ Below w.heap.size w w'
theorem RetB.mk {base : Nat} {l : List UInt8} {w w' : World} {e : Ending} {A : Option Addr} {n c : Nat} (hn : l.length = n) (he : e = .returned (.slice A n c)) (ho : w'.ownsRow base 5 1 (.slice A n c) n (l.map B8)) (hb : Below w.heap.size w w') : RetB base l w e w' := by
  subst hn; exact ⟨A, c, he, ho, hb⟩

theorem one_cell8 (w : World) (b : UInt8) (x : Int) (hx : (b.toNat : Int) = x) : Rd (w.alloc (.cells #[.int .u8 x] 5)) (w.heap.size + 1) 1 (some ⟨w.heap.size, 0, none⟩) 1 ([b].map B8) := by
  subst hx
  exact one_cell w 5 (B8 b)

theorem and127 (m : Nat) (h : m < 9223372036854775808) : bits .and .i64 (m : Int) 127 = (m : Int) % 128 := by
  show IntKind.i64.wrap ((BitVec.ofInt 64 (m : Int) &&& BitVec.ofInt 64 127).toNat : Int) = _
  have e1 : (BitVec.ofInt 64 (m : Int)).toNat = m := by rw [BitVec.ofInt_natCast, BitVec.toNat_ofNat]; exact Nat.mod_eq_of_lt (by omega)
  have e2 : (BitVec.ofInt 64 127).toNat = 127 := by decide
  rw [BitVec.toNat_and, e1, e2, show (127 : Nat) = 2 ^ 7 - 1 from rfl, Nat.and_two_pow_sub_one_eq_mod, IntKind.wrap_i64]
  omega
theorem or128 (r : Int) (h0 : 0 ≤ r) (h : r < 128) : bits .or .i64 r 128 = 128 + r := by
  obtain ⟨r, rfl⟩ := Int.eq_ofNat_of_zero_le h0
  show IntKind.i64.wrap ((BitVec.ofInt 64 (r : Int) ||| BitVec.ofInt 64 128).toNat : Int) = _
  have e1 : (BitVec.ofInt 64 (r : Int)).toNat = r := by rw [BitVec.ofInt_natCast, BitVec.toNat_ofNat]; exact Nat.mod_eq_of_lt (by omega)
  have e2 : (BitVec.ofInt 64 128).toNat = 128 := by decide
  have e3 : r ||| 128 = 128 + r := by
    rw [Nat.or_comm]
    have := Nat.two_pow_add_eq_or_of_lt (i := 7) (b := r) (by omega) 1
    simpa using this.symm
  rw [BitVec.toNat_or, e1, e2, e3, IntKind.wrap_i64]
  omega

theorem byte_more (m : Nat) : ((UInt8.ofNat (128 + m % 128)).toNat : Int) = 128 + (m : Int) % 128 := by
  rw [UInt8.toNat_ofNat']; omega
theorem byte_last (m : Nat) (h : m < 128) : ((UInt8.ofNat m).toNat : Int) = (m : Int) := by
  rw [UInt8.toNat_ofNat']; omega
theorem put_len {pre : List UInt8} {m : Nat} {x : Int} (h : pre ++ dig m = numL x) : pre.length ≤ 5 := by
  have h1 := numL_len x
  rw [← h, List.length_append] at h1
  have h2 := dig_ne m
  have h3 : 0 < (dig m).length := List.length_pos_iff.2 h2
  omega

theorem clamp_at (x : Int) : (x < 0 ∧ clampN x = 0) ∨ (1099511627776 < x ∧ clampN x = 1099511627776) ∨ (0 ≤ x ∧ x ≤ 1099511627776 ∧ (clampN x : Int) = x) := by
  unfold clampN; omega
def JN (w : World) (A : Option Addr) (c : Nat) (l : List UInt8) (x : Int) (a' : Act) (w' : World) : Prop :=
  ∃ (m N : Nat) (pre : List UInt8) (A1 : Option Addr) (c1 : Nat) (u6 u7 u8 u9 u10 u11 u12 u13 u14 u15 u16 u17 u18 u19 u20 u21 u22 : Value),
      a' = { tmps := #[.slice A l.length c, .int .i64 m, undef, undef, .slice none 0 0, .slice A1 N c1, u6, u7, u8, u9, u10, u11, u12, u13, u14, u15, u16, u17, u18, u19, u20, u21, u22, undef, undef, undef, undef, undef], defers := [] } ∧ l.length + pre.length = N ∧
      w'.ownsRow w.heap.size 5 1 (.slice A1 N c1) N ((l ++ pre).map B8) ∧ Below w.heap.size w w' ∧ Hid (pre ++ dig m = numL x) ∧ m ≤ 1099511627776

set_option maxHeartbeats 1000000 in
theorem number_any (A : Option Addr) (n c : Nat) (l : List UInt8) (x : Int) (w : World) (hr : Rd w w.heap.size 1 A n (l.map B8)) (hn : l.length ≤ 140737488355322) :
    Calls Try.prog 58 #[.slice A n c, .int .i64 x] w (RetB w.heap.size (l ++ numL x) w) := by
  obtain rfl : l.length = n := by simpa using hr.len
  go_enter Try.func58, Try.ntmps58
  go_wp2
  refine wp_scope_jumps 0 (JN w A c l x) (fun a' _ => (intOf (a'.tmps.getD 1 undef)).toNat) rfl ?_ ?_
  · have hcl := clamp_at x
    go_wp2_with (first
      | (at_builtin
         refine wpList_app rfl (.tmp 6) (.tmp 7) _ rfl w.heap.size 5 1 1 _ Try.underlying38 info8 rfl (by omega) (.slice (some ⟨w.heap.size, 0, none⟩) 0 0) 0 [] rfl (World.ownsRow_lit w #[] 0 (Nat.le_refl _) (by simp [maxLen]) rfl) w.heap.size A l.length c _ rfl (hr.alloc (Nat.le_refl _) _) (B8_one _) (by simp only [maxLen]; omega) (by omega) (by simp) ?_
         intro A1 c1 w1 h1 hg1 _
         simp only [Nat.zero_add, List.nil_append] at h1
         have hb1 : Below w.heap.size w w1 := ((Below.refl _ _).alloc (Nat.le_refl _) _).grown hg1 (by simp) (fun k hk => by simp [Value.ownBlock] at hk; omega)))
    · obtain ⟨m, hm1⟩ : ∃ m : Nat, (1099511627776 : Int) = m := ⟨1099511627776, rfl⟩
      have hd : Hid ([] ++ dig m = numL x) := by
        have : clampN x = m := by omega
        show _ = _
        unfold numL; rw [this]; rfl
      have hm : m ≤ 1099511627776 := by omega
      rw [hm1]
      clear hm1 hcl
      by_cases hgt : 127 < m
      · have ha := and127 m (by omega)
        have ho := or128 ((m : Int) % 128) (by omega) (by omega)
        have hgi : (127 : Int) < (m : Int) := by omega
        have Hnx := Lib.hid (dig_great m (by omega))
        go_step3
        go_wp2_with (first
          | (at_builtin
             refine wpList_app rfl (.tmp 14) (.tmp 19) _ rfl w.heap.size 5 1 1 _ Try.underlying38 info8 rfl (by omega) _ _ _ rfl (h1.alloc _) (w1.heap.size + 1) (some ⟨w1.heap.size, 0, none⟩) 1 1 _ rfl (one_cell8 w1 (UInt8.ofNat (128 + m % 128)) _ (byte_more m)) (B8_one _) (by simp only [maxLen]; omega) (by omega) (by simp; exact Nat.le_succ_of_le hb1.size) ?_
             intro A2 c2 w2 h2 hg2 _
             have hb2 : Below w.heap.size w w2 := (hb1.alloc hb1.size _).grown hg2 (by simp; exact Nat.le_succ_of_le hb1.size) (fun k hk => (h1.lt k hk).1)))
        go_step3
        rw [show (m : Int) / 128 = ((m / 128 : Nat) : Int) from by omega]
        have hj : l.length + ([] ++ [UInt8.ofNat (128 + m % 128)]).length = l.length + 1 := by rw [List.length_append]; rfl
        have h3 : w2.ownsRow w.heap.size 5 1 (.slice A2 (l.length + 1) c2) (l.length + 1) ((l ++ ([] ++ [UInt8.ofNat (128 + m % 128)])).map B8) := by
          rw [List.nil_append, List.map_append]; exact h2
        have hd2 : Hid (([] ++ [UInt8.ofNat (128 + m % 128)]) ++ dig (m / 128) = numL x) := by
          show _ = _
          rw [List.append_assoc, ← hd.out, Hnx.out]; rfl
        exact ⟨rfl, m / 128, _, _, A2, c2, _, _, _, _, _, _, _, _, _, _, _, _, _, _, _, _, _, rfl, hj, h3, hb2, hd2, by omega⟩
      · have hgi : ¬ (127 : Int) < (m : Int) := by omega
        have Hnx := Lib.hid (dig_small m (by omega))
        go_step3
        go_wp2_with (first
          | (at_builtin
             refine wpList_app rfl (.tmp 23) (.tmp 26) _ rfl w.heap.size 5 1 1 _ Try.underlying38 info8 rfl (by omega) _ _ _ rfl (h1.alloc _) (w1.heap.size + 1) (some ⟨w1.heap.size, 0, none⟩) 1 1 _ rfl (one_cell8 w1 (UInt8.ofNat m) _ (byte_last m (by omega))) (B8_one _) (by simp only [maxLen]; omega) (by omega) (by simp; exact Nat.le_succ_of_le hb1.size) ?_
             intro A2 c2 w2 h2 hg2 _
             have hb2 : Below w.heap.size w w2 := (hb1.alloc hb1.size _).grown hg2 (by simp; exact Nat.le_succ_of_le hb1.size) (fun k hk => (h1.lt k hk).1)))
        simp only [Exit.jump]
        go_ret
        rw [← hd.out, Hnx.out]
        exact RetB.mk (n := l.length + 1) (by simp) rfl (by rw [List.nil_append, List.map_append]; exact h2) hb2
    · obtain ⟨m, hm1⟩ : ∃ m : Nat, (0 : Int) = m := ⟨0, rfl⟩
      have hd : Hid ([] ++ dig m = numL x) := by
        have : clampN x = m := by omega
        show _ = _
        unfold numL; rw [this]; rfl
      have hm : m ≤ 1099511627776 := by omega
      rw [hm1]
      clear hm1 hcl
      by_cases hgt : 127 < m
      · have ha := and127 m (by omega)
        have ho := or128 ((m : Int) % 128) (by omega) (by omega)
        have hgi : (127 : Int) < (m : Int) := by omega
        have Hnx := Lib.hid (dig_great m (by omega))
        go_step3
        go_wp2_with (first
          | (at_builtin
             refine wpList_app rfl (.tmp 14) (.tmp 19) _ rfl w.heap.size 5 1 1 _ Try.underlying38 info8 rfl (by omega) _ _ _ rfl (h1.alloc _) (w1.heap.size + 1) (some ⟨w1.heap.size, 0, none⟩) 1 1 _ rfl (one_cell8 w1 (UInt8.ofNat (128 + m % 128)) _ (byte_more m)) (B8_one _) (by simp only [maxLen]; omega) (by omega) (by simp; exact Nat.le_succ_of_le hb1.size) ?_
             intro A2 c2 w2 h2 hg2 _
             have hb2 : Below w.heap.size w w2 := (hb1.alloc hb1.size _).grown hg2 (by simp; exact Nat.le_succ_of_le hb1.size) (fun k hk => (h1.lt k hk).1)))
        go_step3
        rw [show (m : Int) / 128 = ((m / 128 : Nat) : Int) from by omega]
        have hj : l.length + ([] ++ [UInt8.ofNat (128 + m % 128)]).length = l.length + 1 := by rw [List.length_append]; rfl
        have h3 : w2.ownsRow w.heap.size 5 1 (.slice A2 (l.length + 1) c2) (l.length + 1) ((l ++ ([] ++ [UInt8.ofNat (128 + m % 128)])).map B8) := by
          rw [List.nil_append, List.map_append]; exact h2
        have hd2 : Hid (([] ++ [UInt8.ofNat (128 + m % 128)]) ++ dig (m / 128) = numL x) := by
          show _ = _
          rw [List.append_assoc, ← hd.out, Hnx.out]; rfl
        exact ⟨rfl, m / 128, _, _, A2, c2, _, _, _, _, _, _, _, _, _, _, _, _, _, _, _, _, _, rfl, hj, h3, hb2, hd2, by omega⟩
      · have hgi : ¬ (127 : Int) < (m : Int) := by omega
        have Hnx := Lib.hid (dig_small m (by omega))
        go_step3
        go_wp2_with (first
          | (at_builtin
             refine wpList_app rfl (.tmp 23) (.tmp 26) _ rfl w.heap.size 5 1 1 _ Try.underlying38 info8 rfl (by omega) _ _ _ rfl (h1.alloc _) (w1.heap.size + 1) (some ⟨w1.heap.size, 0, none⟩) 1 1 _ rfl (one_cell8 w1 (UInt8.ofNat m) _ (byte_last m (by omega))) (B8_one _) (by simp only [maxLen]; omega) (by omega) (by simp; exact Nat.le_succ_of_le hb1.size) ?_
             intro A2 c2 w2 h2 hg2 _
             have hb2 : Below w.heap.size w w2 := (hb1.alloc hb1.size _).grown hg2 (by simp; exact Nat.le_succ_of_le hb1.size) (fun k hk => (h1.lt k hk).1)))
        simp only [Exit.jump]
        go_ret
        rw [← hd.out, Hnx.out]
        exact RetB.mk (n := l.length + 1) (by simp) rfl (by rw [List.nil_append, List.map_append]; exact h2) hb2
    · obtain ⟨m, rfl⟩ : ∃ m : Nat, x = m := ⟨x.toNat, by omega⟩
      have hd : Hid ([] ++ dig m = numL m) := by
        have : clampN m = m := by omega
        show _ = _
        unfold numL; rw [this]; rfl
      have hm : m ≤ 1099511627776 := by omega
      clear hcl
      by_cases hgt : 127 < m
      · have ha := and127 m (by omega)
        have ho := or128 ((m : Int) % 128) (by omega) (by omega)
        have hgi : (127 : Int) < (m : Int) := by omega
        have Hnx := Lib.hid (dig_great m (by omega))
        go_step3
        go_wp2_with (first
          | (at_builtin
             refine wpList_app rfl (.tmp 14) (.tmp 19) _ rfl w.heap.size 5 1 1 _ Try.underlying38 info8 rfl (by omega) _ _ _ rfl (h1.alloc _) (w1.heap.size + 1) (some ⟨w1.heap.size, 0, none⟩) 1 1 _ rfl (one_cell8 w1 (UInt8.ofNat (128 + m % 128)) _ (byte_more m)) (B8_one _) (by simp only [maxLen]; omega) (by omega) (by simp; exact Nat.le_succ_of_le hb1.size) ?_
             intro A2 c2 w2 h2 hg2 _
             have hb2 : Below w.heap.size w w2 := (hb1.alloc hb1.size _).grown hg2 (by simp; exact Nat.le_succ_of_le hb1.size) (fun k hk => (h1.lt k hk).1)))
        go_step3
        rw [show (m : Int) / 128 = ((m / 128 : Nat) : Int) from by omega]
        have hj : l.length + ([] ++ [UInt8.ofNat (128 + m % 128)]).length = l.length + 1 := by rw [List.length_append]; rfl
        have h3 : w2.ownsRow w.heap.size 5 1 (.slice A2 (l.length + 1) c2) (l.length + 1) ((l ++ ([] ++ [UInt8.ofNat (128 + m % 128)])).map B8) := by
          rw [List.nil_append, List.map_append]; exact h2
        have hd2 : Hid (([] ++ [UInt8.ofNat (128 + m % 128)]) ++ dig (m / 128) = numL m) := by
          show _ = _
          rw [List.append_assoc, ← hd.out, Hnx.out]; rfl
        exact ⟨rfl, m / 128, _, _, A2, c2, _, _, _, _, _, _, _, _, _, _, _, _, _, _, _, _, _, rfl, hj, h3, hb2, hd2, by omega⟩
      · have hgi : ¬ (127 : Int) < (m : Int) := by omega
        have Hnx := Lib.hid (dig_small m (by omega))
        go_step3
        go_wp2_with (first
          | (at_builtin
             refine wpList_app rfl (.tmp 23) (.tmp 26) _ rfl w.heap.size 5 1 1 _ Try.underlying38 info8 rfl (by omega) _ _ _ rfl (h1.alloc _) (w1.heap.size + 1) (some ⟨w1.heap.size, 0, none⟩) 1 1 _ rfl (one_cell8 w1 (UInt8.ofNat m) _ (byte_last m (by omega))) (B8_one _) (by simp only [maxLen]; omega) (by omega) (by simp; exact Nat.le_succ_of_le hb1.size) ?_
             intro A2 c2 w2 h2 hg2 _
             have hb2 : Below w.heap.size w w2 := (hb1.alloc hb1.size _).grown hg2 (by simp; exact Nat.le_succ_of_le hb1.size) (fun k hk => (h1.lt k hk).1)))
        simp only [Exit.jump]
        go_ret
        rw [← hd.out, Hnx.out]
        exact RetB.mk (n := l.length + 1) (by simp) rfl (by rw [List.nil_append, List.map_append]; exact h2) hb2
  · rintro a' w1 ⟨m, _, pre, A1, c1, u6, u7, u8, u9, u10, u11, u12, u13, u14, u15, u16, u17, u18, u19, u20, u21, u22, rfl, rfl, h1, hb1, hd, hm⟩
    have hpl := put_len hd.out
    by_cases hgt : 127 < m
    · have ha := and127 m (by omega)
      have ho := or128 ((m : Int) % 128) (by omega) (by omega)
      have hgi : (127 : Int) < (m : Int) := by omega
      have Hnx := Lib.hid (dig_great m (by omega))
      go_wp2_with (first
        | (at_builtin
           refine wpList_app rfl (.tmp 14) (.tmp 19) _ rfl w.heap.size 5 1 1 _ Try.underlying38 info8 rfl (by omega) _ _ _ rfl (h1.alloc _) (w1.heap.size + 1) (some ⟨w1.heap.size, 0, none⟩) 1 1 _ rfl (one_cell8 w1 (UInt8.ofNat (128 + m % 128)) _ (byte_more m)) (B8_one _) (by simp only [maxLen]; omega) (by omega) (by simp; exact Nat.le_succ_of_le hb1.size) ?_
           intro A2 c2 w2 h2 hg2 _
           have hb2 : Below w.heap.size w w2 := (hb1.alloc hb1.size _).grown hg2 (by simp; exact Nat.le_succ_of_le hb1.size) (fun k hk => (h1.lt k hk).1)))
      go_step3
      rw [show (m : Int) / 128 = ((m / 128 : Nat) : Int) from by omega]
      have hj : l.length + (pre ++ [UInt8.ofNat (128 + m % 128)]).length = l.length + pre.length + 1 := by rw [List.length_append]; rfl
      have h3 : w2.ownsRow w.heap.size 5 1 (.slice A2 (l.length + pre.length + 1) c2) (l.length + pre.length + 1) ((l ++ (pre ++ [UInt8.ofNat (128 + m % 128)])).map B8) := by
        rw [← List.append_assoc, List.map_append]; exact h2
      have hd2 : Hid ((pre ++ [UInt8.ofNat (128 + m % 128)]) ++ dig (m / 128) = numL x) := by
        show _ = _
        rw [List.append_assoc, ← hd.out, Hnx.out]; rfl
      exact ⟨rfl, ⟨m / 128, _, _, A2, c2, _, _, _, _, _, _, _, _, _, _, _, _, _, _, _, _, _, rfl, hj, h3, hb2, hd2, by omega⟩, by simp [intOf]; omega⟩
    · have hgi : ¬ (127 : Int) < (m : Int) := by omega
      have Hnx := Lib.hid (dig_small m (by omega))
      go_wp2_with (first
        | (at_builtin
           refine wpList_app rfl (.tmp 23) (.tmp 26) _ rfl w.heap.size 5 1 1 _ Try.underlying38 info8 rfl (by omega) _ _ _ rfl (h1.alloc _) (w1.heap.size + 1) (some ⟨w1.heap.size, 0, none⟩) 1 1 _ rfl (one_cell8 w1 (UInt8.ofNat m) _ (byte_last m (by omega))) (B8_one _) (by simp only [maxLen]; omega) (by omega) (by simp; exact Nat.le_succ_of_le hb1.size) ?_
           intro A2 c2 w2 h2 hg2 _
           have hb2 : Below w.heap.size w w2 := (hb1.alloc hb1.size _).grown hg2 (by simp; exact Nat.le_succ_of_le hb1.size) (fun k hk => (h1.lt k hk).1)))
      simp only [Exit.jump]
      go_ret
      rw [← hd.out, Hnx.out]
      exact RetB.mk (n := l.length + pre.length + 1) (by simp; omega) rfl (by rw [← List.append_assoc, List.map_append]; exact h2) hb2


/-- Text: the number of bytes, and the bytes. -/
def textL (s : List UInt8) : List UInt8 := numL s.length ++ s

set_option maxHeartbeats 1000000 in
theorem text_any (A : Option Addr) (n c : Nat) (l : List UInt8) (A' : Option Addr) (n' c' : Nat) (s : List UInt8) (w : World) (hr : Rd w w.heap.size 1 A n (l.map B8)) (hr' : Rd w w.heap.size 1 A' n' (s.map B8)) (hn : l.length + s.length ≤ 140737488355322) :
    Calls Try.prog 59 #[.slice A n c, .slice A' n' c'] w (RetB w.heap.size (l ++ textL s) w) := by
  obtain rfl : l.length = n := by simpa using hr.len
  obtain rfl : s.length = n' := by simpa using hr'.len
  have hl := numL_len s.length
  have hll : (l ++ numL s.length).length = l.length + (numL s.length).length := List.length_append
  have Hll := Lib.hid hll
  clear hll
  go_enter Try.func59, Try.ntmps59
  go_wp2_with (first
    | (go_at_call 58; refine (number_any A _ c l s.length _ hr (by omega)).mono ?_; rintro e w1 ⟨A1, c1, rfl, h1, hb1⟩
       rw [Hll.out] at h1
       have hr1 := hr'.to hb1)
    | (at_builtin
       refine wpList_app rfl (.tmp 8) (.tmp 9) _ rfl w.heap.size 5 1 1 _ Try.underlying38 info8 rfl (by omega) _ _ _ rfl h1 w1.heap.size A' s.length c' _ rfl hr1 (B8_one _) (by simp only [maxLen]; omega) (by omega) hb1.size ?_
       intro A2 c2 w2 h2 hg2 _
       have hb2 : Below w.heap.size w w2 := hb1.grown hg2 hb1.size (fun k hk => (h1.lt k hk).1)))
  go_ret
  unfold textL
  rw [← List.append_assoc]
  exact RetB.mk (by rw [List.length_append, Hll.out]) rfl (by rw [List.map_append]; exact h2) hb2

end Go.Proofs.Ytabcbpcfleociaa

/- The contracts of the document's Digits, Number, Text, Flag. -/
namespace Go.Proofs.Ytabcbpcfleociaa
open Go.RowKit

theorem lit1 (w : World) (u : Value) (b : UInt8) (h : B8 b = u) : (w.alloc (.cells #[u] 5)).ownsRow w.heap.size 5 1 (.slice (some ⟨w.heap.size, 0, none⟩) 1 1) 1 ([b].map B8) := by
  subst h
  exact World.ownsRow_lit w #[B8 b] 1 (Nat.le_refl _) (by simp [maxLen]) rfl
theorem clampN_nat (m : Nat) (h : m ≤ 1099511627776) : clampN m = m := by unfold clampN; omega
theorem numL_nat (m : Nat) (h : m ≤ 1099511627776) : numL m = dig m := by unfold numL; rw [clampN_nat m h]

set_option maxHeartbeats 1000000 in
theorem refDigits_nat : ∀ (k m : Nat) (w : World), m < 128 ^ (k + 1) → m ≤ 1099511627776 → Calls Try.prog 75 #[.int .i64 m] w (RetB w.heap.size (dig m) w) := by
  intro k
  induction k with
  | zero =>
    intro m w hm hM
    have hlt : (m : Int) < 128 := by omega
    go_enter Try.func75, Try.ntmps75
    go_wp2_with fail
    go_ret
    rw [dig_small m (by omega)]
    exact RetB.mk rfl rfl (lit1 w _ (UInt8.ofNat m) (congrArg (Value.int .u8) (byte_last m (by omega)))) ((Below.refl _ _).alloc (Nat.le_refl _) _)
  | succ k ih =>
    intro m w hm hM
    by_cases hlt0 : m < 128
    · have hlt : (m : Int) < 128 := by omega
      go_enter Try.func75, Try.ntmps75
      go_wp2_with fail
      go_ret
      rw [dig_small m hlt0]
      exact RetB.mk rfl rfl (lit1 w _ (UInt8.ofNat m) (congrArg (Value.int .u8) (byte_last m (by omega)))) ((Below.refl _ _).alloc (Nat.le_refl _) _)
    · have hlt : ¬ (m : Int) < 128 := by omega
      have hd : m / 128 < 128 ^ (k + 1) := by rw [Nat.pow_succ] at hm; exact Nat.div_lt_of_lt_mul (by rw [Nat.mul_comm]; exact hm)
      have hlen := numL_len (m / 128 : Nat)
      rw [numL_nat _ (by omega)] at hlen
      have Hnx := Lib.hid (dig_great m (by omega))
      go_enter Try.func75, Try.ntmps75
      go_wp2_with fail
      rw [show (m : Int) / 128 = ((m / 128 : Nat) : Int) from by omega]
      refine (ih (m / 128) _ hd (by omega)).mono ?_
      rintro r w1 ⟨A1, c1, rfl, h1, hb1⟩
      have hl1 := own_to (lit1 w _ (UInt8.ofNat (128 + m % 128)) (congrArg (Value.int .u8) (byte_more m))) hb1
      have hb0 : Below w.heap.size w w1 := ((Below.refl _ _).alloc (Nat.le_refl _) _).trans (hb1.mono (by simp))
      go_wp2_with (first
        | (at_builtin
           refine wpList_app rfl (.tmp 15) (.tmp 18) _ rfl w.heap.size 5 1 1 _ Try.underlying38 info8 rfl (by omega) _ _ _ rfl hl1 w1.heap.size A1 _ c1 _ rfl (Rd.of_own h1) (B8_one _) (by simp only [maxLen]; omega) (by omega) hb0.size ?_
           intro A2 c2 w2 h2 hg2 _
           have hb2 : Below w.heap.size w w2 := hb0.grown hg2 hb0.size (fun k hk => (hl1.lt k hk).1)))
      go_ret
      rw [Hnx.out]
      exact RetB.mk (n := 1 + (dig (m / 128)).length) (by rw [List.length_cons, Nat.add_comm]) rfl (by rw [← List.map_append] at h2; exact h2) hb2
theorem refDigits_any (x : Int) (w : World) : Calls Try.prog 75 #[.int .i64 x] w (RetB w.heap.size (numL x) w) := by
  rcases clamp_at x with ⟨h0, hc⟩ | ⟨h0, hc⟩ | ⟨h0, h1, hc⟩
  · unfold numL
    rw [hc]
    go_enter Try.func75, Try.ntmps75
    go_wp2_with fail
    go_ret
    exact RetB.mk rfl rfl (lit1 w _ 0 rfl) ((Below.refl _ _).alloc (Nat.le_refl _) _)
  · unfold numL
    rw [hc]
    go_enter Try.func75, Try.ntmps75
    go_wp2_with fail
    refine (refDigits_nat 5 8589934592 _ (by omega) (by omega)).mono ?_
    rintro r w1 ⟨A1, c1, rfl, h1, hb1⟩
    have hlen := numL_len (8589934592 : Nat)
    rw [numL_nat _ (by omega)] at hlen
    have hl1 := own_to (lit1 w _ 128 rfl) hb1
    have hb0 : Below w.heap.size w w1 := ((Below.refl _ _).alloc (Nat.le_refl _) _).trans (hb1.mono (by simp))
    go_wp2_with (first
      | (at_builtin
         refine wpList_app rfl (.tmp 15) (.tmp 18) _ rfl w.heap.size 5 1 1 _ Try.underlying38 info8 rfl (by omega) _ _ _ rfl hl1 w1.heap.size A1 _ c1 _ rfl (Rd.of_own h1) (B8_one _) (by simp only [maxLen]; omega) (by omega) hb0.size ?_
         intro A2 c2 w2 h2 hg2 _
         have hb2 : Below w.heap.size w w2 := hb0.grown hg2 hb0.size (fun k hk => (hl1.lt k hk).1)))
    go_ret
    rw [dig_great 1099511627776 (by omega)]
    exact RetB.mk (n := 1 + (dig 8589934592).length) (by rw [List.length_cons, Nat.add_comm]) rfl (by rw [← List.map_append] at h2; exact h2) hb2
  · obtain ⟨m, rfl⟩ := Int.eq_ofNat_of_zero_le h0
    unfold numL
    rw [clampN_nat m (by omega)]
    exact refDigits_nat 5 m w (by omega) (by omega)

theorem refNumber_any (A : Option Addr) (n c : Nat) (l : List UInt8) (x : Int) (w : World) (hr : Rd w w.heap.size 1 A n (l.map B8)) (hn : l.length ≤ 140737488355322) :
    Calls Try.prog 61 #[.slice A n c, .int .i64 x] w (RetB w.heap.size (l ++ numL x) w) := by
  obtain rfl : l.length = n := by simpa using hr.len
  have hlen := numL_len x
  go_enter Try.func61, Try.ntmps61
  go_wp2_with (first
    | (at_builtin
       refine wpList_app rfl (.tmp 5) (.tmp 6) _ rfl w.heap.size 5 1 1 _ Try.underlying38 info8 rfl (by omega) (.slice (some ⟨w.heap.size, 0, none⟩) 0 0) 0 [] rfl (World.ownsRow_lit w #[] 0 (Nat.le_refl _) (by simp [maxLen]) rfl) w.heap.size A l.length c _ rfl (hr.alloc (Nat.le_refl _) _) (B8_one _) (by simp only [maxLen]; omega) (by omega) (by simp) ?_
       intro A1 c1 w1 h1 hg1 _
       simp only [Nat.zero_add, List.nil_append] at h1
       have hb1 : Below w.heap.size w w1 := ((Below.refl _ _).alloc (Nat.le_refl _) _).grown hg1 (by simp) (fun k hk => by simp [Value.ownBlock] at hk; omega))
    | (go_at_call 75; refine (refDigits_any x _).mono ?_; rintro r w2 ⟨A2, c2, rfl, h2, hb2⟩; have h1' := own_to h1 hb2; have hb3 := hb1.trans (hb2.mono hb1.size))
    | (at_builtin
       refine wpList_app rfl (.tmp 7) (.tmp 9) _ rfl w.heap.size 5 1 1 _ Try.underlying38 info8 rfl (by omega) _ _ _ rfl h1' w2.heap.size A2 _ c2 _ rfl (Rd.of_own h2) (B8_one _) (by simp only [maxLen]; omega) (by omega) hb3.size ?_
       intro A3 c3 w3 h3 hg3 _
       have hb4 : Below w.heap.size w w3 := hb3.grown hg3 hb3.size (fun k hk => (h1'.lt k hk).1)))
  go_ret
  exact RetB.mk List.length_append rfl (by rw [List.map_append]; exact h3) hb4
theorem refText_any (A : Option Addr) (n c : Nat) (l : List UInt8) (A' : Option Addr) (n' c' : Nat) (s : List UInt8) (w : World) (hr : Rd w w.heap.size 1 A n (l.map B8)) (hr' : Rd w w.heap.size 1 A' n' (s.map B8)) (hn : l.length + s.length ≤ 140737488355322) :
    Calls Try.prog 62 #[.slice A n c, .slice A' n' c'] w (RetB w.heap.size (l ++ textL s) w) := by
  obtain rfl : l.length = n := by simpa using hr.len
  obtain rfl : s.length = n' := by simpa using hr'.len
  have hl := numL_len s.length
  have hll : (l ++ numL s.length).length = l.length + (numL s.length).length := List.length_append
  have Hll := Lib.hid hll
  clear hll
  go_enter Try.func62, Try.ntmps62
  go_wp2_with (first
    | (go_at_call 61; refine (refNumber_any A _ c l s.length _ hr (by omega)).mono ?_; rintro e w1 ⟨A1, c1, rfl, h1, hb1⟩
       rw [Hll.out] at h1
       have hr1 := hr'.to hb1)
    | (at_builtin
       refine wpList_app rfl (.tmp 8) (.tmp 9) _ rfl w.heap.size 5 1 1 _ Try.underlying38 info8 rfl (by omega) _ _ _ rfl h1 w1.heap.size A' s.length c' _ rfl hr1 (B8_one _) (by simp only [maxLen]; omega) (by omega) hb1.size ?_
       intro A2 c2 w2 h2 hg2 _
       have hb2 : Below w.heap.size w w2 := hb1.grown hg2 hb1.size (fun k hk => (h1.lt k hk).1)))
  go_ret
  unfold textL
  rw [← List.append_assoc]
  exact RetB.mk (by rw [List.length_append, Hll.out]) rfl (by rw [List.map_append]; exact h2) hb2
end Go.Proofs.Ytabcbpcfleociaa
