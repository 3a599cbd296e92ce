/- The contracts of a reader's left, fine, next. -/
import Derived.Test.YtfobjpngajhdkaaWirA
import Derived.Deep.QuietTactic
import Derived.BigQuiet
import Derived.ScopeJumps
namespace Go.Proofs.Ytfobjpngajhdkaa
open Go.RowKit

/-- Nothing but the count of draws has turned. -/
structure Still (w w' : World) : Prop where
  heap : w'.heap = w.heap
  os : w'.os = w.os
  tape : w'.tape = w.tape
  output : w'.output = w.output
theorem Still.refl (w : World) : Still w w := ⟨rfl, rfl, rfl, rfl⟩
theorem Still.trans {a b c : World} (h : Still a b) (k : Still b c) : Still a c := ⟨k.heap.trans h.heap, k.os.trans h.os, k.tape.trans h.tape, k.output.trans h.output⟩
theorem Still.drewN (w : World) (n : Nat) : Still w (w.drewN n) := ⟨rfl, rfl, rfl, rfl⟩
theorem Still.drew {a w : World} (h : Still a w) : Still a w.drew := ⟨h.heap, h.os, h.tape, h.output⟩
theorem Still.below {w w' : World} (h : Still w w') (B : Nat) : Below B w w' := ⟨h.os, h.tape, h.output, by rw [h.heap]; exact Nat.le_refl _, fun k _ => by rw [h.heap]⟩
theorem Still.size {w w' : World} (h : Still w w') : w'.heap.size = w.heap.size := by rw [h.heap]

/-- A reader lies in block g: its bytes are a slice, it stands at 'at_', its error is e. -/
def Rdr (w : World) (g : Nat) (A : Option Addr) (n c : Nat) (at_ : Nat) (e : Int) : Prop :=
  w.heap[g]? = some (.cells #[.slice A n c, .int .i64 at_, .bool true, .int .i64 e] 45 (0, 0))
section
variable {w w' : World} {g : Nat} {A : Option Addr} {n c at_ : Nat} {e : Int}
theorem Rdr.c0 (h : Rdr w g A n c at_ e) : w.cell? ⟨g, 0, none⟩ = some (.slice A n c) := by unfold Rdr at h; simp [World.cell?, h]
theorem Rdr.c1 (h : Rdr w g A n c at_ e) : w.cell? ⟨g, 1, none⟩ = some (.int .i64 at_) := by unfold Rdr at h; simp [World.cell?, h]
theorem Rdr.c2 (h : Rdr w g A n c at_ e) : w.cell? ⟨g, 2, none⟩ = some (.bool true) := by unfold Rdr at h; simp [World.cell?, h]
theorem Rdr.c3 (h : Rdr w g A n c at_ e) : w.cell? ⟨g, 3, none⟩ = some (.int .i64 e) := by unfold Rdr at h; simp [World.cell?, h]
theorem Rdr.fz (h : Rdr w g A n c at_ e) (i : Nat) : w.frozen? ⟨g, i, none⟩ = false := by unfold Rdr at h; simp [World.frozen?, h]
theorem Rdr.lt (h : Rdr w g A n c at_ e) : g < w.heap.size := (Array.getElem?_eq_some_iff.1 h).1
theorem Rdr.still (h : Rdr w g A n c at_ e) (hs : Still w w') : Rdr w' g A n c at_ e := by unfold Rdr at *; rw [hs.heap]; exact h
theorem Rdr.below {B : Nat} (h : Rdr w g A n c at_ e) (hb : Below B w w') (hg : g < B) : Rdr w' g A n c at_ e := (hb.block g hg).trans h
theorem Rdr.to (h : Rdr w g A n c at_ e) (hb : Below w.heap.size w w') : Rdr w' g A n c at_ e := h.below hb h.lt
end

theorem left_any (g : Nat) (A : Option Addr) (n c at_ : Nat) (e : Int) (w : World) (h : Rdr w g A n c at_ e) (hn : n ≤ 140737488355328) (ha : at_ ≤ n) :
    Calls Try.prog 28 #[.pointer (some ⟨g, 0, none⟩)] w fun r w' => r = .returned (.int .i64 ((n : Int) - at_)) ∧ Still w w' := by
  have h0 := h.c0
  have h1 := h.c1
  go_enter Try.func28, Try.ntmps28
  go_wp2
  go_quiet (fail)
  go_wp2
  go_ret
  exact ⟨rfl, Still.drewN _ _⟩

theorem fine_yes (g : Nat) (A : Option Addr) (n c at_ : Nat) (w : World) (h : Rdr w g A n c at_ 0) :
    Calls Try.prog 26 #[.pointer (some ⟨g, 0, none⟩)] w fun r w' => r = .returned (.bool true) ∧ w = w' := by
  have h2 := h.c2
  have h3 := h.c3
  go_enter Try.func26, Try.ntmps26
  go_wp2
  go_ret
  exact ⟨rfl, rfl⟩
theorem fine_no (g : Nat) (A : Option Addr) (n c at_ : Nat) (e : Int) (w : World) (h : Rdr w g A n c at_ e) (he : (e == 0) = false) :
    Calls Try.prog 26 #[.pointer (some ⟨g, 0, none⟩)] w fun r w' => r = .returned (.bool false) ∧ w = w' := by
  have h2 := h.c2
  have h3 := h.c3
  go_enter Try.func26, Try.ntmps26
  go_wp2
  go_ret
  exact ⟨rfl, rfl⟩
theorem fine_nil (w : World) : Calls Try.prog 26 #[.pointer none] w fun r w' => r = .returned (.bool false) ∧ w = w' := by
  go_enter Try.func26, Try.ntmps26
  go_wp2
  go_ret
  exact ⟨rfl, rfl⟩
theorem fine_plain (g : Nat) (w : World) (h2 : w.cell? ⟨g, 2, none⟩ = some (.bool false)) :
    Calls Try.prog 26 #[.pointer (some ⟨g, 0, none⟩)] w fun r w' => r = .returned (.bool false) ∧ w = w' := by
  go_enter Try.func26, Try.ntmps26
  go_wp2
  go_ret
  exact ⟨rfl, rfl⟩

theorem and127b (y : UInt8) : bits .and .u8 (y.toNat : Int) 127 = (y.toNat : Int) % 128 := by
  have : ∀ y : UInt8, bits .and .u8 (y.toNat : Int) 127 = (y.toNat : Int) % 128 := by
    intro y
    show IntKind.u8.wrap ((BitVec.ofInt 8 (y.toNat : Int) &&& BitVec.ofInt 8 127).toNat : Int) = _
    have e1 : (BitVec.ofInt 8 (y.toNat : Int)).toNat = y.toNat := by rw [BitVec.ofInt_natCast, BitVec.toNat_ofNat]; exact Nat.mod_eq_of_lt y.toNat_lt
    have e2 : (BitVec.ofInt 8 127).toNat = 127 := by decide
    rw [BitVec.toNat_and, e1, e2, show (127 : Nat) = 2 ^ 7 - 1 from rfl, Nat.and_two_pow_sub_one_eq_mod, IntKind.wrap_u8]
    omega
  exact this y

theorem pow_128 (k : Nat) : 2 ^ (7 * k) = 128 ^ k := by rw [Nat.pow_mul]
theorem put_bd (acc k r : Nat) (hk : k ≤ 5) (ha : acc < 128 ^ k) (hr : r < 128) : acc + r * 128 ^ k < 128 ^ (k + 1) ∧ 128 ^ (k + 1) ≤ 4398046511104 ∧ r * 128 ^ k ≤ 4363686772736 := by
  have h1 : 128 ^ (k + 1) ≤ 128 ^ 6 := Nat.pow_le_pow_right (by omega) (by omega)
  have h2 : 128 ^ k ≤ 128 ^ 5 := Nat.pow_le_pow_right (by omega) hk
  have h3 : r * 128 ^ k ≤ 127 * 128 ^ k := Nat.mul_le_mul_right _ (by omega)
  rw [Nat.pow_succ] at *
  omega
theorem or_put (acc k : Nat) (y : UInt8) (hk : k ≤ 5) (ha : acc < 128 ^ k) : bits .or .i64 (acc : Int) (wrap64 ((y.toNat : Int) % 128 * 2 ^ (7 * k))) = ((acc + y.toNat % 128 * 128 ^ k : Nat) : Int) := by
  have hb := put_bd acc k (y.toNat % 128) hk ha (by omega)
  have e0 : (y.toNat : Int) % 128 * 2 ^ (7 * k) = ((y.toNat % 128 * 128 ^ k : Nat) : Int) := by
    rw [← pow_128, Int.natCast_mul, Int.natCast_pow]; rfl
  have hor : acc ||| y.toNat % 128 * 128 ^ k = acc + y.toNat % 128 * 128 ^ k := by
    rw [← pow_128] at *
    have h := Nat.two_pow_add_eq_or_of_lt (i := 7 * k) (b := acc) ha (y.toNat % 128)
    rw [Nat.or_comm, Nat.mul_comm (y.toNat % 128), ← h]
    exact Nat.add_comm _ _
  rw [e0]
  generalize y.toNat % 128 * 128 ^ k = z at *
  have hw : wrap64 (z : Int) = z := by unfold wrap64; omega
  rw [hw]
  show IntKind.i64.wrap ((BitVec.ofInt 64 (acc : Int) ||| BitVec.ofInt 64 (z : Int)).toNat : Int) = _
  have e1 : (BitVec.ofInt 64 (acc : Int)).toNat = acc := by rw [BitVec.ofInt_natCast, BitVec.toNat_ofNat]; exact Nat.mod_eq_of_lt (by omega)
  have e2 : (BitVec.ofInt 64 (z : Int)).toNat = z := by rw [BitVec.ofInt_natCast, BitVec.toNat_ofNat]; exact Nat.mod_eq_of_lt (by omega)
  rw [BitVec.toNat_or, e1, e2, hor, IntKind.wrap_i64]
  omega
theorem nxt_at {L : List UInt8} {k acc : Nat} {y : UInt8} (hy : L[k]? = some y) : nxt (L.drop k) k acc =
    if 128 ≤ y.toNat ∧ k + 1 < 6 then nxt (L.drop (k + 1)) (k + 1) (acc + y.toNat % 128 * 128 ^ k)
    else if 128 ≤ y.toNat ∨ (y.toNat = 0 ∧ 1 < k + 1) then (0, 0, 5)
    else if 1099511627776 < acc + y.toNat % 128 * 128 ^ k then (0, 0, 6)
    else (acc + y.toNat % 128 * 128 ^ k, k + 1, 0) := by
  have hlt : k < L.length := by
    rcases Nat.lt_or_ge k L.length with h | h
    · exact h
    · rw [List.getElem?_eq_none h] at hy; cases hy
  rw [List.drop_eq_getElem_cons hlt]
  rw [List.getElem?_eq_getElem hlt] at hy
  injection hy with hy
  rw [hy]; rfl

/-- A scope with one label to which the run jumps back: what holds at the label leads on, also the first time. -/
theorem wp_scope_both {P : Program} {a : Act} {w : World} {Q : Exit → Act → World → Prop} {c rest : Code} (l : Nat) (J : Act → World → Prop) (μ : Act → World → Nat) (hf : findLabel c l = some (.seq .skip rest))
    (pass : ∀ a w, J a w → rest.wp P (Exit.jump l (fun a' w' => J a' w' ∧ μ a' w' < μ a w) Q) a w)
    (first : (∀ a w, J a w → rest.wp P (Exit.jump l J Q) a w) → c.wp P (Exit.jump l J Q) a w) : (Code.scope c).wp P Q a w :=
  wp_scope_jumps l J μ hf (first fun a w h => Code.wp_mono (fun e a' w' h' => by
    cases e with
    | goto l' => exact ⟨h'.1, h'.2.1⟩
    | normal => exact h'
    | exit id => exact h'
    | ret => exact h'
    | panic ch => exact h'
    | outgrown => exact h') (pass a w h)) (fun a w h => wp_seq (wp_skip (pass a w h)))

/-- The state at the label of next. -/
def JX (w : World) (g : Nat) (R : Nat × Nat × Int) (L : List UInt8) (a' : Act) (w' : World) : Prop :=
  ∃ (k acc : Nat) (u8 u9 u10 u11 u12 u13 u14 u15 u16 u17 u18 u19 u20 u21 u22 u23 u24 u25 u26 u27 u28 u29 u30 u31 u32 u33 u34 u35 u36 u37 u38 u39 u40 u41 u42 u43 u44 u45 : Value),
    a' = { tmps := #[.pointer (some ⟨g, 0, none⟩), undef, .int .i64 0, .int .i64 0, .int .i64 0, .int .i64 acc, .int .i64 k, .int .i64 (7 * k), u8, u9, u10, u11, u12, u13, u14, u15, u16, u17, u18, u19, u20, u21, u22, u23, u24, u25, u26, u27, u28, u29, u30, u31, u32, u33, u34, u35, u36, u37, u38, u39, u40, u41, u42, u43, u44, u45, undef, undef, undef, undef, undef, undef, undef, undef, undef, undef, undef, undef, undef, undef], defers := [] } ∧
    Still w w' ∧ k ≤ 5 ∧ acc < 128 ^ k ∧ Hid (nxt (L.drop k) k acc = R) ∧ k ≤ L.length

set_option maxHeartbeats 2000000 in
theorem next_any (g : Nat) (A : Option Addr) (n c at_ : Nat) (e : Int) (l : List UInt8) (w : World) (h : Rdr w g A n c at_ e) (hr : Rd w w.heap.size 1 A n (l.map B8)) (hn : n ≤ 140737488355328) (ha : at_ ≤ n) (x kk : Nat) (f : Int)
    (hx : nxt (l.drop at_) 0 0 = (x, kk, f)) :
    Calls Try.prog 27 #[.pointer (some ⟨g, 0, none⟩)] w fun r w' => r = .returned (.tuple #[.int .i64 x, .int .i64 kk, .int .i64 f]) ∧ Still w w' := by
  obtain rfl : l.length = n := by simpa using hr.len
  go_enter Try.func27, Try.ntmps27
  go_wp2
  refine wp_scope_both 0 (JX w g (x, kk, f) (l.drop at_)) (fun a' _ => 6 - (intOf (a'.tmps.getD 6 undef)).toNat) rfl ?_ ?_
  · rintro a' w1 ⟨k, acc, u8, u9, u10, u11, u12, u13, u14, u15, u16, u17, u18, u19, u20, u21, u22, u23, u24, u25, u26, u27, u28, u29, u30, u31, u32, u33, u34, u35, u36, u37, u38, u39, u40, u41, u42, u43, u44, u45, rfl, hs, hk, hacc, hR, hkl⟩
    have h1 := h.still hs
    have hr1 := hr.keep (w' := w1) (fun p _ => by simp [World.cell?, hs.heap])
    simp only [List.length_drop] at hkl
    go_wp2_with fail
    refine (left_any g A _ c at_ e _ h1 hn ha).mono ?_; rintro r w2 ⟨rfl, hs2⟩
    have h2 := h1.still hs2
    have hr2 := hr1.keep (w' := w2) (fun p _ => by simp [World.cell?, hs2.heap])
    by_cases hend : at_ + k = l.length
    · have ht : ((k : Int) == (l.length : Int) - at_) = true := by rw [beq_iff_eq]; omega
      have hR2 : nxt [] k acc = (x, kk, f) := by rw [← hR.out, List.drop_drop, List.drop_eq_nil_of_le (by omega)]
      simp only [nxt, Prod.mk.injEq] at hR2
      obtain ⟨rfl, rfl, rfl⟩ := hR2
      go_wp2_with fail
      simp only [Exit.jump]
      go_ret3
      exact ⟨rfl, hs.trans hs2⟩
    · have ht : ((k : Int) == (l.length : Int) - at_) = false := by rw [beq_eq_false_iff_ne]; omega
      obtain ⟨b, o, y, rfl, hb, hy, hc⟩ := hr2.at8 (k := at_ + k) (by omega)
      have hc0 := h2.c0
      have hc1 := h2.c1
      have hw1 : IntKind.i64.wrap ((at_ : Int) + k) = (at_ : Int) + k := IntWalk.i64_in _ (by omega)
      have hw2 : 0 ≤ (at_ : Int) + k := by omega
      have hw3 : ((at_ : Int) + k).toNat = at_ + k := by omega
      have hw4 : (at_ : Int) + k < (l.length : Int) := by omega
      have hyb := byte_lt y
      have han := and127b y
      have hor := or_put acc k y hk hacc
      have hbd := put_bd acc k (y.toNat % 128) hk hacc (by omega)
      have hst := nxt_at (L := l.drop at_) (k := k) (acc := acc) (y := y) (by rw [List.getElem?_drop]; exact hy.out)
      rw [hR.out] at hst
      generalize acc + y.toNat % 128 * 128 ^ k = V at *
      have Hst := Lib.hid hst
      clear hst
      by_cases hA : 128 ≤ y.toNat ∧ k + 1 < 6
      · have hA1 : (127 : Int) < (y.toNat : Int) := by omega
        have hA2 : (k : Int) + 1 < 6 := by omega
        have hst2 := Hst.out
        rw [if_pos hA] at hst2
        have HR := Lib.hid hst2.symm
        clear hst2
        go_wp2_with fail
        go_quiet (fail)
        go_wp2_with fail
        clear hw1 hw2 hw3 hw4
        go_step3
        rw [show (k : Int) + 1 = ((k + 1 : Nat) : Int) from by omega, show 7 * (k : Int) + 7 = 7 * ((k + 1 : Nat) : Int) from by omega]
        exact ⟨rfl, ⟨k + 1, _, _, _, _, _, _, _, _, _, _, _, _, _, _, _, _, _, _, _, _, _, _, _, _, _, _, _, _, _, _, _, _, _, _, _, _, _, _, _, rfl, (hs.trans hs2).trans (Still.drewN _ _), by omega, hbd.1, HR.out, by rw [List.length_drop]; omega⟩, by simp [intOf]; omega⟩
      · have hst2 := Hst.out
        rw [if_neg hA] at hst2
        by_cases hB : 128 ≤ y.toNat ∨ (y.toNat = 0 ∧ 1 < k + 1)
        · rw [if_pos hB] at hst2
          simp only [Prod.mk.injEq] at hst2
          obtain ⟨rfl, rfl, rfl⟩ := hst2
          by_cases hC : 128 ≤ y.toNat
          · have hC1 : (127 : Int) < (y.toNat : Int) := by omega
            have hC2 : ¬ (k : Int) + 1 < 6 := by omega
            go_wp2_with fail
            go_quiet (fail)
            go_wp2_with fail
            simp only [Exit.jump]
            go_ret3
            exact ⟨rfl, (hs.trans hs2).trans (Still.drewN _ _)⟩
          · have hC1 : ¬ (127 : Int) < (y.toNat : Int) := by omega
            have hC2 : ((y.toNat : Int) == 0) = true := by rw [beq_iff_eq]; omega
            have hC3 : (1 : Int) < (k : Int) + 1 := by omega
            go_wp2_with fail
            go_quiet (fail)
            go_wp2_with fail
            simp only [Exit.jump]
            go_ret3
            exact ⟨rfl, (hs.trans hs2).trans (Still.drewN _ _)⟩
        · rw [if_neg hB] at hst2
          have hC1 : ¬ (127 : Int) < (y.toNat : Int) := by omega
          have hD : ((y.toNat : Int) == 0 && decide ((1 : Int) < (k : Int) + 1)) = false := by
            rw [Bool.and_eq_false_iff, beq_eq_false_iff_ne, decide_eq_false_iff_not]; omega
          by_cases hE : 1099511627776 < V
          · rw [if_pos hE] at hst2
            simp only [Prod.mk.injEq] at hst2
            obtain ⟨rfl, rfl, rfl⟩ := hst2
            have hE1 : (1099511627776 : Int) < (V : Int) := by omega
            by_cases hy0 : y.toNat = 0
            · have hC2 : ((y.toNat : Int) == 0) = true := by rw [beq_iff_eq]; omega
              have hC3 : ¬ (1 : Int) < (k : Int) + 1 := by omega
              clear hy0
              go_wp2_with fail
              go_quiet (fail)
              go_wp2_with fail
              simp only [Exit.jump]
              go_ret3
              exact ⟨rfl, (hs.trans hs2).trans (Still.drewN _ _)⟩
            · have hC2 : ((y.toNat : Int) == 0) = false := by rw [beq_eq_false_iff_ne]; omega
              go_wp2_with fail
              go_quiet (fail)
              go_wp2_with fail
              simp only [Exit.jump]
              go_ret3
              exact ⟨rfl, (hs.trans hs2).trans (Still.drewN _ _)⟩
          · rw [if_neg hE] at hst2
            simp only [Prod.mk.injEq] at hst2
            obtain ⟨rfl, rfl, rfl⟩ := hst2
            have hE1 : ¬ (1099511627776 : Int) < (x : Int) := by omega
            by_cases hy0 : y.toNat = 0
            · have hC2 : ((y.toNat : Int) == 0) = true := by rw [beq_iff_eq]; omega
              have hC3 : ¬ (1 : Int) < (k : Int) + 1 := by omega
              clear hy0
              go_wp2_with fail
              go_quiet (fail)
              go_wp2_with fail
              simp only [Exit.jump]
              go_ret3
              exact ⟨rfl, (hs.trans hs2).trans (Still.drewN _ _)⟩
            · have hC2 : ((y.toNat : Int) == 0) = false := by rw [beq_eq_false_iff_ne]; omega
              go_wp2_with fail
              go_quiet (fail)
              go_wp2_with fail
              simp only [Exit.jump]
              go_ret3
              exact ⟨rfl, (hs.trans hs2).trans (Still.drewN _ _)⟩
  · intro hpass
    go_wp2
    go_step3
    rename_i hK
    refine hK _ _ (hpass _ _ ?_)
    exact ⟨0, 0, _, _, _, _, _, _, _, _, _, _, _, _, _, _, _, _, _, _, _, _, _, _, _, _, _, _, _, _, _, _, _, _, _, _, _, _, _, _, rfl, Still.refl _, by omega, by simp, (show nxt _ 0 0 = _ from by rw [List.drop_zero]; exact hx), Nat.zero_le _⟩
end Go.Proofs.Ytfobjpngajhdkaa
