/- The contracts of a reader's left, fine, next. -/
import Derived.Test.YtabcbpcfleociaaMWk
import Derived.Deep.QuietTactic
import Derived.BigQuiet
import Derived.ScopeJumps
import Derived.Deep.RegionHeld3
import Derived.Deep.RegionLaw
import Derived.Test.YtabcbpcfleociaaMChk
namespace Go.Proofs.Ytabcbpcfleociaa
open Go.RowKit

/-- Nothing but the count of draws has turned. -/
structure Still (w w' : World) : Prop where
  heap : w'.heap = w.heap
  os : w'.os = w.os
  tape : w'.tape = w.tape
  output : w'.output = w.output
theorem Still.refl (w : World) : Still w w := ⟨rfl, rfl, rfl, rfl⟩
theorem Still.trans {a b c : World} (h : Still a b) (k : Still b c) : Still a c := ⟨k.heap.trans h.heap, k.os.trans h.os, k.tape.trans h.tape, k.output.trans h.output⟩
theorem Still.drewN (w : World) (n : Nat) : Still w (w.drewN n) := ⟨rfl, rfl, rfl, rfl⟩
theorem Still.drew {a w : World} (h : Still a w) : Still a w.drew := ⟨h.heap, h.os, h.tape, h.output⟩
theorem Still.below {w w' : World} (h : Still w w') (B : Nat) : Below B w w' := ⟨h.os, h.tape, h.output, by rw [h.heap]; exact Nat.le_refl _, fun k _ => by rw [h.heap]⟩
theorem Still.size {w w' : World} (h : Still w w') : w'.heap.size = w.heap.size := by rw [h.heap]

/-- A reader lies in block g: its bytes are a slice, it stands at 'at_', its error is e. -/
def Rdr (w : World) (g : Nat) (A : Option Addr) (n c : Nat) (at_ : Nat) (e : Int) : Prop :=
  w.heap[g]? = some (.cells #[.slice A n c, .int .i64 at_, .bool true, .int .i64 e] 141 (0, 0))
section
variable {w w' : World} {g : Nat} {A : Option Addr} {n c at_ : Nat} {e : Int}
theorem Rdr.c0 (h : Rdr w g A n c at_ e) : w.cell? ⟨g, 0, none⟩ = some (.slice A n c) := by unfold Rdr at h; simp [World.cell?, h]
theorem Rdr.c1 (h : Rdr w g A n c at_ e) : w.cell? ⟨g, 1, none⟩ = some (.int .i64 at_) := by unfold Rdr at h; simp [World.cell?, h]
theorem Rdr.c2 (h : Rdr w g A n c at_ e) : w.cell? ⟨g, 2, none⟩ = some (.bool true) := by unfold Rdr at h; simp [World.cell?, h]
theorem Rdr.c3 (h : Rdr w g A n c at_ e) : w.cell? ⟨g, 3, none⟩ = some (.int .i64 e) := by unfold Rdr at h; simp [World.cell?, h]
theorem Rdr.fz (h : Rdr w g A n c at_ e) (i : Nat) : w.frozen? ⟨g, i, none⟩ = false := by unfold Rdr at h; simp [World.frozen?, h]
theorem Rdr.lt (h : Rdr w g A n c at_ e) : g < w.heap.size := (Array.getElem?_eq_some_iff.1 h).1
theorem Rdr.still (h : Rdr w g A n c at_ e) (hs : Still w w') : Rdr w' g A n c at_ e := by unfold Rdr at *; rw [hs.heap]; exact h
theorem Rdr.below {B : Nat} (h : Rdr w g A n c at_ e) (hb : Below B w w') (hg : g < B) : Rdr w' g A n c at_ e := (hb.block g hg).trans h
theorem Rdr.to (h : Rdr w g A n c at_ e) (hb : Below w.heap.size w w') : Rdr w' g A n c at_ e := h.below hb h.lt
end

theorem left_any (g : Nat) (A : Option Addr) (n c at_ : Nat) (e : Int) (w : World) (h : Rdr w g A n c at_ e) (hn : n ≤ 140737488355328) (ha : at_ ≤ n) :
    Calls Try.prog 72 #[.pointer (some ⟨g, 0, none⟩)] w fun r w' => r = .returned (.int .i64 ((n : Int) - at_)) ∧ Still w w' := by
  have h0 := h.c0
  have h1 := h.c1
  go_enter Try.func72, Try.ntmps72
  go_wp2
  go_quiet (fail)
  go_wp2
  go_ret
  exact ⟨rfl, Still.drewN _ _⟩

theorem fine_yes (g : Nat) (A : Option Addr) (n c at_ : Nat) (w : World) (h : Rdr w g A n c at_ 0) :
    Calls Try.prog 77 #[.pointer (some ⟨g, 0, none⟩)] w fun r w' => r = .returned (.bool true) ∧ w = w' := by
  have h2 := h.c2
  have h3 := h.c3
  go_enter Try.func77, Try.ntmps77
  go_wp2
  go_ret
  exact ⟨rfl, rfl⟩
theorem fine_no (g : Nat) (A : Option Addr) (n c at_ : Nat) (e : Int) (w : World) (h : Rdr w g A n c at_ e) (he : (e == 0) = false) :
    Calls Try.prog 77 #[.pointer (some ⟨g, 0, none⟩)] w fun r w' => r = .returned (.bool false) ∧ w = w' := by
  have h2 := h.c2
  have h3 := h.c3
  go_enter Try.func77, Try.ntmps77
  go_wp2
  go_ret
  exact ⟨rfl, rfl⟩
theorem fine_nil (w : World) : Calls Try.prog 77 #[.pointer none] w fun r w' => r = .returned (.bool false) ∧ w = w' := by
  go_enter Try.func77, Try.ntmps77
  go_wp2
  go_ret
  exact ⟨rfl, rfl⟩
theorem fine_plain (g : Nat) (w : World) (h2 : w.cell? ⟨g, 2, none⟩ = some (.bool false)) :
    Calls Try.prog 77 #[.pointer (some ⟨g, 0, none⟩)] w fun r w' => r = .returned (.bool false) ∧ w = w' := by
  go_enter Try.func77, Try.ntmps77
  go_wp2
  go_ret
  exact ⟨rfl, rfl⟩

theorem and127b (y : UInt8) : bits .and .u8 (y.toNat : Int) 127 = (y.toNat : Int) % 128 := by
  have : ∀ y : UInt8, bits .and .u8 (y.toNat : Int) 127 = (y.toNat : Int) % 128 := by
    intro y
    show IntKind.u8.wrap ((BitVec.ofInt 8 (y.toNat : Int) &&& BitVec.ofInt 8 127).toNat : Int) = _
    have e1 : (BitVec.ofInt 8 (y.toNat : Int)).toNat = y.toNat := by rw [BitVec.ofInt_natCast, BitVec.toNat_ofNat]; exact Nat.mod_eq_of_lt y.toNat_lt
    have e2 : (BitVec.ofInt 8 127).toNat = 127 := by decide
    rw [BitVec.toNat_and, e1, e2, show (127 : Nat) = 2 ^ 7 - 1 from rfl, Nat.and_two_pow_sub_one_eq_mod, IntKind.wrap_u8]
    omega
  exact this y

theorem pow_128 (k : Nat) : 2 ^ (7 * k) = 128 ^ k := by rw [Nat.pow_mul]
theorem put_bd (acc k r : Nat) (hk : k ≤ 5) (ha : acc < 128 ^ k) (hr : r < 128) : acc + r * 128 ^ k < 128 ^ (k + 1) ∧ 128 ^ (k + 1) ≤ 4398046511104 ∧ r * 128 ^ k ≤ 4363686772736 := by
  have h1 : 128 ^ (k + 1) ≤ 128 ^ 6 := Nat.pow_le_pow_right (by omega) (by omega)
  have h2 : 128 ^ k ≤ 128 ^ 5 := Nat.pow_le_pow_right (by omega) hk
  have h3 : r * 128 ^ k ≤ 127 * 128 ^ k := Nat.mul_le_mul_right _ (by omega)
  rw [Nat.pow_succ] at *
  omega
theorem or_put (acc k : Nat) (y : UInt8) (hk : k ≤ 5) (ha : acc < 128 ^ k) : bits .or .i64 (acc : Int) (wrap64 ((y.toNat : Int) % 128 * 2 ^ (7 * k))) = ((acc + y.toNat % 128 * 128 ^ k : Nat) : Int) := by
  have hb := put_bd acc k (y.toNat % 128) hk ha (by omega)
  have e0 : (y.toNat : Int) % 128 * 2 ^ (7 * k) = ((y.toNat % 128 * 128 ^ k : Nat) : Int) := by
    rw [← pow_128, Int.natCast_mul, Int.natCast_pow]; rfl
  have hor : acc ||| y.toNat % 128 * 128 ^ k = acc + y.toNat % 128 * 128 ^ k := by
    rw [← pow_128] at *
    have h := Nat.two_pow_add_eq_or_of_lt (i := 7 * k) (b := acc) ha (y.toNat % 128)
    rw [Nat.or_comm, Nat.mul_comm (y.toNat % 128), ← h]
    exact Nat.add_comm _ _
  rw [e0]
  generalize y.toNat % 128 * 128 ^ k = z at *
  have hw : wrap64 (z : Int) = z := by unfold wrap64; omega
  rw [hw]
  show IntKind.i64.wrap ((BitVec.ofInt 64 (acc : Int) ||| BitVec.ofInt 64 (z : Int)).toNat : Int) = _
  have e1 : (BitVec.ofInt 64 (acc : Int)).toNat = acc := by rw [BitVec.ofInt_natCast, BitVec.toNat_ofNat]; exact Nat.mod_eq_of_lt (by omega)
  have e2 : (BitVec.ofInt 64 (z : Int)).toNat = z := by rw [BitVec.ofInt_natCast, BitVec.toNat_ofNat]; exact Nat.mod_eq_of_lt (by omega)
  rw [BitVec.toNat_or, e1, e2, hor, IntKind.wrap_i64]
  omega
theorem nxt_at {L : List UInt8} {k acc : Nat} {y : UInt8} (hy : L[k]? = some y) : nxt (L.drop k) k acc =
    if 128 ≤ y.toNat ∧ k + 1 < 6 then nxt (L.drop (k + 1)) (k + 1) (acc + y.toNat % 128 * 128 ^ k)
    else if 128 ≤ y.toNat ∨ (y.toNat = 0 ∧ 1 < k + 1) then (0, 0, 5)
    else if 1099511627776 < acc + y.toNat % 128 * 128 ^ k then (0, 0, 6)
    else (acc + y.toNat % 128 * 128 ^ k, k + 1, 0) := by
  have hlt : k < L.length := by
    rcases Nat.lt_or_ge k L.length with h | h
    · exact h
    · rw [List.getElem?_eq_none h] at hy; cases hy
  rw [List.drop_eq_getElem_cons hlt]
  rw [List.getElem?_eq_getElem hlt] at hy
  injection hy with hy
  rw [hy]; rfl

/-- A scope with one label to which the run jumps back: what holds at the label leads on, also the first time. -/
theorem wp_scope_both {P : Program} {a : Act} {w : World} {Q : Exit → Act → World → Prop} {c rest : Code} (l : Nat) (J : Act → World → Prop) (μ : Act → World → Nat) (hf : findLabel c l = some (.seq .skip rest))
    (pass : ∀ a w, J a w → rest.wp P (Exit.jump l (fun a' w' => J a' w' ∧ μ a' w' < μ a w) Q) a w)
    (first : (∀ a w, J a w → rest.wp P (Exit.jump l J Q) a w) → c.wp P (Exit.jump l J Q) a w) : (Code.scope c).wp P Q a w :=
  wp_scope_jumps l J μ hf (first fun a w h => Code.wp_mono (fun e a' w' h' => by
    cases e with
    | goto l' => exact ⟨h'.1, h'.2.1⟩
    | normal => exact h'
    | exit id => exact h'
    | ret => exact h'
    | panic ch => exact h'
    | outgrown => exact h') (pass a w h)) (fun a w h => wp_seq (wp_skip (pass a w h)))

/-- The state at the label of next. -/
def JX (w : World) (g : Nat) (R : Nat × Nat × Int) (L : List UInt8) (a' : Act) (w' : World) : Prop :=
  ∃ (k acc : Nat) (u8 u9 u10 u11 u12 u13 u14 u15 u16 u17 u18 u19 u20 u21 u22 u23 u24 u25 u26 u27 u28 u29 u30 u31 u32 u33 u34 u35 u36 u37 u38 u39 u40 u41 u42 u43 u44 u45 : Value),
    a' = { tmps := #[.pointer (some ⟨g, 0, none⟩), undef, .int .i64 0, .int .i64 0, .int .i64 0, .int .i64 acc, .int .i64 k, .int .i64 (7 * k), u8, u9, u10, u11, u12, u13, u14, u15, u16, u17, u18, u19, u20, u21, u22, u23, u24, u25, u26, u27, u28, u29, u30, u31, u32, u33, u34, u35, u36, u37, u38, u39, u40, u41, u42, u43, u44, u45, undef, undef, undef, undef, undef, undef, undef, undef, undef, undef, undef, undef, undef, undef], defers := [] } ∧
    Still w w' ∧ k ≤ 5 ∧ acc < 128 ^ k ∧ Hid (nxt (L.drop k) k acc = R) ∧ k ≤ L.length

set_option maxHeartbeats 2000000 in
theorem next_any (g : Nat) (A : Option Addr) (n c at_ : Nat) (e : Int) (l : List UInt8) (w : World) (h : Rdr w g A n c at_ e) (hr : Rd w w.heap.size 1 A n (l.map B8)) (hn : n ≤ 140737488355328) (ha : at_ ≤ n) (x kk : Nat) (f : Int)
    (hx : nxt (l.drop at_) 0 0 = (x, kk, f)) :
    Calls Try.prog 78 #[.pointer (some ⟨g, 0, none⟩)] w fun r w' => r = .returned (.tuple #[.int .i64 x, .int .i64 kk, .int .i64 f]) ∧ Still w w' := by
  obtain rfl : l.length = n := by simpa using hr.len
  go_enter Try.func78, Try.ntmps78
  go_wp2
  refine wp_scope_both 0 (JX w g (x, kk, f) (l.drop at_)) (fun a' _ => 6 - (intOf (a'.tmps.getD 6 undef)).toNat) rfl ?_ ?_
  · rintro a' w1 ⟨k, acc, u8, u9, u10, u11, u12, u13, u14, u15, u16, u17, u18, u19, u20, u21, u22, u23, u24, u25, u26, u27, u28, u29, u30, u31, u32, u33, u34, u35, u36, u37, u38, u39, u40, u41, u42, u43, u44, u45, rfl, hs, hk, hacc, hR, hkl⟩
    have h1 := h.still hs
    have hr1 := hr.keep (w' := w1) (fun p _ => by simp [World.cell?, hs.heap])
    simp only [List.length_drop] at hkl
    go_wp2_with fail
    refine (left_any g A _ c at_ e _ h1 hn ha).mono ?_; rintro r w2 ⟨rfl, hs2⟩
    have h2 := h1.still hs2
    have hr2 := hr1.keep (w' := w2) (fun p _ => by simp [World.cell?, hs2.heap])
    by_cases hend : at_ + k = l.length
    · have ht : ((k : Int) == (l.length : Int) - at_) = true := by rw [beq_iff_eq]; omega
      have hR2 : nxt [] k acc = (x, kk, f) := by rw [← hR.out, List.drop_drop, List.drop_eq_nil_of_le (by omega)]
      simp only [nxt, Prod.mk.injEq] at hR2
      obtain ⟨rfl, rfl, rfl⟩ := hR2
      go_wp2_with fail
      simp only [Exit.jump]
      go_ret3
      exact ⟨rfl, hs.trans hs2⟩
    · have ht : ((k : Int) == (l.length : Int) - at_) = false := by rw [beq_eq_false_iff_ne]; omega
      obtain ⟨b, o, y, rfl, hb, hy, hc⟩ := hr2.at8 (k := at_ + k) (by omega)
      have hc0 := h2.c0
      have hc1 := h2.c1
      have hw1 : IntKind.i64.wrap ((at_ : Int) + k) = (at_ : Int) + k := IntWalk.i64_in _ (by omega)
      have hw2 : 0 ≤ (at_ : Int) + k := by omega
      have hw3 : ((at_ : Int) + k).toNat = at_ + k := by omega
      have hw4 : (at_ : Int) + k < (l.length : Int) := by omega
      have hyb := byte_lt y
      have han := and127b y
      have hor := or_put acc k y hk hacc
      have hbd := put_bd acc k (y.toNat % 128) hk hacc (by omega)
      have hst := nxt_at (L := l.drop at_) (k := k) (acc := acc) (y := y) (by rw [List.getElem?_drop]; exact hy.out)
      rw [hR.out] at hst
      generalize acc + y.toNat % 128 * 128 ^ k = V at *
      have Hst := Lib.hid hst
      clear hst
      by_cases hA : 128 ≤ y.toNat ∧ k + 1 < 6
      · have hA1 : (127 : Int) < (y.toNat : Int) := by omega
        have hA2 : (k : Int) + 1 < 6 := by omega
        have hst2 := Hst.out
        rw [if_pos hA] at hst2
        have HR := Lib.hid hst2.symm
        clear hst2
        go_wp2_with fail
        go_quiet (fail)
        go_wp2_with fail
        clear hw1 hw2 hw3 hw4
        go_step3
        rw [show (k : Int) + 1 = ((k + 1 : Nat) : Int) from by omega, show 7 * (k : Int) + 7 = 7 * ((k + 1 : Nat) : Int) from by omega]
        exact ⟨rfl, ⟨k + 1, _, _, _, _, _, _, _, _, _, _, _, _, _, _, _, _, _, _, _, _, _, _, _, _, _, _, _, _, _, _, _, _, _, _, _, _, _, _, _, rfl, (hs.trans hs2).trans (Still.drewN _ _), by omega, hbd.1, HR.out, by rw [List.length_drop]; omega⟩, by simp [intOf]; omega⟩
      · have hst2 := Hst.out
        rw [if_neg hA] at hst2
        by_cases hB : 128 ≤ y.toNat ∨ (y.toNat = 0 ∧ 1 < k + 1)
        · rw [if_pos hB] at hst2
          simp only [Prod.mk.injEq] at hst2
          obtain ⟨rfl, rfl, rfl⟩ := hst2
          by_cases hC : 128 ≤ y.toNat
          · have hC1 : (127 : Int) < (y.toNat : Int) := by omega
            have hC2 : ¬ (k : Int) + 1 < 6 := by omega
            go_wp2_with fail
            go_quiet (fail)
            go_wp2_with fail
            simp only [Exit.jump]
            go_ret3
            exact ⟨rfl, (hs.trans hs2).trans (Still.drewN _ _)⟩
          · have hC1 : ¬ (127 : Int) < (y.toNat : Int) := by omega
            have hC2 : ((y.toNat : Int) == 0) = true := by rw [beq_iff_eq]; omega
            have hC3 : (1 : Int) < (k : Int) + 1 := by omega
            go_wp2_with fail
            go_quiet (fail)
            go_wp2_with fail
            simp only [Exit.jump]
            go_ret3
            exact ⟨rfl, (hs.trans hs2).trans (Still.drewN _ _)⟩
        · rw [if_neg hB] at hst2
          have hC1 : ¬ (127 : Int) < (y.toNat : Int) := by omega
          have hD : ((y.toNat : Int) == 0 && decide ((1 : Int) < (k : Int) + 1)) = false := by
            rw [Bool.and_eq_false_iff, beq_eq_false_iff_ne, decide_eq_false_iff_not]; omega
          by_cases hE : 1099511627776 < V
          · rw [if_pos hE] at hst2
            simp only [Prod.mk.injEq] at hst2
            obtain ⟨rfl, rfl, rfl⟩ := hst2
            have hE1 : (1099511627776 : Int) < (V : Int) := by omega
            by_cases hy0 : y.toNat = 0
            · have hC2 : ((y.toNat : Int) == 0) = true := by rw [beq_iff_eq]; omega
              have hC3 : ¬ (1 : Int) < (k : Int) + 1 := by omega
              clear hy0
              go_wp2_with fail
              go_quiet (fail)
              go_wp2_with fail
              simp only [Exit.jump]
              go_ret3
              exact ⟨rfl, (hs.trans hs2).trans (Still.drewN _ _)⟩
            · have hC2 : ((y.toNat : Int) == 0) = false := by rw [beq_eq_false_iff_ne]; omega
              go_wp2_with fail
              go_quiet (fail)
              go_wp2_with fail
              simp only [Exit.jump]
              go_ret3
              exact ⟨rfl, (hs.trans hs2).trans (Still.drewN _ _)⟩
          · rw [if_neg hE] at hst2
            simp only [Prod.mk.injEq] at hst2
            obtain ⟨rfl, rfl, rfl⟩ := hst2
            have hE1 : ¬ (1099511627776 : Int) < (x : Int) := by omega
            by_cases hy0 : y.toNat = 0
            · have hC2 : ((y.toNat : Int) == 0) = true := by rw [beq_iff_eq]; omega
              have hC3 : ¬ (1 : Int) < (k : Int) + 1 := by omega
              clear hy0
              go_wp2_with fail
              go_quiet (fail)
              go_wp2_with fail
              simp only [Exit.jump]
              go_ret3
              exact ⟨rfl, (hs.trans hs2).trans (Still.drewN _ _)⟩
            · have hC2 : ((y.toNat : Int) == 0) = false := by rw [beq_eq_false_iff_ne]; omega
              go_wp2_with fail
              go_quiet (fail)
              go_wp2_with fail
              simp only [Exit.jump]
              go_ret3
              exact ⟨rfl, (hs.trans hs2).trans (Still.drewN _ _)⟩
  · intro hpass
    go_wp2
    go_step3
    rename_i hK
    refine hK _ _ (hpass _ _ ?_)
    exact ⟨0, 0, _, _, _, _, _, _, _, _, _, _, _, _, _, _, _, _, _, _, _, _, _, _, _, _, _, _, _, _, _, _, _, _, _, _, _, _, _, _, rfl, Still.refl _, by omega, by simp, (show nxt _ 0 0 = _ from by rw [List.drop_zero]; exact hx), Nat.zero_le _⟩
end Go.Proofs.Ytabcbpcfleociaa

/- The contracts of a reader: Read, Err, Left, Number, Fixed, Text, Flag, Fail, End. -/
namespace Go.Proofs.Ytabcbpcfleociaa
open Go.RowKit

/-- A reader's own bytes lie in another block than it. -/
theorem Rdr.ne {w : World} {g n c at_ b o B : Nat} {A : Option Addr} {e : Int} {A' : Option Addr} {n' : Nat} {l : List UInt8} (h : Rdr w g A n c at_ e) (hr : Rd w B 1 A' n' (l.map B8)) (hn : 0 < n') (hA : A' = some ⟨b, o, none⟩) : b ≠ g := by
  intro he
  subst he
  obtain ⟨b2, o2, y, hA2, _, _, hc⟩ := hr.at8 hn
  rw [hA] at hA2
  injection hA2 with hA2
  injection hA2 with e1 e2
  subst e1
  unfold Rdr at h
  simp only [World.cell?, h] at hc
  rcases hi : o2 + 0 with _ | _ | _ | _ | i
  · rw [hi] at hc; simp at hc
  · rw [hi] at hc; simp at hc
  · rw [hi] at hc; simp at hc
  · rw [hi] at hc; simp at hc
  · rw [hi] at hc; simp at hc
/-- Bytes stand while only a reader's block turns. -/
theorem Rd.only {w w' : World} {g n c at_ : Nat} {A : Option Addr} {e : Int} {A' : Option Addr} {n' : Nat} {l : List UInt8} (hr : Rd w w.heap.size 1 A' n' (l.map B8)) (h : Rdr w g A n c at_ e) (hg : w.grownBy w' (some g)) : Rd w' w'.heap.size 1 A' n' (l.map B8) := by
  refine ⟨hr.1, fun hn => ?_⟩
  obtain ⟨b, o, hA, hb, hc⟩ := hr.2 hn
  have hne := h.ne hr hn hA
  refine ⟨b, o, hA, Nat.lt_of_lt_of_le hb hg.size, fun j u hu => ?_⟩
  rw [World.cell?_of_block (w := w) (hg.block b hb (fun e => hne (by injection e)))]
  exact hc j u hu
theorem still_grown {w w' : World} (h : Still w w') (row : Option Nat) : w.grownBy w' row := ⟨h.os, h.tape, h.output, by rw [h.heap]; exact Nat.le_refl _, fun k _ _ => by rw [h.heap]⟩
theorem grown_trans' {a b c : World} {g : Nat} (h : a.grownBy b (some g)) (k : b.grownBy c (some g)) : a.grownBy c (some g) :=
  ⟨k.os.trans h.os, k.tape.trans h.tape, k.output.trans h.output, Nat.le_trans h.size k.size, fun i hi hne => (k.block i (Nat.lt_of_lt_of_le hi h.size) hne).trans (h.block i hi hne)⟩
theorem below_grown' {a b : World} (h : Below a.heap.size a b) (row : Option Nat) : a.grownBy b row := ⟨h.os, h.tape, h.output, h.size, fun k hk _ => h.block k hk⟩
theorem grown_below {a b c : World} {B g : Nat} (h : Below B a b) (hg : b.grownBy c (some g)) (hB : B ≤ g) (hb : B ≤ b.heap.size) : Below B a c := h.grown hg hb (fun k hk => by injection hk with hk; omega)
theorem Rdr.set1 {w : World} {g n c at_ : Nat} {A : Option Addr} {e : Int} (h : Rdr w g A n c at_ e) (a' : Nat) : Rdr (w.setCell ⟨g, 1, none⟩ (.int .i64 a')) g A n c a' e ∧ w.grownBy (w.setCell ⟨g, 1, none⟩ (.int .i64 a')) (some g) := by
  refine ⟨?_, ⟨rfl, rfl, rfl, by simp [World.setCell], fun k _ hne => Below.heap_setCell _ _ _ _ (fun e => hne (by rw [e]))⟩⟩
  unfold Rdr at *
  simp [World.setCell, Array.getElem?_modify, h]
theorem Rdr.set3 {w : World} {g n c at_ : Nat} {A : Option Addr} {e : Int} (h : Rdr w g A n c at_ e) (e' : Int) : Rdr (w.setCell ⟨g, 3, none⟩ (.int .i64 e')) g A n c at_ e' ∧ w.grownBy (w.setCell ⟨g, 3, none⟩ (.int .i64 e')) (some g) := by
  refine ⟨?_, ⟨rfl, rfl, rfl, by simp [World.setCell], fun k _ hne => Below.heap_setCell _ _ _ _ (fun e => hne (by rw [e]))⟩⟩
  unfold Rdr at *
  simp [World.setCell, Array.getElem?_modify, h]

theorem read_any (A : Option Addr) (n c : Nat) (l : List UInt8) (w : World) (hr : Rd w w.heap.size 1 A n (l.map B8)) (hn : n ≤ 140737488355328) :
    Calls Try.prog 47 #[.slice A n c] w fun r w' => ∃ g A' c', r = .returned (.pointer (some ⟨g, 0, none⟩)) ∧ w.heap.size ≤ g ∧ Rdr w' g A' n c' 0 0 ∧ Rd w' w'.heap.size 1 A' n (l.map B8) ∧ Below w.heap.size w w' ∧ n ≤ c' := by
  obtain rfl : l.length = n := by simpa using hr.len
  go_enter Try.func47, Try.ntmps47
  go_wp2_with (at_builtin; refine wpList_app rfl (.tmp 3) (.tmp 4) _ rfl w.heap.size 5 1 1 _ Try.underlying38 info8 rfl (by omega) (.slice (some ⟨w.heap.size, 0, none⟩) 0 0) 0 [] rfl (World.ownsRow_lit w #[] 0 (Nat.le_refl _) (by simp [maxLen]) rfl) w.heap.size A l.length c _ rfl (hr.alloc (Nat.le_refl _) _) (B8_one _) (by simp only [maxLen]; omega) (by omega) (by simp) ?_; intro A' c' w' h1 h2 h3)
  simp only [Nat.zero_add, List.nil_append] at h1
  have hb1 : Below w.heap.size w w' := ((Below.refl _ _).alloc (Nat.le_refl _) _).grown h2 (by simp) (fun k hk => by simp [Value.ownBlock] at hk; omega)
  go_ret
  have hr1 := Rd.of_own h1
  refine ⟨w'.heap.size, A', c', rfl, hb1.size, heap_alloc_new w' _, ?_, hb1.alloc hb1.size _, own_cap h1⟩
  exact (hr1.alloc (Nat.le_refl _) _).more (by simp)
theorem err_any (g : Nat) (A : Option Addr) (n c at_ : Nat) (e : Int) (w : World) (h : Rdr w g A n c at_ e) :
    Calls Try.prog 50 #[.pointer (some ⟨g, 0, none⟩)] w fun r w' => r = .returned (.int .i64 e) ∧ w = w' := by
  have h2 := h.c2
  have h3 := h.c3
  go_enter Try.func50, Try.ntmps50
  go_wp2
  go_ret
  exact ⟨rfl, rfl⟩
theorem err_nil (w : World) : Calls Try.prog 50 #[.pointer none] w fun r w' => r = .returned (.int .i64 5) ∧ w = w' := by
  go_enter Try.func50, Try.ntmps50
  go_wp2
  go_ret
  exact ⟨rfl, rfl⟩
theorem err_plain (g : Nat) (w : World) (h2 : w.cell? ⟨g, 2, none⟩ = some (.bool false)) : Calls Try.prog 50 #[.pointer (some ⟨g, 0, none⟩)] w fun r w' => r = .returned (.int .i64 5) ∧ w = w' := by
  go_enter Try.func50, Try.ntmps50
  go_wp2
  go_ret
  exact ⟨rfl, rfl⟩
theorem Left_any (g : Nat) (A : Option Addr) (n c at_ : Nat) (e : Int) (w : World) (h : Rdr w g A n c at_ e) (hn : n ≤ 140737488355328) (ha : at_ ≤ n) :
    Calls Try.prog 51 #[.pointer (some ⟨g, 0, none⟩)] w fun r w' => r = .returned (.int .i64 ((n : Int) - at_)) ∧ Still w w' := by
  go_enter Try.func51, Try.ntmps51
  go_wp2_with fail
  refine (left_any g A n c at_ e _ h hn ha).mono ?_; rintro r w1 ⟨rfl, hs⟩
  go_wp2_with fail
  go_ret
  exact ⟨rfl, hs⟩
theorem Left_nil (w : World) : Calls Try.prog 51 #[.pointer none] w fun r w' => r = .returned (.int .i64 0) ∧ w = w' := by
  go_enter Try.func51, Try.ntmps51
  go_wp2
  go_ret
  exact ⟨rfl, rfl⟩

/-- Number: an error that stands there, or the number. -/
theorem number_bad (g : Nat) (A : Option Addr) (n c at_ : Nat) (l : List UInt8) (least most : Int) (w : World) (h : Rdr w g A n c at_ 0) (hr : Rd w w.heap.size 1 A n (l.map B8)) (hn : n ≤ 140737488355328) (ha : at_ ≤ n) (x kk : Nat) (f : Int)
    (hx : nxt (l.drop at_) 0 0 = (x, kk, f)) (hf : (f == 0) = false) :
    Calls Try.prog 67 #[.pointer (some ⟨g, 0, none⟩), .int .i64 least, .int .i64 most] w fun r w' => r = .returned (.int .i64 0) ∧ Rdr w' g A n c at_ f ∧ w.grownBy w' (some g) := by
  have hf2 : (f != 0) = true := by rw [bne_iff_ne]; intro h; rw [h] at hf; simp at hf
  go_enter Try.func67, Try.ntmps67
  go_wp2_with fail
  refine (fine_yes g A n c at_ _ h).mono ?_; rintro r w1 ⟨rfl, rfl⟩
  go_wp2_with fail
  refine (next_any g A n c at_ 0 l _ h hr hn ha x kk f hx).mono ?_; rintro r w2 ⟨rfl, hs⟩
  have h2 := h.still hs
  have hc3 := h2.c3
  have hz3 := h2.fz 3
  go_wp2_with fail
  go_ret
  exact ⟨rfl, (h2.set3 f).1, grown_trans' (still_grown hs _) (h2.set3 f).2⟩
theorem number_good (g : Nat) (A : Option Addr) (n c at_ : Nat) (l : List UInt8) (least most : Int) (w : World) (h : Rdr w g A n c at_ 0) (hr : Rd w w.heap.size 1 A n (l.map B8)) (hn : n ≤ 140737488355328) (ha : at_ ≤ n) (x kk : Nat)
    (hx : nxt (l.drop at_) 0 0 = (x, kk, 0)) (hl : least ≤ x) (hm : (x : Int) ≤ most) (hk : at_ + kk ≤ n) :
    Calls Try.prog 67 #[.pointer (some ⟨g, 0, none⟩), .int .i64 least, .int .i64 most] w fun r w' => r = .returned (.int .i64 x) ∧ Rdr w' g A n c (at_ + kk) 0 ∧ w.grownBy w' (some g) := by
  go_enter Try.func67, Try.ntmps67
  go_wp2_with fail
  refine (fine_yes g A n c at_ _ h).mono ?_; rintro r w1 ⟨rfl, rfl⟩
  go_wp2_with fail
  refine (next_any g A n c at_ 0 l _ h hr hn ha x kk 0 hx).mono ?_; rintro r w2 ⟨rfl, hs⟩
  have h2 := h.still hs
  have hc1 := h2.c1
  have hz1 := h2.fz 1
  go_wp2_with fail
  go_ret
  have h3 := h2.set1 (at_ + kk)
  rw [Int.natCast_add] at h3
  exact ⟨rfl, h3.1, grown_trans' (still_grown hs _) h3.2⟩
theorem number_no (g : Nat) (A : Option Addr) (n c at_ : Nat) (e least most : Int) (w : World) (h : Rdr w g A n c at_ e) (he : (e == 0) = false) :
    Calls Try.prog 67 #[.pointer (some ⟨g, 0, none⟩), .int .i64 least, .int .i64 most] w fun r w' => r = .returned (.int .i64 0) ∧ w = w' := by
  go_enter Try.func67, Try.ntmps67
  go_wp2_with fail
  refine (fine_no g A n c at_ e _ h he).mono ?_; rintro r w1 ⟨rfl, rfl⟩
  go_wp2_with fail
  go_ret
  exact ⟨rfl, rfl⟩
end Go.Proofs.Ytabcbpcfleociaa

/- The contracts of a reader's Fixed and Text. -/
namespace Go.Proofs.Ytabcbpcfleociaa
open Go.RowKit

section
variable {P : Program} {w : World}
/-- append onto an owned row, as one step of a region that draws. -/
theorem step_appW {ops : Array Oper} {o : Oper} {a : Act} {K : Act → World → Prop} {Q : Exit → Act → World → Prop} {E : Prop} (hgd : o.guard = none) (s x : Operand) (t : TypeId)
    (ho : o.op = .call { callee := .builtin .append, args := #[s, x], argTypes := #[t, t] })
    (base : Nat) (e : TypeId) (size bytes : Nat) (z : Value) (ht : P.underlying t = some (.slice e)) (hi : (P.info? e).map (fun i => (i.zero, i.size, i.bytes)) = some (some z, size, bytes))
    (hzs : z.cells.size = size) (hsz : 0 < size)
    (v : Value) (n : Nat) (xs : List Value) (hs : a.eval s = v) (hown : w.ownsRow base e size v n xs)
    (B : Nat) (A : Option Addr) (m c : Nat) (news : List Value) (hx : a.eval x = .slice A m c) (hr : Rd w B size A m news) (h1 : ∀ u ∈ news, u.oneCell' = true)
    (h63 : n + m ≤ maxLen) (hbytes : (n + m) * bytes ≤ 140737488355328) (hbase : base ≤ w.heap.size)
    (h : ∀ A' c' w', w'.ownsRow base e size (.slice A' (n + m) c') (n + m) (xs ++ news) → w.grownBy w' v.ownBlock → ((Value.slice A' (n + m) c').ownBlock = v.ownBlock ∨ (Value.slice A' (n + m) c').ownBlock = some w.heap.size) →
      K (a.put o.dst (.slice A' (n + m) c')) w') : if Region.wanted o (yielded ops a.tmps) = true then Oper.wp P o a w K Q else E := by
  rw [if_pos (by simp [Region.wanted, hgd])]
  exact wp_app s x t ho base e size bytes z ht hi hzs hsz v n xs hs hown B A m c news hx hr h1 h63 hbytes hbase h
end

theorem fixed_none (g : Nat) (A : Option Addr) (n c at_ : Nat) (w : World) (h : Rdr w g A n c at_ 0) :
    Calls Try.prog 79 #[.pointer (some ⟨g, 0, none⟩), .int .i64 0] w fun r w' => r = .returned (.slice none 0 0) ∧ w = w' := by
  go_enter Try.func79, Try.ntmps79
  go_wp2_with fail
  refine (fine_yes g A n c at_ _ h).mono ?_; rintro r w1 ⟨rfl, rfl⟩
  go_wp2_with fail
  go_ret
  exact ⟨rfl, rfl⟩
theorem fixed_good (g : Nat) (A : Option Addr) (n c at_ : Nat) (l : List UInt8) (x : Nat) (w : World) (h : Rdr w g A n c at_ 0) (hr : Rd w w.heap.size 1 A n (l.map B8)) (hn : n ≤ 140737488355322) (hnc : n ≤ c)
    (hx1 : 1 ≤ x) (hx : at_ + x ≤ n) :
    Calls Try.prog 79 #[.pointer (some ⟨g, 0, none⟩), .int .i64 x] w fun r w' =>
      ∃ A' c', r = .returned (.slice A' x c') ∧ (∀ b o, A' = some ⟨b, o, none⟩ → w.heap.size ≤ b) ∧ Rd w' w'.heap.size 1 A' x (((l.drop at_).take x).map B8) ∧ Rdr w' g A n c (at_ + x) 0 ∧ w.grownBy w' (some g) := by
  obtain rfl : l.length = n := by simpa using hr.len
  have ht1 : ¬ (x : Int) < 1 := by omega
  have ht2 : ¬ ((l.length : Int) - at_ < x) := by omega
  go_enter Try.func79, Try.ntmps79
  go_wp2_with fail
  refine (fine_yes g A _ c at_ _ h).mono ?_; rintro r w1 ⟨rfl, rfl⟩
  go_wp2_with fail
  refine (left_any g A _ c at_ 0 _ h (by omega) (by omega)).mono ?_; rintro r w1 ⟨rfl, hs⟩
  have h1 := h.still hs
  have hr1 := hr.to (hs.below _)
  go_wp2_with fail
  obtain ⟨b, o, rfl, hb, _⟩ := hr1.2 (by omega)
  have hc0 := h1.c0
  have hc1 := h1.c1
  have hw1 : IntKind.i64.wrap ((at_ : Int) + x) = (at_ : Int) + x := IntWalk.i64_in _ (by omega)
  have hw2 : 0 ≤ (at_ : Int) + x := by omega
  have hw3 : ((at_ : Int) + x).toNat = at_ + x := by omega
  have hw4 : (at_ : Int) + x ≤ c := by omega
  have hw6 : (0 : Int) ≤ at_ := by omega
  have hw7 : (at_ : Int) ≤ (at_ : Int) + x := by omega
  have hw8 : ¬ c = at_ := by omega
  have hw5 : at_ + x - at_ = x := by omega
  have hcut := ((hr1.alloc (Nat.le_refl _) (.cells #[] 5)).cut (k := at_) (cap := c) (by omega) hnc).take (k := x) (by omega)
  rw [if_neg hw8, Nat.mul_one, Option.map_some, addr_add] at hcut
  go_region_held3 (fun w' => w'.cell? ⟨g, 0, none⟩ = some (.slice (some ⟨b, o, none⟩) l.length c) ∧ w'.cell? ⟨g, 1, none⟩ = some (.int .i64 at_)) (go_keep) (first
    | (refine step_appW rfl (.tmp 23) (.tmp 41) _ rfl w1.heap.size 5 1 1 _ Try.underlying38 info8 rfl (by omega) (.slice (some ⟨w1.heap.size, 0, none⟩) 0 0) 0 [] rfl (World.ownsRow_lit w1.drew #[] 0 (Nat.le_refl _) (by simp [maxLen]) rfl) w1.heap.size _ x _ _ rfl hcut (by intro u hu; exact B8_one l u (List.mem_of_mem_drop (List.mem_of_mem_take hu))) (by simp only [maxLen]; omega) (by omega) (by simp) ?_
       intro A2 c2 w2 h2 hg2 _
       have hb2 : Below w1.heap.size w1 w2 := (((Still.refl w1).drew.below _).alloc (by simp) _).grown hg2 (by simp) (fun k hk => by simp [Value.ownBlock] at hk; omega)
       have h3 := h1.to hb2
       have hcc0 := h3.c0
       have hcc1 := h3.c1
       have hcz1 := h3.fz 1))
  go_wp2_with fail
  go_ret
  have h4 := h3.set1 (at_ + x)
  rw [Int.natCast_add] at h4
  simp only [Nat.zero_add, List.nil_append] at h2
  have hr2 : Rd w2 w2.heap.size 1 A2 x (((l.drop at_).take x).map B8) := by rw [List.map_take, List.map_drop]; exact Rd.of_own h2
  exact ⟨A2, c2, by simp, fun b o e => (by obtain ⟨g', e', h5, _⟩ := own_addr h2 (by omega); rw [e] at e'; injection e' with e'; injection e' with e5; have h6 := (hs.below 0).size; omega), hr2.only h3 h4.2, h4.1, grown_trans' (grown_trans' (still_grown hs _) (below_grown' hb2 _)) h4.2⟩

/-- Text: the number's fault. -/
theorem text_bad (g : Nat) (A : Option Addr) (n c at_ : Nat) (l : List UInt8) (most : Int) (w : World) (h : Rdr w g A n c at_ 0) (hr : Rd w w.heap.size 1 A n (l.map B8)) (hn : n ≤ 140737488355322) (ha : at_ ≤ n) (x kk : Nat) (f : Int)
    (hx : nxt (l.drop at_) 0 0 = (x, kk, f)) (hf : (f == 0) = false) :
    Calls Try.prog 68 #[.pointer (some ⟨g, 0, none⟩), .int .i64 most] w fun r w' => r = .returned (.slice none 0 0) ∧ Rdr w' g A n c at_ f ∧ w.grownBy w' (some g) := by
  have hf2 : (f != 0) = true := by rw [bne_iff_ne]; intro h; rw [h] at hf; simp at hf
  go_enter Try.func68, Try.ntmps68
  go_wp2_with fail
  refine (fine_yes g A n c at_ _ h).mono ?_; rintro r w1 ⟨rfl, rfl⟩
  go_wp2_with fail
  refine (next_any g A n c at_ 0 l _ h hr (by omega) ha x kk f hx).mono ?_; rintro r w2 ⟨rfl, hs⟩
  have h2 := h.still hs
  have hc3 := h2.c3
  have hz3 := h2.fz 3
  go_wp2_with fail
  go_ret
  exact ⟨rfl, (h2.set3 f).1, grown_trans' (still_grown hs _) (h2.set3 f).2⟩
/-- Text: a number beyond what may be. -/
theorem text_long (g : Nat) (A : Option Addr) (n c at_ : Nat) (l : List UInt8) (most : Int) (w : World) (h : Rdr w g A n c at_ 0) (hr : Rd w w.heap.size 1 A n (l.map B8)) (hn : n ≤ 140737488355322) (ha : at_ ≤ n) (x kk : Nat)
    (hx : nxt (l.drop at_) 0 0 = (x, kk, 0)) (hm : 0 ≤ most) (hl : most < x) :
    Calls Try.prog 68 #[.pointer (some ⟨g, 0, none⟩), .int .i64 most] w fun r w' => r = .returned (.slice none 0 0) ∧ Rdr w' g A n c at_ 2 ∧ w.grownBy w' (some g) := by
  go_enter Try.func68, Try.ntmps68
  go_wp2_with fail
  refine (fine_yes g A n c at_ _ h).mono ?_; rintro r w1 ⟨rfl, rfl⟩
  go_wp2_with fail
  refine (next_any g A n c at_ 0 l _ h hr (by omega) ha x kk 0 hx).mono ?_; rintro r w2 ⟨rfl, hs⟩
  have h2 := h.still hs
  have hc3 := h2.c3
  have hz3 := h2.fz 3
  go_wp2_with fail
  go_ret
  exact ⟨rfl, (h2.set3 2).1, grown_trans' (still_grown hs _) (h2.set3 2).2⟩
/-- Text: too few bytes behind the number. -/
theorem text_short (g : Nat) (A : Option Addr) (n c at_ : Nat) (l : List UInt8) (most : Int) (w : World) (h : Rdr w g A n c at_ 0) (hr : Rd w w.heap.size 1 A n (l.map B8)) (hn : n ≤ 140737488355322) (ha : at_ ≤ n) (x kk : Nat)
    (hx : nxt (l.drop at_) 0 0 = (x, kk, 0)) (hm : 0 ≤ most) (hl : (x : Int) ≤ most) (hk : at_ + kk ≤ n) (hs3 : n - at_ - kk < x) :
    Calls Try.prog 68 #[.pointer (some ⟨g, 0, none⟩), .int .i64 most] w fun r w' => r = .returned (.slice none 0 0) ∧ Rdr w' g A n c at_ 3 ∧ w.grownBy w' (some g) := by
  have hlt : (n : Int) - at_ - kk < x := by omega
  go_enter Try.func68, Try.ntmps68
  go_wp2_with fail
  refine (fine_yes g A n c at_ _ h).mono ?_; rintro r w1 ⟨rfl, rfl⟩
  go_wp2_with fail
  refine (next_any g A n c at_ 0 l _ h hr (by omega) ha x kk 0 hx).mono ?_; rintro r w2 ⟨rfl, hs⟩
  have h2 := h.still hs
  go_wp2_with fail
  refine (left_any g A n c at_ 0 _ h2 (by omega) ha).mono ?_; rintro r w3 ⟨rfl, hs3'⟩
  have h3 := h2.still hs3'
  have hc3 := h3.c3
  have hz3 := h3.fz 3
  go_wp2_with fail
  go_ret
  exact ⟨rfl, (h3.set3 3).1, grown_trans' (still_grown (hs.trans hs3') _) (h3.set3 3).2⟩
/-- Text: what stands there. -/
theorem text_good (g : Nat) (A : Option Addr) (n c at_ : Nat) (l : List UInt8) (most : Int) (w : World) (h : Rdr w g A n c at_ 0) (hr : Rd w w.heap.size 1 A n (l.map B8)) (hn : n ≤ 140737488355322) (hnc : n ≤ c) (ha : at_ ≤ n) (x kk : Nat)
    (hx : nxt (l.drop at_) 0 0 = (x, kk, 0)) (hm : 0 ≤ most) (hl : (x : Int) ≤ most) (hk : at_ + kk + x ≤ n) :
    Calls Try.prog 68 #[.pointer (some ⟨g, 0, none⟩), .int .i64 most] w fun r w' =>
      ∃ A' c', r = .returned (.slice A' x c') ∧ (∀ b o, A' = some ⟨b, o, none⟩ → w.heap.size ≤ b) ∧ Rd w' w'.heap.size 1 A' x (((l.drop (at_ + kk)).take x).map B8) ∧ Rdr w' g A n c (at_ + kk + x) 0 ∧ w.grownBy w' (some g) := by
  have hlt : ¬ (n : Int) - at_ - kk < x := by omega
  go_enter Try.func68, Try.ntmps68
  go_wp2_with fail
  refine (fine_yes g A n c at_ _ h).mono ?_; rintro r w1 ⟨rfl, rfl⟩
  go_wp2_with fail
  refine (next_any g A n c at_ 0 l _ h hr (by omega) ha x kk 0 hx).mono ?_; rintro r w2 ⟨rfl, hs⟩
  have h2 := h.still hs
  go_wp2_with fail
  refine (left_any g A n c at_ 0 _ h2 (by omega) ha).mono ?_; rintro r w3 ⟨rfl, hs3⟩
  have h3 := h2.still hs3
  have hr3 := hr.to ((hs.trans hs3).below _)
  have hc1 := h3.c1
  have hz1 := h3.fz 1
  go_wp2_with fail
  have h4 := h3.set1 (at_ + kk)
  rw [Int.natCast_add] at h4
  have hr4 := hr3.only h3 h4.2
  have hg4 := grown_trans' (still_grown (hs.trans hs3) (some g)) h4.2
  rcases Nat.eq_zero_or_pos x with h0 | h0
  · subst h0
    refine (fixed_none g A n c _ _ h4.1).mono ?_; rintro r w5 ⟨rfl, rfl⟩
    go_wp2_with fail
    go_ret
    exact ⟨none, 0, rfl, fun b o e => (by cases e), by rw [List.take_zero]; exact Rd.nil _ _ _ _, h4.1, hg4⟩
  · refine (fixed_good g A n c (at_ + kk) l x _ h4.1 hr4 hn hnc h0 hk).mono ?_; rintro r w5 ⟨A5, c5, rfl, hf5, hr5, h5, hg5⟩
    go_wp2_with fail
    go_ret
    exact ⟨A5, c5, rfl, fun b o e => Nat.le_trans hg4.size (hf5 b o e), hr5, h5, grown_trans' hg4 hg5⟩
end Go.Proofs.Ytabcbpcfleociaa

/- The program's reader as one state: bytes, place, error; Number, Text, Fail, Err on it. -/
namespace Go.Proofs.Ytabcbpcfleociaa
open Go.RowKit
attribute [local go_sem ↓] Go.wp_at_zero Go.wp_at_succ
set_option linter.unusedSimpArgs false
set_option linter.unusedVariables false
/-- What a reader's Number tells: the number, the place and the error behind it. -/
def numS (l : List UInt8) (at_ : Nat) (e : Int) (least most : Int) : Nat × Nat × Int :=
  if e = 0 then
    if (nxt (l.drop at_) 0 0).2.2 = 0 then
      if ((nxt (l.drop at_) 0 0).1 : Int) < least ∨ most < ((nxt (l.drop at_) 0 0).1 : Int) then (0, at_, 6) else ((nxt (l.drop at_) 0 0).1, at_ + (nxt (l.drop at_) 0 0).2.1, 0)
    else (0, at_, (nxt (l.drop at_) 0 0).2.2)
  else (0, at_, e)
/-- What a reader's Text tells. -/
def txtS (l : List UInt8) (at_ : Nat) (e : Int) (most : Int) : List UInt8 × Nat × Int :=
  if e = 0 then
    if (nxt (l.drop at_) 0 0).2.2 = 0 then
      if most < ((nxt (l.drop at_) 0 0).1 : Int) then ([], at_, 2)
      else if l.length < at_ + (nxt (l.drop at_) 0 0).2.1 + (nxt (l.drop at_) 0 0).1 then ([], at_, 3)
      else ((l.drop (at_ + (nxt (l.drop at_) 0 0).2.1)).take (nxt (l.drop at_) 0 0).1, at_ + (nxt (l.drop at_) 0 0).2.1 + (nxt (l.drop at_) 0 0).1, 0)
    else ([], at_, (nxt (l.drop at_) 0 0).2.2)
  else ([], at_, e)
def failS (e f : Int) : Int := if e = 0 then f else e
/-- A reader at block g, of the bytes l; all of it lies below B. -/
def RR (w : World) (B g : Nat) (l : List UInt8) (at_ : Nat) (e : Int) : Prop :=
  ∃ A n c, Rdr w g A n c at_ e ∧ Rd w w.heap.size 1 A n (l.map B8) ∧ n ≤ c ∧ at_ ≤ n ∧ n ≤ 1000000000 ∧ g < B ∧ B ≤ w.heap.size ∧ ∀ b o, 0 < n → A = some ⟨b, o, none⟩ → b < B
theorem RR.lt {w : World} {B g : Nat} {l : List UInt8} {at_ : Nat} {e : Int} (h : RR w B g l at_ e) : g < w.heap.size := by obtain ⟨_, _, _, h, _⟩ := h; exact h.lt
theorem RR.le {w : World} {B g : Nat} {l : List UInt8} {at_ : Nat} {e : Int} (h : RR w B g l at_ e) : at_ ≤ l.length := by
  obtain ⟨A, n, c, _, hr, _, ha, _⟩ := h
  have : l.length = n := by simpa using hr.len
  omega
theorem RR.below {w w' : World} {B g : Nat} {l : List UInt8} {at_ : Nat} {e : Int} (h : RR w B g l at_ e) (hb : Below w.heap.size w w') : RR w' B g l at_ e := by
  obtain ⟨A, n, c, h1, h2, h3, h4, h5, h6, h7, h8⟩ := h
  exact ⟨A, n, c, h1.to hb, (h2.below hb).more hb.size, h3, h4, h5, h6, Nat.le_trans h7 hb.size, h8⟩
/-- Changes at or above B leave it. -/
theorem RR.keep {w w' : World} {B g : Nat} {l : List UInt8} {at_ : Nat} {e : Int} {own own' : List Nat} (h : RR w B g l at_ e) (hf : Fr own w w' own') (ho : ∀ k, k ∈ own → B ≤ k) : RR w' B g l at_ e := by
  obtain ⟨A, n, c, h1, h2, h3, h4, h5, h6, h7, h8⟩ := h
  refine ⟨A, n, c, ?_, (h2.same fun b o h0 e' => hf.block b (Nat.lt_of_lt_of_le (h8 b o h0 e') h7) fun hm => absurd (ho b hm) (Nat.not_le.2 (h8 b o h0 e'))).more hf.size, h3, h4, h5, h6, Nat.le_trans h7 hf.size, h8⟩
  unfold Rdr at h1 ⊢
  rw [hf.block g (Nat.lt_of_lt_of_le h6 h7) (fun hm => absurd (ho g hm) (Nat.not_le.2 h6))]
  exact h1
theorem RR.of {w w' : World} {B g : Nat} {l : List UInt8} {at_ at2 : Nat} {e e2 : Int} {A : Option Addr} {n c : Nat} (h : Rdr w g A n c at_ e) (hr : Rd w w.heap.size 1 A n (l.map B8)) (hc : n ≤ c) (hn : n ≤ 1000000000 ∧ g < B ∧ B ≤ w.heap.size ∧ ∀ b o, 0 < n → A = some ⟨b, o, none⟩ → b < B) (h' : Rdr w' g A n c at2 e2) (hg : w.grownBy w' (some g)) (ha : at2 ≤ n) : RR w' B g l at2 e2 ∧ Fr [g] w w' [g] :=
  ⟨⟨A, n, c, h', hr.only h hg, hc, ha, hn.1, hn.2.1, Nat.le_trans hn.2.2.1 hg.size, hn.2.2.2⟩, Fr.one hg⟩
theorem nxt_bd {L : List UInt8} {x kk : Nat} (h : nxt L 0 0 = (x, kk, 0)) : kk ≤ L.length := by
  have key : ∀ (L : List UInt8) (k acc x kk : Nat), nxt L k acc = (x, kk, 0) → kk ≤ k + L.length := by
    intro L
    induction L with
    | nil => intro k acc x kk h; simp [nxt] at h
    | cons c cs ih =>
      intro k acc x kk h
      unfold nxt at h
      split at h
      · have := ih _ _ _ _ h; simp only [List.length_cons]; omega
      · split at h
        · simp at h
        · split at h
          · simp at h
          · simp at h; simp only [List.length_cons]; omega
  have := key L 0 0 x kk h
  omega
theorem number_rng (g : Nat) (A : Option Addr) (n c at_ : Nat) (l : List UInt8) (least most : Int) (w : World) (h : Rdr w g A n c at_ 0) (hr : Rd w w.heap.size 1 A n (l.map B8)) (hn : n ≤ 140737488355328) (ha : at_ ≤ n) (x kk : Nat)
    (hx : nxt (l.drop at_) 0 0 = (x, kk, 0)) (hl : (x : Int) < least ∨ most < (x : Int)) :
    Calls Try.prog 67 #[.pointer (some ⟨g, 0, none⟩), .int .i64 least, .int .i64 most] w fun r w' => r = .returned (.int .i64 0) ∧ Rdr w' g A n c at_ 6 ∧ w.grownBy w' (some g) := by
  go_enter Try.func67, Try.ntmps67
  go_wp2_with fail
  refine (fine_yes g A n c at_ _ h).mono ?_; rintro r w1 ⟨rfl, rfl⟩
  go_wp2_with fail
  refine (next_any g A n c at_ 0 l _ h hr hn ha x kk 0 hx).mono ?_; rintro r w2 ⟨rfl, hs⟩
  have h2 := h.still hs
  have hc3 := h2.c3
  have hz3 := h2.fz 3
  by_cases h1 : (x : Int) < least
  · go_wp2_with fail
    go_ret
    exact ⟨rfl, (h2.set3 6).1, grown_trans' (still_grown hs _) (h2.set3 6).2⟩
  · have h1' : most < (x : Int) := hl.resolve_left h1
    go_wp2_with fail
    go_ret
    exact ⟨rfl, (h2.set3 6).1, grown_trans' (still_grown hs _) (h2.set3 6).2⟩
theorem Fr.self (w : World) (g : Nat) : Fr [g] w w [g] := Fr.refl _ _
theorem numberR_ (B g : Nat) (l : List UInt8) (at_ : Nat) (e least most : Int) (w : World) (h : RR w B g l at_ e) :
    Calls Try.prog 67 #[.pointer (some ⟨g, 0, none⟩), .int .i64 least, .int .i64 most] w fun r w' => r = .returned (.int .i64 (numS l at_ e least most).1) ∧ RR w' B g l (numS l at_ e least most).2.1 (numS l at_ e least most).2.2 ∧ Fr [g] w w' [g] := by
  obtain ⟨A, n, c, h1, h2, h3, h4, h5⟩ := h
  have hl : l.length = n := by simpa using h2.len
  by_cases he : e = 0
  · subst he
    rcases hx : nxt (l.drop at_) 0 0 with ⟨x, kk, f⟩
    by_cases hf : f = 0
    · subst hf
      have hkl := nxt_bd hx
      rw [List.length_drop] at hkl
      by_cases hb : (x : Int) < least ∨ most < (x : Int)
      · have hs : numS l at_ 0 least most = (0, at_, 6) := by unfold numS; rw [if_pos rfl, hx]; simp only; rw [if_pos trivial, if_pos hb]
        rw [hs]
        refine (number_rng g A n c at_ l least most w h1 h2 (by omega) h4 x kk hx hb).mono ?_
        rintro r w' ⟨rfl, h', hg⟩
        exact ⟨rfl, RR.of h1 h2 h3 h5 h' hg h4⟩
      · have hs : numS l at_ 0 least most = (x, at_ + kk, 0) := by unfold numS; rw [if_pos rfl, hx]; simp only; rw [if_pos trivial, if_neg hb]
        rw [hs]
        refine (number_good g A n c at_ l least most w h1 h2 (by omega) h4 x kk hx (by omega) (by omega) (by omega)).mono ?_
        rintro r w' ⟨rfl, h', hg⟩
        exact ⟨rfl, RR.of h1 h2 h3 h5 h' hg (by simp only; omega)⟩
    · have hs : numS l at_ 0 least most = (0, at_, f) := by unfold numS; rw [if_pos rfl, hx]; simp only; rw [if_neg hf]
      rw [hs]
      refine (number_bad g A n c at_ l least most w h1 h2 (by omega) h4 x kk f hx (by simpa using hf)).mono ?_
      rintro r w' ⟨rfl, h', hg⟩
      exact ⟨rfl, RR.of h1 h2 h3 h5 h' hg h4⟩
  · have hs : numS l at_ e least most = (0, at_, e) := by unfold numS; rw [if_neg he]
    rw [hs]
    refine (number_no g A n c at_ e least most w h1 (by simpa using he)).mono ?_
    rintro r w' ⟨rfl, rfl⟩
    exact ⟨rfl, ⟨A, n, c, h1, h2, h3, h4, h5⟩, Fr.self _ _⟩
theorem text_no (g : Nat) (A : Option Addr) (n c at_ : Nat) (e most : Int) (w : World) (h : Rdr w g A n c at_ e) (he : (e == 0) = false) :
    Calls Try.prog 68 #[.pointer (some ⟨g, 0, none⟩), .int .i64 most] w fun r w' => r = .returned (.slice none 0 0) ∧ w = w' := by
  go_enter Try.func68, Try.ntmps68
  go_wp2_with fail
  refine (fine_no g A n c at_ e _ h he).mono ?_; rintro r w1 ⟨rfl, rfl⟩
  go_wp2_with fail
  go_ret
  exact ⟨rfl, rfl⟩
theorem textR_ (B g : Nat) (l : List UInt8) (at_ : Nat) (e most : Int) (no : List Nat) (w : World) (h : RR w B g l at_ e) (hm : 0 ≤ most) (hno : ∀ k, k ∈ no → k < w.heap.size) :
    Calls Try.prog 68 #[.pointer (some ⟨g, 0, none⟩), .int .i64 most] w fun r w' => ∃ A m c, r = .returned (.slice A m c) ∧ (txtS l at_ e most).1.length = m ∧ RdN no w' 1 A m ((txtS l at_ e most).1.map B8) ∧ RR w' B g l (txtS l at_ e most).2.1 (txtS l at_ e most).2.2 ∧ Fr [g] w w' [g] := by
  obtain ⟨A, n, c, h1, h2, h3, h4, h5⟩ := h
  have hl : l.length = n := by simpa using h2.len
  by_cases he : e = 0
  · subst he
    rcases hx : nxt (l.drop at_) 0 0 with ⟨x, kk, f⟩
    by_cases hf : f = 0
    · subst hf
      have hkl := nxt_bd hx
      rw [List.length_drop] at hkl
      by_cases hb : most < (x : Int)
      · have hs : txtS l at_ 0 most = ([], at_, 2) := by unfold txtS; rw [if_pos rfl, hx]; simp only; rw [if_pos trivial, if_pos hb]
        rw [hs]
        refine (text_long g A n c at_ l most w h1 h2 (by omega) h4 x kk hx hm hb).mono ?_
        rintro r w' ⟨rfl, h', hg⟩
        exact ⟨none, 0, 0, rfl, rfl, ⟨Rd.nil _ _ _ _, fun b o h => absurd h (by omega)⟩, RR.of h1 h2 h3 h5 h' hg h4⟩
      · by_cases hb2 : l.length < at_ + kk + x
        · have hs : txtS l at_ 0 most = ([], at_, 3) := by unfold txtS; rw [if_pos rfl, hx]; simp only; rw [if_pos trivial, if_neg hb, if_pos hb2]
          rw [hs]
          refine (text_short g A n c at_ l most w h1 h2 (by omega) h4 x kk hx hm (by omega) (by omega) (by omega)).mono ?_
          rintro r w' ⟨rfl, h', hg⟩
          exact ⟨none, 0, 0, rfl, rfl, ⟨Rd.nil _ _ _ _, fun b o h => absurd h (by omega)⟩, RR.of h1 h2 h3 h5 h' hg h4⟩
        · have hs : txtS l at_ 0 most = ((l.drop (at_ + kk)).take x, at_ + kk + x, 0) := by unfold txtS; rw [if_pos rfl, hx]; simp only; rw [if_pos trivial, if_neg hb, if_neg hb2]
          rw [hs]
          refine (text_good g A n c at_ l most w h1 h2 (by omega) h3 h4 x kk hx hm (by omega) (by omega)).mono ?_
          rintro r w' ⟨A', c', rfl, hfr, hr', h', hg⟩
          exact ⟨A', x, c', rfl, by simp; omega, ⟨hr', fun b o _ e hm => absurd (hfr b o e) (Nat.not_le.2 (hno b hm))⟩, RR.of h1 h2 h3 h5 h' hg (by simp only; omega)⟩
    · have hs : txtS l at_ 0 most = ([], at_, f) := by unfold txtS; rw [if_pos rfl, hx]; simp only; rw [if_neg hf]
      rw [hs]
      refine (text_bad g A n c at_ l most w h1 h2 (by omega) h4 x kk f hx (by simpa using hf)).mono ?_
      rintro r w' ⟨rfl, h', hg⟩
      exact ⟨none, 0, 0, rfl, rfl, ⟨Rd.nil _ _ _ _, fun b o h => absurd h (by omega)⟩, RR.of h1 h2 h3 h5 h' hg h4⟩
  · have hs : txtS l at_ e most = ([], at_, e) := by unfold txtS; rw [if_neg he]
    rw [hs]
    refine (text_no g A n c at_ e most w h1 (by simpa using he)).mono ?_
    rintro r w' ⟨rfl, rfl⟩
    exact ⟨none, 0, 0, rfl, rfl, ⟨Rd.nil _ _ _ _, fun b o h => absurd h (by omega)⟩, ⟨A, n, c, h1, h2, h3, h4, h5⟩, Fr.self _ _⟩
theorem failR_ (B g : Nat) (l : List UInt8) (at_ : Nat) (e f : Int) (w : World) (h : RR w B g l at_ e) :
    Calls Try.prog 69 #[.pointer (some ⟨g, 0, none⟩), .int .i64 f] w fun r w' => r = .returned undef ∧ RR w' B g l at_ (failS e f) ∧ Fr [g] w w' [g] := by
  obtain ⟨A, n, c, h1, h2, h3, h4, h5⟩ := h
  by_cases he : e = 0
  · subst he
    have hc3 := h1.c3
    have hz3 := h1.fz 3
    rw [show failS 0 f = f from if_pos rfl]
    go_enter Try.func69, Try.ntmps69
    go_wp2_with fail
    refine (fine_yes g A n c at_ _ h1).mono ?_; rintro r w1 ⟨rfl, rfl⟩
    go_wp2_with fail
    go_returns
    exact ⟨rfl, RR.of h1 h2 h3 h5 (h1.set3 f).1 (h1.set3 f).2 h4⟩
  · rw [show failS e f = e from if_neg he]
    go_enter Try.func69, Try.ntmps69
    go_wp2_with fail
    refine (fine_no g A n c at_ e _ h1 (by simpa using he)).mono ?_; rintro r w1 ⟨rfl, rfl⟩
    go_wp2_with fail
    go_returns
    exact ⟨rfl, ⟨A, n, c, h1, h2, h3, h4, h5⟩, Fr.self _ _⟩
theorem errR_ (B g : Nat) (l : List UInt8) (at_ : Nat) (e : Int) (w : World) (h : RR w B g l at_ e) :
    Calls Try.prog 50 #[.pointer (some ⟨g, 0, none⟩)] w fun r w' => r = .returned (.int .i64 e) ∧ w = w' := by
  obtain ⟨A, n, c, h1, _⟩ := h
  exact err_any g A n c at_ e w h1
end Go.Proofs.Ytabcbpcfleociaa
