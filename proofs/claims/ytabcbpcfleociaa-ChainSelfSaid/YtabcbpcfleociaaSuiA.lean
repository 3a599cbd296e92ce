/- The ideal suite's names of hashes. (Printed by gen_sui.py.) -/
import Derived.Test.YtabcbpcfleociaaLib
namespace Go.Proofs.Ytabcbpcfleociaa
open Go.RowKit
attribute [local go_sem ↓] Go.wp_at_zero Go.wp_at_succ
set_option linter.unusedSimpArgs false
set_option linter.unusedVariables false
/-- A number in eight bytes, the lowest first. -/
def eightL (n : Nat) : List UInt8 := (List.range 8).map fun i => UInt8.ofNat (n / 2 ^ (8 * i))
theorem eightL_len (n : Nat) : (eightL n).length = 8 := by simp [eightL]
/-- The name of the n-th term, if it is a hash. -/
def hname (n : Nat) : List UInt8 := 104 :: (eightL n ++ List.replicate 23 0)
theorem hname_len (n : Nat) : (hname n).length = 32 := by simp [hname, eightL_len]
/-- The text by which a hash's term is found. -/
def hkeyL (b : List UInt8) : List UInt8 := 104 :: (eightL b.length ++ b)
theorem hkeyL_inj {a b : List UInt8} (h : hkeyL a = hkeyL b) : a = b := by
  unfold hkeyL at h
  injection h with _ h
  have := congrArg (List.drop 8) h
  rwa [List.drop_append_of_le_length (by rw [eightL_len]; exact Nat.le_refl _), List.drop_append_of_le_length (by rw [eightL_len]; exact Nat.le_refl _), List.drop_of_length_le (by rw [eightL_len]; exact Nat.le_refl _), List.drop_of_length_le (by rw [eightL_len]; exact Nat.le_refl _), List.nil_append, List.nil_append] at this
set_option maxHeartbeats 1000000 in
theorem eight_ (n : Nat) (w : World) (hn : n < 4611686018427387904) :
    Calls Try.prog 83 #[.int .i64 n] w fun e w' => ∃ A c, e = .returned (.slice A 8 c) ∧ OwnS w' w.heap.size A 8 c ((eightL n).map B8) ∧ Below w.heap.size w w' := by
  have fn : IntKind.u64.wrap (n : Int) = (n : Int) := by rw [wrapU, Nat.mod_eq_of_lt (by omega)]
  have hO0 : Hid (OwnS w w.heap.size none 0 0 (((eightL n).take 0).map B8)) := OwnS.nil _ _ _
  go_enter Try.func83, Try.ntmps83
  go_wp2_with fail
  go_loopw [3, 4, 5] (fun x3 _ x5 wr => ∃ (i : Nat) (A : Option Addr) (c : Nat), x3 = .slice A i c ∧ x5 = .int .i64 i ∧ i ≤ 8 ∧ Hid (OwnS wr w.heap.size A i c (((eightL n).take i).map B8)) ∧ Hid (Below w.heap.size w wr)) (fun _ _ x5 _ => 8 - (intOf x5).toNat)
  case atStart => exact ⟨0, none, 0, rfl, rfl, by omega, hO0, Below.refl _ _⟩
  case round =>
    obtain ⟨i, A, c, rfl, rfl, hi, hO, hb⟩ := hrel
    by_cases hi8 : i < 8
    · have hi8' : (i : Int) < 8 := by omega
      have hi0 : (0 : Int) ≤ (i : Int) := by omega
      obtain ⟨sh, hsh⟩ : ∃ s : Nat, Hid (s = 8 * i) := ⟨_, Lib.hid rfl⟩
      have fs : IntKind.i64.wrap (8 * (i : Int)) = (sh : Int) := by rw [IntWalk.i64_in _ (by omega), hsh.out]; omega
      have fs' : 8 * (i : Int) = (sh : Int) := by rw [hsh.out]; omega
      have hs0 : (0 : Int) ≤ (sh : Int) := by omega
      have hs64 : (sh : Int) < 64 := by have := hsh.out; omega
      have hs64' : (sh : Int) ≤ 64 := by omega
      obtain ⟨y, hy⟩ : ∃ y : Nat, Hid (n / 2 ^ sh = y) := ⟨_, Lib.hid rfl⟩
      have f0 : (n : Int) / 2 ^ sh = (y : Int) := by rw [← hy.out, Int.natCast_ediv, Int.natCast_pow]; rfl
      obtain ⟨z, hz⟩ : ∃ z : UInt8, Hid (UInt8.ofNat (n / 2 ^ (8 * i)) = z) := ⟨_, Lib.hid rfl⟩
      have fz : IntKind.u8.wrap (y : Int) = (z.toNat : Int) := by rw [IntKind.wrap_u8', ← hz.out, UInt8.toNat_ofNat', ← hsh.out, hy.out]; omega
      have e8 : IntKind.i64.wrap ((i : Int) + 1) = ((i + 1 : Nat) : Int) := by rw [IntWalk.i64_in _ (by omega)]; omega
      have hsn : Hid ((eightL n).take i ++ [z] = (eightL n).take (i + 1)) := by
        unfold Hid
        rw [List.take_add_one]
        congr 1
        rw [eightL, List.getElem?_map, List.getElem?_range hi8]
        simp only [Option.map_some, Option.toList_some]
        rw [hz.out]
      have hO1 := Lib.hid (hO.out.to ((Below.refl wr.heap.size wr).alloc (Nat.le_refl _) (.cells #[.int .u8 (z.toNat : Int)] 5)))
      have hb1 := Lib.hid (hb.out.trans ((Below.refl w.heap.size wr).alloc hb.out.size (.cells #[.int .u8 (z.toNat : Int)] 5)))
      have hl1 := Lib.hid (one_lit wr z)
      have hoz := Lib.hid (oneB [z])
      go_wp2_with (at_builtin
                   refine wpList_apT rfl (.tmp 8) (.tmp 15) 38 rfl w.heap.size 5 1 (.int .u8 0) Try.underlying38 infoB rfl A i c _ rfl hO1.out _ (some ⟨wr.heap.size, 0, none⟩) 1 1 (([z] : List UInt8).map B8) rfl hl1.out hoz.out (by simp only [maxLen]; omega) (by omega) hb1.out.size ?_
                   intro A3 c3 w3 o3 b3 _ _ _
                   rw [← List.map_append, hsn.out] at o3
                   have O3 := Lib.hid o3
                   have B3 := Lib.hid (hb1.out.trans b3)
                   clear o3 b3)
      go_roundw
      case rel => exact ⟨i + 1, A3, c3, rfl, by go_num, hi8, O3, B3⟩
      case measure => simp only [intOf]; omega
    · have hiS : Hid (i = 8) := (by omega : i = 8)
      have hi8' : ¬ (i : Int) < 8 := by omega
      rw [List.take_of_length_le (by rw [eightL_len]; omega)] at hO
      go_wp2_with fail
      go_ret
      have ho := hO.out
      rw [hiS.out] at ho
      exact ⟨A, c, by rw [hiS.out]; rfl, ho, hb.out⟩
end Go.Proofs.Ytabcbpcfleociaa
