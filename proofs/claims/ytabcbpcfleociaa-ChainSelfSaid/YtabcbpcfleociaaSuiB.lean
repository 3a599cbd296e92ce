/- The ideal suite's size, key, called, of a hash's term. (Printed by gen_sui.py.) -/
import Derived.Test.YtabcbpcfleociaaSuiA
namespace Go.Proofs.Ytabcbpcfleociaa
open Go.RowKit
attribute [local go_sem ↓] Go.wp_at_zero Go.wp_at_succ
set_option linter.unusedSimpArgs false
set_option linter.unusedVariables false
theorem step_app {P : Program} {w : World} {ops : Array Oper} {E : Prop} {o : Oper} {a : Act} {K : Act → World → Prop} {Q : Exit → Act → World → Prop} (s x : Operand) (t : TypeId)
    (hgd : o.guard = none) (ho : o.op = .call { callee := .builtin .append, args := #[s, x], argTypes := #[t, t] })
    (base : Nat) (e : TypeId) (size bytes : Nat) (z : Value) (ht : P.underlying t = some (.slice e)) (hi : (P.info? e).map (fun i => (i.zero, i.size, i.bytes)) = some (some z, size, bytes))
    (hzs : z.cells.size = size) (hsz : 0 < size)
    (v : Value) (n : Nat) (xs : List Value) (hs : a.eval s = v) (hown : w.ownsRow base e size v n xs)
    (B : Nat) (A : Option Addr) (m c : Nat) (news : List Value) (hx : a.eval x = .slice A m c) (hr : Rd w B size A m news) (h1 : ∀ u ∈ news, u.oneCell' = true)
    (h63 : n + m ≤ maxLen) (hbytes : (n + m) * bytes ≤ 140737488355328) (hbase : base ≤ w.heap.size)
    (h : ∀ A' c' w', w'.ownsRow base e size (.slice A' (n + m) c') (n + m) (xs ++ news) → w.grownBy w' v.ownBlock → ((Value.slice A' (n + m) c').ownBlock = v.ownBlock ∨ (Value.slice A' (n + m) c').ownBlock = some w.heap.size) →
      K (a.put o.dst (.slice A' (n + m) c')) w') : if Region.wanted o (yielded ops a.tmps) = true then Oper.wp P o a w K Q else E := by
  rw [if_pos (by simp [Region.wanted, hgd])]
  exact wp_app s x t ho base e size bytes z ht hi hzs hsz v n xs hs hown B A m c news hx hr h1 h63 hbytes hbase h
theorem size_ (Q : Option Addr) (n c : Nat) (w : World) :
    Calls Try.prog 103 #[.agg #[.int .u8 104, .slice Q n c]] w fun e w' => e = .returned (.int .i64 32) ∧ Below w.heap.size w w' := by
  have k0 : (w.alloc (.cells #[.int .u8 104, .slice Q n c] 68)).cell? ⟨w.heap.size, 0, none⟩ = some (.int .u8 104) := cell_blk (heap_alloc_new w _) 0 rfl
  go_enter Try.func103, Try.ntmps103
  go_wp2_with fail
  go_ret
  exact ⟨rfl, (Below.refl _ _).alloc (Nat.le_refl _) _⟩
def kpart (b : List UInt8) : Nat → List UInt8
  | 0 => [104]
  | _ + 1 => hkeyL b
set_option maxHeartbeats 1000000 in
theorem key_ (Q : Option Addr) (qc : Nat) (b : List UInt8) (w : World) (hp : RdL w w.heap.size Q 1 [b]) (hb : b.length ≤ 1000000) :
    Calls Try.prog 76 #[.agg #[.int .u8 104, .slice Q 1 qc]] w fun e w' => e = .returned (.string (str (hkeyL b))) ∧ Below w.heap.size w w' := by
  obtain ⟨W, hW⟩ : ∃ W, Hid (W = w.alloc (.cells #[.int .u8 104, .slice Q 1 qc] 68)) := ⟨_, Lib.hid rfl⟩
  have hb0 : Below w.heap.size w W := by rw [hW.out]; exact (Below.refl _ _).alloc (Nat.le_refl _) _
  have hsW : W.heap.size = w.heap.size + 1 := by rw [hW.out]; exact szAlloc _ _
  obtain ⟨qb, qo, A, c, hQ, hqb, hcq, hra, hac⟩ := hp.2 0 b rfl
  subst hQ
  obtain ⟨n, hn⟩ : ∃ n : Nat, Hid (b.length = n) := ⟨_, Lib.hid rfl⟩
  rw [hn.out] at hcq hra
  rw [hn.out] at hb
  have k0 : (w.alloc (.cells #[.int .u8 104, .slice (some ⟨qb, qo, none⟩) 1 qc] 68)).cell? ⟨w.heap.size, 0, none⟩ = some (.int .u8 104) := cell_blk (heap_alloc_new w _) 0 rfl
  obtain ⟨V, hV⟩ : ∃ V, Hid (V = W.alloc (.cells #[.int .u8 104] 5)) := ⟨_, Lib.hid rfl⟩
  have hb1 : Below W.heap.size W V := by rw [hV.out]; exact (Below.refl _ _).alloc (Nat.le_refl _) _
  have hb1' : Hid (Below w.heap.size w V) := hb0.trans (hb1.mono hb0.size)
  have HRa := Lib.hid hra
  have Hcq := Lib.hid hcq
  have hO0 : Hid (OwnS V w.heap.size (some ⟨W.heap.size, 0, none⟩) 1 1 ((kpart b 0).map B8)) := by
    rw [hV.out]
    refine ⟨rfl, Nat.le_refl _, by simp [maxLen], fun _ => ⟨W.heap.size, 0, rfl, hb0.size, fun j u hu => cell_blk (heap_alloc_new W _) _ ?_, fun j hj => ⟨?_, frozen_blk (heap_alloc_new W _) _⟩⟩⟩
    · rw [Nat.zero_add, ← hu]; rcases j with _ | j <;> rfl
    · obtain rfl : j = 0 := by omega
      rw [cell_blk (heap_alloc_new W _) (0 + 0) rfl]; rfl
  have hob := Lib.hid (oneB b)
  have ho8 := Lib.hid (oneB (eightL n))
  have HsW := Lib.hid hsW
  clear hcq hra hp hb0 hb1 hsW
  go_enter Try.func76, Try.ntmps76
  go_wp2_with fail
  rw [← hW.out, ← HsW.out, ← hV.out]
  clear k0
  go_loopw [3, 5, 12] (fun x3 _ x12 wr => ∃ (i m : Nat) (A : Option Addr) (c : Nat), x3 = .slice A m c ∧ x12 = .int .i64 i ∧ i ≤ 1 ∧ Hid (m ≤ 1000100) ∧ Hid (i = 0 → m = 1) ∧ Hid (OwnS wr w.heap.size A m c ((kpart b i).map B8)) ∧ Hid (Below w.heap.size w wr)) (fun _ _ x12 _ => 1 - (intOf x12).toNat)
  case atStart => exact ⟨0, 1, _, 1, rfl, rfl, by omega, (by decide : (1 : Nat) ≤ 1000100), fun _ => rfl, hO0, hb1'⟩
  case round =>
    obtain ⟨i, m, A3, c3, rfl, rfl, hi, hm, hm1, hO, hb9⟩ := hrel
    by_cases hi0 : i = 0
    · subst hi0
      have hmm : m = 1 := hm1.out rfl
      subst hmm
      have hsr := hb9.out.size
      have hcq0 : wr.cell? ⟨qb, qo, none⟩ = some (.slice A n c) := (World.cell?_of_block (a := ⟨qb, qo + 0, none⟩) (hb9.out.block qb hqb)).trans Hcq.out
      have HR1 := Lib.hid (HRa.out.below hb9.out)
      go_wp2_with fail
      refine (eight_ n wr (by omega)).mono ?_
      rintro e w1 ⟨A8, c8, rfl, o8, b8⟩
      have R8 := Lib.hid o8.rd
      have O1 := Lib.hid (hO.out.to b8)
      have B1 := Lib.hid (hb9.out.trans (b8.mono hsr))
      have hs1 := B1.out.size
      clear o8
      go_wp2_with (first
        | (at_builtin
           refine wpList_apT rfl (.tmp 16) (.tmp 19) 38 rfl w.heap.size 5 1 (.int .u8 0) Try.underlying38 infoB rfl A3 1 c3 _ rfl O1.out _ A8 8 c8 _ rfl R8.out ho8.out (by simp only [maxLen]; omega) (by omega) hs1 ?_
           intro A9 c9 w2 o9 b9 _ _ _
           rw [← List.map_append] at o9
           have O9 := Lib.hid o9
           have B2 := Lib.hid (B1.out.trans b9)
           have hs2 := B2.out.size
           have HR2 := Lib.hid (HRa.out.below B2.out)
           clear o9 b9)
        | (at_builtin
           refine wpList_apT rfl (.tmp 20) (.tmp 21) 38 rfl w.heap.size 5 1 (.int .u8 0) Try.underlying38 infoB rfl A9 (1 + 8) c9 _ rfl O9.out _ A n c (b.map B8) rfl HR2.out hob.out (by simp only [maxLen]; omega) (by omega) hs2 ?_
           intro A10 c10 w3 o10 b10 _ _ _
           rw [← List.map_append] at o10
           have O10 : Hid (OwnS w3 w.heap.size A10 (1 + 8 + n) c10 ((kpart b 1).map B8)) := by
             have e : kpart b 0 ++ eightL n ++ b = kpart b 1 := by show [104] ++ eightL n ++ b = 104 :: (eightL b.length ++ b); rw [hn.out]; rfl
             rw [e] at o10; exact o10
           have B3 := Lib.hid (B2.out.trans b10)
           obtain ⟨m10, hm10⟩ : ∃ m : Nat, Hid (m = 1 + 8 + n) := ⟨_, Lib.hid rfl⟩
           rw [← hm10.out] at O10 ⊢
           clear o10 b10))
      go_roundw
      case rel => exact ⟨1, m10, A10, c10, rfl, by go_num, by omega, (by have := hm10.out; omega : m10 ≤ 1000100), fun h => absurd h (by decide), O10, B3⟩
      case measure => simp only [intOf]; omega
    · have hiS : i = 1 := by omega
      subst hiS
      have hcv := conv8 wr A3 m c3 (hkeyL b) hO.out.rd
      go_wp2_with fail
      go_ret
      exact ⟨rfl, hb9.out⟩
end Go.Proofs.Ytabcbpcfleociaa
