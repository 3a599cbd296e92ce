/- The ideal suite's names of hashes. (Printed by gen_sui.py.) -/
import Derived.Test.YtabcbpcfleociaaMLib
import Derived.Test.YtabcbpcfleociaaMReg
import Derived.Test.YtabcbpcfleociaaMMap
import Derived.WalkSpells
namespace Go.Proofs.Ytabcbpcfleociaa
open Go.RowKit
attribute [local go_sem ↓] Go.wp_at_zero Go.wp_at_succ
set_option linter.unusedSimpArgs false
set_option linter.unusedVariables false
/-- A number in eight bytes, the lowest first. -/
def eightL (n : Nat) : List UInt8 := (List.range 8).map fun i => UInt8.ofNat (n / 2 ^ (8 * i))
theorem eightL_len (n : Nat) : (eightL n).length = 8 := by simp [eightL]
/-- The name of the n-th term, if it is a hash. -/
def hname (n : Nat) : List UInt8 := 104 :: (eightL n ++ List.replicate 23 0)
theorem hname_len (n : Nat) : (hname n).length = 32 := by simp [hname, eightL_len]
/-- The text by which a hash's term is found. -/
def hkeyL (b : List UInt8) : List UInt8 := 104 :: (eightL b.length ++ b)
theorem hkeyL_inj {a b : List UInt8} (h : hkeyL a = hkeyL b) : a = b := by
  unfold hkeyL at h
  injection h with _ h
  have := congrArg (List.drop 8) h
  rwa [List.drop_append_of_le_length (by rw [eightL_len]; exact Nat.le_refl _), List.drop_append_of_le_length (by rw [eightL_len]; exact Nat.le_refl _), List.drop_of_length_le (by rw [eightL_len]; exact Nat.le_refl _), List.drop_of_length_le (by rw [eightL_len]; exact Nat.le_refl _), List.nil_append, List.nil_append] at this
set_option maxHeartbeats 1000000 in
theorem eight_ (n : Nat) (w : World) (hn : n < 4611686018427387904) :
    Calls Try.prog 83 #[.int .i64 n] w fun e w' => ∃ A c, e = .returned (.slice A 8 c) ∧ OwnS w' w.heap.size A 8 c ((eightL n).map B8) ∧ Below w.heap.size w w' := by
  have fn : IntKind.u64.wrap (n : Int) = (n : Int) := by rw [wrapU, Nat.mod_eq_of_lt (by omega)]
  have hO0 : Hid (OwnS w w.heap.size none 0 0 (((eightL n).take 0).map B8)) := OwnS.nil _ _ _
  go_enter Try.func83, Try.ntmps83
  go_wp2_with fail
  go_loopw [3, 4, 5] (fun x3 _ x5 wr => ∃ (i : Nat) (A : Option Addr) (c : Nat), x3 = .slice A i c ∧ x5 = .int .i64 i ∧ i ≤ 8 ∧ Hid (OwnS wr w.heap.size A i c (((eightL n).take i).map B8)) ∧ Hid (Below w.heap.size w wr)) (fun _ _ x5 _ => 8 - (intOf x5).toNat)
  case atStart => exact ⟨0, none, 0, rfl, rfl, by omega, hO0, Below.refl _ _⟩
  case round =>
    obtain ⟨i, A, c, rfl, rfl, hi, hO, hb⟩ := hrel
    by_cases hi8 : i < 8
    · have hi8' : (i : Int) < 8 := by omega
      have hi0 : (0 : Int) ≤ (i : Int) := by omega
      obtain ⟨sh, hsh⟩ : ∃ s : Nat, Hid (s = 8 * i) := ⟨_, Lib.hid rfl⟩
      have fs : IntKind.i64.wrap (8 * (i : Int)) = (sh : Int) := by rw [IntWalk.i64_in _ (by omega), hsh.out]; omega
      have fs' : 8 * (i : Int) = (sh : Int) := by rw [hsh.out]; omega
      have hs0 : (0 : Int) ≤ (sh : Int) := by omega
      have hs64 : (sh : Int) < 64 := by have := hsh.out; omega
      have hs64' : (sh : Int) ≤ 64 := by omega
      obtain ⟨y, hy⟩ : ∃ y : Nat, Hid (n / 2 ^ sh = y) := ⟨_, Lib.hid rfl⟩
      have f0 : (n : Int) / 2 ^ sh = (y : Int) := by rw [← hy.out, Int.natCast_ediv, Int.natCast_pow]; rfl
      obtain ⟨z, hz⟩ : ∃ z : UInt8, Hid (UInt8.ofNat (n / 2 ^ (8 * i)) = z) := ⟨_, Lib.hid rfl⟩
      have fz : IntKind.u8.wrap (y : Int) = (z.toNat : Int) := by rw [IntKind.wrap_u8', ← hz.out, UInt8.toNat_ofNat', ← hsh.out, hy.out]; omega
      have e8 : IntKind.i64.wrap ((i : Int) + 1) = ((i + 1 : Nat) : Int) := by rw [IntWalk.i64_in _ (by omega)]; omega
      have hsn : Hid ((eightL n).take i ++ [z] = (eightL n).take (i + 1)) := by
        unfold Hid
        rw [List.take_add_one]
        congr 1
        rw [eightL, List.getElem?_map, List.getElem?_range hi8]
        simp only [Option.map_some, Option.toList_some]
        rw [hz.out]
      have hO1 := Lib.hid (hO.out.to ((Below.refl wr.heap.size wr).alloc (Nat.le_refl _) (.cells #[.int .u8 (z.toNat : Int)] 5)))
      have hb1 := Lib.hid (hb.out.trans ((Below.refl w.heap.size wr).alloc hb.out.size (.cells #[.int .u8 (z.toNat : Int)] 5)))
      have hl1 := Lib.hid (one_lit wr z)
      have hoz := Lib.hid (oneB [z])
      go_wp2_with (at_builtin
                   refine wpList_apT rfl (.tmp 8) (.tmp 15) 38 rfl w.heap.size 5 1 (.int .u8 0) Try.underlying38 infoB rfl A i c _ rfl hO1.out _ (some ⟨wr.heap.size, 0, none⟩) 1 1 (([z] : List UInt8).map B8) rfl hl1.out hoz.out (by simp only [maxLen]; omega) (by omega) hb1.out.size ?_
                   intro A3 c3 w3 o3 b3 _ _ _
                   rw [← List.map_append, hsn.out] at o3
                   have O3 := Lib.hid o3
                   have B3 := Lib.hid (hb1.out.trans b3)
                   clear o3 b3)
      go_roundw
      case rel => exact ⟨i + 1, A3, c3, rfl, by go_num, hi8, O3, B3⟩
      case measure => simp only [intOf]; omega
    · have hiS : Hid (i = 8) := (by omega : i = 8)
      have hi8' : ¬ (i : Int) < 8 := by omega
      rw [List.take_of_length_le (by rw [eightL_len]; omega)] at hO
      go_wp2_with fail
      go_ret
      have ho := hO.out
      rw [hiS.out] at ho
      exact ⟨A, c, by rw [hiS.out]; rfl, ho, hb.out⟩
end Go.Proofs.Ytabcbpcfleociaa

/- The ideal suite's size, key, called, of a hash's term. (Printed by gen_sui.py.) -/
namespace Go.Proofs.Ytabcbpcfleociaa
open Go.RowKit
attribute [local go_sem ↓] Go.wp_at_zero Go.wp_at_succ
set_option linter.unusedSimpArgs false
set_option linter.unusedVariables false
theorem step_app {P : Program} {w : World} {ops : Array Oper} {E : Prop} {o : Oper} {a : Act} {K : Act → World → Prop} {Q : Exit → Act → World → Prop} (s x : Operand) (t : TypeId)
    (hgd : o.guard = none) (ho : o.op = .call { callee := .builtin .append, args := #[s, x], argTypes := #[t, t] })
    (base : Nat) (e : TypeId) (size bytes : Nat) (z : Value) (ht : P.underlying t = some (.slice e)) (hi : (P.info? e).map (fun i => (i.zero, i.size, i.bytes)) = some (some z, size, bytes))
    (hzs : z.cells.size = size) (hsz : 0 < size)
    (v : Value) (n : Nat) (xs : List Value) (hs : a.eval s = v) (hown : w.ownsRow base e size v n xs)
    (B : Nat) (A : Option Addr) (m c : Nat) (news : List Value) (hx : a.eval x = .slice A m c) (hr : Rd w B size A m news) (h1 : ∀ u ∈ news, u.oneCell' = true)
    (h63 : n + m ≤ maxLen) (hbytes : (n + m) * bytes ≤ 140737488355328) (hbase : base ≤ w.heap.size)
    (h : ∀ A' c' w', w'.ownsRow base e size (.slice A' (n + m) c') (n + m) (xs ++ news) → w.grownBy w' v.ownBlock → ((Value.slice A' (n + m) c').ownBlock = v.ownBlock ∨ (Value.slice A' (n + m) c').ownBlock = some w.heap.size) →
      K (a.put o.dst (.slice A' (n + m) c')) w') : if Region.wanted o (yielded ops a.tmps) = true then Oper.wp P o a w K Q else E := by
  rw [if_pos (by simp [Region.wanted, hgd])]
  exact wp_app s x t ho base e size bytes z ht hi hzs hsz v n xs hs hown B A m c news hx hr h1 h63 hbytes hbase h
theorem size_ (Q : Option Addr) (n c : Nat) (w : World) :
    Calls Try.prog 103 #[.agg #[.int .u8 104, .slice Q n c]] w fun e w' => e = .returned (.int .i64 32) ∧ Below w.heap.size w w' := by
  have k0 : (w.alloc (.cells #[.int .u8 104, .slice Q n c] 68)).cell? ⟨w.heap.size, 0, none⟩ = some (.int .u8 104) := cell_blk (heap_alloc_new w _) 0 rfl
  go_enter Try.func103, Try.ntmps103
  go_wp2_with fail
  go_ret
  exact ⟨rfl, (Below.refl _ _).alloc (Nat.le_refl _) _⟩
def kpart (b : List UInt8) : Nat → List UInt8
  | 0 => [104]
  | _ + 1 => hkeyL b
set_option maxHeartbeats 1000000 in
theorem key_ (Q : Option Addr) (qc : Nat) (b : List UInt8) (w : World) (hp : RdL w w.heap.size Q 1 [b]) (hb : b.length ≤ 1000000) :
    Calls Try.prog 76 #[.agg #[.int .u8 104, .slice Q 1 qc]] w fun e w' => e = .returned (.string (str (hkeyL b))) ∧ Below w.heap.size w w' := by
  obtain ⟨W, hW⟩ : ∃ W, Hid (W = w.alloc (.cells #[.int .u8 104, .slice Q 1 qc] 68)) := ⟨_, Lib.hid rfl⟩
  have hb0 : Below w.heap.size w W := by rw [hW.out]; exact (Below.refl _ _).alloc (Nat.le_refl _) _
  have hsW : W.heap.size = w.heap.size + 1 := by rw [hW.out]; exact szAlloc _ _
  obtain ⟨qb, qo, A, c, hQ, hqb, hcq, hra, hac⟩ := hp.2 0 b rfl
  subst hQ
  obtain ⟨n, hn⟩ : ∃ n : Nat, Hid (b.length = n) := ⟨_, Lib.hid rfl⟩
  rw [hn.out] at hcq hra
  rw [hn.out] at hb
  have k0 : (w.alloc (.cells #[.int .u8 104, .slice (some ⟨qb, qo, none⟩) 1 qc] 68)).cell? ⟨w.heap.size, 0, none⟩ = some (.int .u8 104) := cell_blk (heap_alloc_new w _) 0 rfl
  obtain ⟨V, hV⟩ : ∃ V, Hid (V = W.alloc (.cells #[.int .u8 104] 5)) := ⟨_, Lib.hid rfl⟩
  have hb1 : Below W.heap.size W V := by rw [hV.out]; exact (Below.refl _ _).alloc (Nat.le_refl _) _
  have hb1' : Hid (Below w.heap.size w V) := hb0.trans (hb1.mono hb0.size)
  have HRa := Lib.hid hra
  have Hcq := Lib.hid hcq
  have hO0 : Hid (OwnS V w.heap.size (some ⟨W.heap.size, 0, none⟩) 1 1 ((kpart b 0).map B8)) := by
    rw [hV.out]
    refine ⟨rfl, Nat.le_refl _, by simp [maxLen], fun _ => ⟨W.heap.size, 0, rfl, hb0.size, fun j u hu => cell_blk (heap_alloc_new W _) _ ?_, fun j hj => ⟨?_, frozen_blk (heap_alloc_new W _) _⟩⟩⟩
    · rw [Nat.zero_add, ← hu]; rcases j with _ | j <;> rfl
    · obtain rfl : j = 0 := by omega
      rw [cell_blk (heap_alloc_new W _) (0 + 0) rfl]; rfl
  have hob := Lib.hid (oneB b)
  have ho8 := Lib.hid (oneB (eightL n))
  have HsW := Lib.hid hsW
  clear hcq hra hp hb0 hb1 hsW
  go_enter Try.func76, Try.ntmps76
  go_wp2_with fail
  rw [← hW.out, ← HsW.out, ← hV.out]
  clear k0
  go_loopw [3, 5, 12] (fun x3 _ x12 wr => ∃ (i m : Nat) (A : Option Addr) (c : Nat), x3 = .slice A m c ∧ x12 = .int .i64 i ∧ i ≤ 1 ∧ Hid (m ≤ 1000100) ∧ Hid (i = 0 → m = 1) ∧ Hid (OwnS wr w.heap.size A m c ((kpart b i).map B8)) ∧ Hid (Below w.heap.size w wr)) (fun _ _ x12 _ => 1 - (intOf x12).toNat)
  case atStart => exact ⟨0, 1, _, 1, rfl, rfl, by omega, (by decide : (1 : Nat) ≤ 1000100), fun _ => rfl, hO0, hb1'⟩
  case round =>
    obtain ⟨i, m, A3, c3, rfl, rfl, hi, hm, hm1, hO, hb9⟩ := hrel
    by_cases hi0 : i = 0
    · subst hi0
      have hmm : m = 1 := hm1.out rfl
      subst hmm
      have hsr := hb9.out.size
      have hcq0 : wr.cell? ⟨qb, qo, none⟩ = some (.slice A n c) := (World.cell?_of_block (a := ⟨qb, qo + 0, none⟩) (hb9.out.block qb hqb)).trans Hcq.out
      have HR1 := Lib.hid (HRa.out.below hb9.out)
      go_wp2_with fail
      refine (eight_ n wr (by omega)).mono ?_
      rintro e w1 ⟨A8, c8, rfl, o8, b8⟩
      have R8 := Lib.hid o8.rd
      have O1 := Lib.hid (hO.out.to b8)
      have B1 := Lib.hid (hb9.out.trans (b8.mono hsr))
      have hs1 := B1.out.size
      clear o8
      go_wp2_with (first
        | (at_builtin
           refine wpList_apT rfl (.tmp 16) (.tmp 19) 38 rfl w.heap.size 5 1 (.int .u8 0) Try.underlying38 infoB rfl A3 1 c3 _ rfl O1.out _ A8 8 c8 _ rfl R8.out ho8.out (by simp only [maxLen]; omega) (by omega) hs1 ?_
           intro A9 c9 w2 o9 b9 _ _ _
           rw [← List.map_append] at o9
           have O9 := Lib.hid o9
           have B2 := Lib.hid (B1.out.trans b9)
           have hs2 := B2.out.size
           have HR2 := Lib.hid (HRa.out.below B2.out)
           clear o9 b9)
        | (at_builtin
           refine wpList_apT rfl (.tmp 20) (.tmp 21) 38 rfl w.heap.size 5 1 (.int .u8 0) Try.underlying38 infoB rfl A9 (1 + 8) c9 _ rfl O9.out _ A n c (b.map B8) rfl HR2.out hob.out (by simp only [maxLen]; omega) (by omega) hs2 ?_
           intro A10 c10 w3 o10 b10 _ _ _
           rw [← List.map_append] at o10
           have O10 : Hid (OwnS w3 w.heap.size A10 (1 + 8 + n) c10 ((kpart b 1).map B8)) := by
             have e : kpart b 0 ++ eightL n ++ b = kpart b 1 := by show [104] ++ eightL n ++ b = 104 :: (eightL b.length ++ b); rw [hn.out]; rfl
             rw [e] at o10; exact o10
           have B3 := Lib.hid (B2.out.trans b10)
           obtain ⟨m10, hm10⟩ : ∃ m : Nat, Hid (m = 1 + 8 + n) := ⟨_, Lib.hid rfl⟩
           rw [← hm10.out] at O10 ⊢
           clear o10 b10))
      go_roundw
      case rel => exact ⟨1, m10, A10, c10, rfl, by go_num, by omega, (by have := hm10.out; omega : m10 ≤ 1000100), fun h => absurd h (by decide), O10, B3⟩
      case measure => simp only [intOf]; omega
    · have hiS : i = 1 := by omega
      subst hiS
      have hcv := conv8 wr A3 m c3 (hkeyL b) hO.out.rd
      go_wp2_with fail
      go_ret
      exact ⟨rfl, hb9.out⟩
end Go.Proofs.Ytabcbpcfleociaa

/- The name of a hash's term. (Printed by gen_suc.py.) -/
namespace Go.Proofs.Ytabcbpcfleociaa
open Go.RowKit
attribute [local go_sem ↓] Go.wp_at_zero Go.wp_at_succ
set_option linter.unusedSimpArgs false
set_option linter.unusedVariables false
theorem own104 (w : World) : (w.alloc (.cells #[.int .u8 104] 5)).ownsRow w.heap.size 5 1 (.slice (some ⟨w.heap.size, 0, none⟩) 1 1) 1 (([104] : List UInt8).map B8) :=
  ⟨rfl, .inr ⟨w.heap.size, 1, #[.int .u8 104], rfl, Nat.le_refl _, heap_alloc_new w _, Nat.le_refl _, by simp [maxLen], rfl, rfl⟩⟩
theorem own_base {w : World} {b b' : Nat} {e : TypeId} {size : Nat} {v : Value} {n : Nat} {xs : List Value} (h : w.ownsRow b e size v n xs) (hb : b' ≤ b) : w.ownsRow b' e size v n xs := by
  rcases h with ⟨h1, h2 | ⟨g, cap, cur, e1, e2, e3⟩⟩
  · exact ⟨h1, .inl h2⟩
  · exact ⟨h1, .inr ⟨g, cap, cur, e1, Nat.le_trans hb e2, e3⟩⟩
theorem own_below {w w' : World} {b : Nat} {e : TypeId} {size : Nat} {v : Value} {n : Nat} {xs : List Value} (h : w.ownsRow b e size v n xs) (hb : Below w.heap.size w w') : w'.ownsRow b e size v n xs :=
  h.kept (row := none) ⟨hb.os, hb.tape, hb.output, hb.size, fun k hk _ => hb.block k hk⟩ (by cases v.ownBlock <;> simp)
theorem below_grown {w w' : World} {row : Option Nat} {B : Nat} (h : w.grownBy w' row) (hB : ∀ r, row = some r → B ≤ r) (hs : B ≤ w.heap.size) : Below B w w' :=
  ⟨h.os, h.tape, h.output, h.size, fun k hk => h.block k (Nat.lt_of_lt_of_le hk hs) (fun e => absurd (hB k e.symm) (by omega))⟩
theorem hname_app (k : Nat) : ([104] : List UInt8).map B8 ++ (eightL k).map B8 ++ List.replicate 23 (Value.int .u8 0) = (hname k).map B8 := by
  simp [hname, B8]
set_option maxRecDepth 20000 in
set_option maxHeartbeats 2000000 in
theorem called_ (Q : Option Addr) (n c k : Nat) (w : World) (hk : k < 4611686018427387904) :
    Calls Try.prog 102 #[.agg #[.int .u8 104, .slice Q n c], .int .i64 k] w fun e w' => ∃ A c', e = .returned (.slice A 32 c') ∧ OwnS w' w.heap.size A 32 c' ((hname k).map B8) ∧ Below w.heap.size w w' := by
  obtain ⟨Y, hY⟩ : ∃ Y, Hid (Y = w.alloc (.cells #[.int .u8 104, .slice Q n c] 68)) := ⟨_, Lib.hid rfl⟩
  have hb0 : Below w.heap.size w Y := by rw [hY.out]; exact (Below.refl _ _).alloc (Nat.le_refl _) _
  have hsW : Y.heap.size = w.heap.size + 1 := by rw [hY.out]; exact szAlloc _ _
  have hrg : Y.rangeAt w.heap.size 0 [.int .u8 104, .slice Q n c] := by
    rw [hY.out]
    intro j v hj
    refine cell_blk (heap_alloc_new w _) _ ?_
    rw [Nat.zero_add, ← hj]; simp
  have HB0 := Lib.hid hb0
  have HRG := Lib.hid hrg
  have HSW := Lib.hid hsW
  obtain ⟨G, hG⟩ : ∃ g, Hid (g = w.heap.size) := ⟨_, Lib.hid rfl⟩
  have hGW : G < Y.heap.size := by rw [hG.out, hsW]; exact Nat.lt_succ_self _
  rw [← hG.out] at HRG
  clear hb0 hrg hsW
  go_enter Try.func102, Try.ntmps102
  go_wp2_with fail
  rw [← hY.out, ← hG.out]
  have hB : Hid (Below Y.heap.size Y Y) := Below.refl _ _
  obtain ⟨X, hX⟩ : ∃ W, Hid (W = Y.drew) := ⟨_, Lib.hid rfl⟩
  have dX : Below Y.heap.size Y X := by rw [hX.out]; exact below_drew (Below.refl _ _)
  have HX := Lib.hid (range_keep HRG.out dX hGW)
  have ho8 := Lib.hid (oneB (eightL k))
  refine wp_region_noPanic ?_
  refine wp_region_held_drew (S := fun w' => Below X.heap.size X w') (by kernel_rfl) (by rw [hX.out]; exact Below.refl _ _) (fun hS => ?_)
  rw [← hX.out]
  clear hS
  have hS : Below X.heap.size X X := Below.refl _ _
  refine wpAnyH_take (i := 0) (v := ?v0) rfl (by kernel_rfl) (by kernel_rfl) (by kernel_rfl) (fun _ _ _ h => h) (Or.inl ⟨by rfl, ?hy0⟩) hS ?rest0
  case hy0 => (intro w hSw; go_simp; first | done | with_reducible rfl)
  try simp only [Act.put, List.getElem_toArray, List.getElem_cons_zero, List.getElem_cons_succ, List.setIfInBounds_toArray, List.set_cons_zero, List.set_cons_succ]
  refine wpAnyH_take (i := 1) (v := .int .u8 104) rfl (by kernel_rfl) (by kernel_rfl) (by kernel_rfl) (fun _ _ _ h => h) (Or.inl ⟨by rfl, ?hy1⟩) hS ?rest1
  case hy1 => (intro w' hSw; have hc := range_keep HX.out hSw (Nat.lt_of_lt_of_le hGW dX.size) 0 _ rfl; go_simp; first | done | with_reducible rfl)
  try simp only [Act.put, List.getElem_toArray, List.getElem_cons_zero, List.getElem_cons_succ, List.setIfInBounds_toArray, List.set_cons_zero, List.set_cons_succ]
  refine wpAnyH_take (i := 3) (v := ?v3) rfl (by kernel_rfl) (by kernel_rfl) (by kernel_rfl) (fun _ _ _ h => h) (Or.inl ⟨by rfl, ?hy3⟩) hS ?rest3
  case hy3 => (intro w hSw; go_simp; first | done | with_reducible rfl)
  try simp only [Act.put, List.getElem_toArray, List.getElem_cons_zero, List.getElem_cons_succ, List.setIfInBounds_toArray, List.set_cons_zero, List.set_cons_succ]
  refine wpAnyH_ready (rs := [2, 4]) (by kernel_rfl) (by simp) ?_
  refine AllReadyH.cons rfl (fun K hK => ?_) (AllReadyH.cons rfl (fun K hK => ?_) AllReadyH.nil)
  · go_simp
    have p13 := (Below.refl X.heap.size X).alloc (Nat.le_refl _) (.cells #[.int .u8 104] 5)
    refine hK.out _ _ p13 ?_
    intro hS
    clear hK K
    try simp only [Act.put, List.getElem_toArray, List.getElem_cons_zero, List.getElem_cons_succ, List.setIfInBounds_toArray, List.set_cons_zero, List.set_cons_succ]
    have l8 := Lib.hid (own104 X)
    obtain ⟨U, hU⟩ : ∃ U, Hid (U = X.alloc (.cells #[.int .u8 104] 5)) := ⟨_, Lib.hid rfl⟩
    rw [← hU.out] at p13 l8 ⊢
    clear hS
    refine wpAnyH_ready (rs := [4]) (by kernel_rfl) (by simp) ?_
    refine AllReadyH.cons rfl (fun K hK => ?_) AllReadyH.nil
    go_simp
    refine (eight_ k U hk).mono ?_
    rintro e V ⟨A9, c9, rfl, o9, p9⟩
    have P := Lib.hid (p13.trans (p9.mono p13.size))
    have q9 := Lib.hid o9.rd
    have q8 := Lib.hid (own_below l8.out p9)
    clear o9 l8
    go_wp2_with fail
    refine hK.out _ _ P.out ?_
    intro hS
    clear hK K
    try simp only [Act.put, List.getElem_toArray, List.getElem_cons_zero, List.getElem_cons_succ, List.setIfInBounds_toArray, List.set_cons_zero, List.set_cons_succ]
    refine wpAnyH_ready (rs := [5]) (by kernel_rfl) (by simp) ?_
    refine AllReadyH.cons rfl (fun K hK => ?_) AllReadyH.nil
    refine step_app (.tmp 8) (.tmp 10) 38 rfl rfl X.heap.size 5 1 1 (.int .u8 0) Try.underlying38 infoB rfl (by decide) _ 1 _ rfl q8.out _ A9 8 c9 _ rfl q9.out ho8.out (by simp [maxLen]) (by decide) P.out.size ?_
    intro A' c' u' o' g' _
    have P' := Lib.hid (P.out.trans (below_grown g' (own_block_ge q8.out) P.out.size))
    refine hK.out _ _ P'.out ?_
    intro hS
    clear hK K
    try simp only [Act.put, List.getElem_toArray, List.getElem_cons_zero, List.getElem_cons_succ, List.setIfInBounds_toArray, List.set_cons_zero, List.set_cons_succ]
    refine wpAnyH_take (i := 6) (v := ?va6) rfl (by kernel_rfl) (by kernel_rfl) (by kernel_rfl) (fun _ _ _ h => h) (Or.inl ⟨by rfl, ?hya6⟩) hS ?resta6
    case hya6 => (intro w hSw; go_simp; first | done | with_reducible rfl)
    try simp only [Act.put, List.getElem_toArray, List.getElem_cons_zero, List.getElem_cons_succ, List.setIfInBounds_toArray, List.set_cons_zero, List.set_cons_succ]
    refine wpAnyH_done (by kernel_rfl) (NoPanic.normal ?_) _
    have O := Lib.hid (own_base o' dX.size)
    have HU := Lib.hid (range_keep HX.out P'.out (Nat.lt_of_lt_of_le hGW dX.size))
    have hc0 := HU.out 0 _ rfl
    have hc1 := HU.out 1 _ rfl
    have PW := Lib.hid (dX.trans (P'.out.mono dX.size))
    clear o' g' hS
    go_wp2_with fail
    refine (size_ Q n c u').mono ?_
    rintro e u2 ⟨rfl, b2⟩
    clear hc0 hc1
    have O2 := Lib.hid (own_below O.out b2)
    have PW2 := Lib.hid (PW.out.trans (b2.mono PW.out.size))
    go_wp2_with (at_builtin
                 refine wpList_app_zeros rfl (.tmp 12) (.tmp 15) 38 3 rfl Y.heap.size 5 Try.underlying38 Try.underlying3 9 Try.underlying9 infoB A' (1 + 8) c' _ rfl O2.out 23 rfl (by simp [maxLen]) (by decide) PW2.out.size ?_
                 intro A3 c3 u3 o3 g3
                 have B3 := Lib.hid (PW2.out.trans (below_grown g3 (own_block_ge O2.out) PW2.out.size))
                 rw [hname_app] at o3
                 have O3 := Lib.hid (OwnS.of_own o3)
                 clear o3 g3)
    go_ret
    exact ⟨A3, c3, rfl, O3.out.mono (Nat.le_of_lt (hG.out ▸ hGW)), HB0.out.trans (B3.out.mono HB0.out.size)⟩
  · go_simp
    refine (eight_ k X hk).mono ?_
    rintro e U ⟨A9, c9, rfl, o9, p9⟩
    go_wp2_with fail
    refine hK.out _ _ p9 ?_
    intro hS
    clear hK K
    try simp only [Act.put, List.getElem_toArray, List.getElem_cons_zero, List.getElem_cons_succ, List.setIfInBounds_toArray, List.set_cons_zero, List.set_cons_succ]
    refine wpAnyH_ready (rs := [2]) (by kernel_rfl) (by simp) ?_
    refine AllReadyH.cons rfl (fun K hK => ?_) AllReadyH.nil
    go_simp
    have P := Lib.hid (p9.trans ((Below.refl X.heap.size U).alloc p9.size (.cells #[.int .u8 104] 5)))
    refine hK.out _ _ P.out ?_
    intro hS
    clear hK K
    try simp only [Act.put, List.getElem_toArray, List.getElem_cons_zero, List.getElem_cons_succ, List.setIfInBounds_toArray, List.set_cons_zero, List.set_cons_succ]
    have q8 := Lib.hid (own_base (own104 U) p9.size)
    have q9 := Lib.hid (o9.rd.at0 ((Below.refl U.heap.size U).alloc (Nat.le_refl _) (.cells #[.int .u8 104] 5)) (by rw [szAlloc]; omega))
    obtain ⟨V, hV⟩ : ∃ V, Hid (V = U.alloc (.cells #[.int .u8 104] 5)) := ⟨_, Lib.hid rfl⟩
    rw [← hV.out] at P q8 q9 ⊢
    clear o9
    refine wpAnyH_ready (rs := [5]) (by kernel_rfl) (by simp) ?_
    refine AllReadyH.cons rfl (fun K hK => ?_) AllReadyH.nil
    refine step_app (.tmp 8) (.tmp 10) 38 rfl rfl X.heap.size 5 1 1 (.int .u8 0) Try.underlying38 infoB rfl (by decide) _ 1 _ rfl q8.out _ A9 8 c9 _ rfl q9.out ho8.out (by simp [maxLen]) (by decide) P.out.size ?_
    intro A' c' u' o' g' _
    have P' := Lib.hid (P.out.trans (below_grown g' (own_block_ge q8.out) P.out.size))
    refine hK.out _ _ P'.out ?_
    intro hS
    clear hK K
    try simp only [Act.put, List.getElem_toArray, List.getElem_cons_zero, List.getElem_cons_succ, List.setIfInBounds_toArray, List.set_cons_zero, List.set_cons_succ]
    refine wpAnyH_take (i := 6) (v := ?vb6) rfl (by kernel_rfl) (by kernel_rfl) (by kernel_rfl) (fun _ _ _ h => h) (Or.inl ⟨by rfl, ?hyb6⟩) hS ?restb6
    case hyb6 => (intro w hSw; go_simp; first | done | with_reducible rfl)
    try simp only [Act.put, List.getElem_toArray, List.getElem_cons_zero, List.getElem_cons_succ, List.setIfInBounds_toArray, List.set_cons_zero, List.set_cons_succ]
    refine wpAnyH_done (by kernel_rfl) (NoPanic.normal ?_) _
    have O := Lib.hid (own_base o' dX.size)
    have HU := Lib.hid (range_keep HX.out P'.out (Nat.lt_of_lt_of_le hGW dX.size))
    have hc0 := HU.out 0 _ rfl
    have hc1 := HU.out 1 _ rfl
    have PW := Lib.hid (dX.trans (P'.out.mono dX.size))
    clear o' g' hS
    go_wp2_with fail
    refine (size_ Q n c u').mono ?_
    rintro e u2 ⟨rfl, b2⟩
    clear hc0 hc1
    have O2 := Lib.hid (own_below O.out b2)
    have PW2 := Lib.hid (PW.out.trans (b2.mono PW.out.size))
    go_wp2_with (at_builtin
                 refine wpList_app_zeros rfl (.tmp 12) (.tmp 15) 38 3 rfl Y.heap.size 5 Try.underlying38 Try.underlying3 9 Try.underlying9 infoB A' (1 + 8) c' _ rfl O2.out 23 rfl (by simp [maxLen]) (by decide) PW2.out.size ?_
                 intro A3 c3 u3 o3 g3
                 have B3 := Lib.hid (PW2.out.trans (below_grown g3 (own_block_ge O2.out) PW2.out.size))
                 rw [hname_app] at o3
                 have O3 := Lib.hid (OwnS.of_own o3)
                 clear o3 g3)
    go_ret
    exact ⟨A3, c3, rfl, O3.out.mono (Nat.le_of_lt (hG.out ▸ hGW)), HB0.out.trans (B3.out.mono HB0.out.size)⟩
end Go.Proofs.Ytabcbpcfleociaa

/- The ideal suite in memory: its terms, the map of their numbers. -/
namespace Go.Proofs.Ytabcbpcfleociaa
open Go.RowKit Go.Maps
set_option linter.unusedSimpArgs false
set_option linter.unusedVariables false
theorem zeroI (w : World) : (zeroValue 3).run Try.prog w = .ok (.int .i64 0) w := by kernel_rfl
theorem keyS (l : List UInt8) (hl : l.length ≤ maxLen) : keyOf Try.prog 9 (.string (str l)) = some (.string l) := by
  have e : (str l).size = l.length := by simp [str, ByteArray.size]
  simp only [keyOf, mapKey, Try.underlying9]
  rw [if_pos (by rw [e]; exact hl)]
  rfl
/-- A slice of one text: h. -/
def PartAt (no : List Nat) (w : World) (Q : Option Addr) (h : List UInt8) : Prop :=
  ∃ qb qo A c, Q = some ⟨qb, qo, none⟩ ∧ qb ∉ no ∧ w.cell? ⟨qb, qo, none⟩ = some (.slice A h.length c) ∧ RdN no w 1 A h.length (h.map B8) ∧ h.length ≤ c
theorem PartAt.rdl {no : List Nat} {w : World} {Q : Option Addr} {h : List UInt8} (p : PartAt no w Q h) : RdL w w.heap.size Q 1 [h] := by
  obtain ⟨qb, qo, A, c, rfl, _, hc, hr, hl⟩ := p
  refine ⟨rfl, fun i l hi => ?_⟩
  rcases i with _ | i
  · simp at hi
    subst hi
    exact ⟨qb, qo, A, c, rfl, World.block_lt_of_cell? _ _ hc, hc, hr.1, hl⟩
  · simp at hi
theorem PartAt.go {no own own' : List Nat} {w w' : World} {Q : Option Addr} {h : List UInt8} (p : PartAt no w Q h) (hf : Fr own w w' own') (hs : ∀ k, k ∈ own → k ∈ no) : PartAt no w' Q h := by
  obtain ⟨qb, qo, A, c, rfl, hn, hc, hr, hl⟩ := p
  exact ⟨qb, qo, A, c, rfl, hn, (World.cell?_of_block (a := ⟨qb, qo, none⟩) (hf.block qb (World.block_lt_of_cell? _ _ hc) (fun hm => hn (hs qb hm)))).trans hc, hr.go hf hs, hl⟩
theorem PartAt.less {no no' : List Nat} {w : World} {Q : Option Addr} {h : List UInt8} (p : PartAt no w Q h) (s : ∀ k, k ∈ no' → k ∈ no ∨ w.heap.size ≤ k) : PartAt no' w Q h := by
  obtain ⟨qb, qo, A, c, rfl, hn, hc, hr, hl⟩ := p
  refine ⟨qb, qo, A, c, rfl, fun hm => ?_, hc, hr.less s, hl⟩
  have := World.block_lt_of_cell? _ _ hc
  rcases s qb hm with h1 | h1
  · exact hn h1
  · exact absurd h1 (by show ¬ w.heap.size ≤ qb; exact Nat.not_le.2 this)
def termCells (Qs : List (Option Addr × Nat)) : List Value := Qs.flatMap fun q => [.int .u8 104, .slice q.1 1 q.2]
theorem termCells_app (Qs : List (Option Addr × Nat)) (q : Option Addr × Nat) : termCells (Qs ++ [q]) = termCells Qs ++ [.int .u8 104, .slice q.1 1 q.2] := by simp [termCells]
/-- The number of a text's term, or nought. -/
def numb (hs : List (List UInt8)) (l : List UInt8) : Nat := if l ∈ hs then hs.idxOf l + 1 else 0
/-- The terms behind a hash. -/
def note (hs : List (List UInt8)) (l : List UInt8) : List (List UInt8) := if l ∈ hs then hs else hs ++ [l]
/-- The ideal suite at block g: the texts hashed so far, in order. -/
structure IdealV (w : World) (g : Nat) (hs : List (List UInt8)) (own R : List Nat) (A : Option Addr) (c b : Nat) (Qs : List (Option Addr × Nat)) (f : Lit → Value) : Prop where
  blk : w.heap[g]? = some (.cells #[.slice A hs.length c, .map (some b), .int .i64 0] 120 (0, 0))
  map : MapV Try.prog 9 w b hs.length (.int .i64 0) f
  at_ : ∀ l, f (.string (hkeyL l)) = .int .i64 (numb hs l : Nat)
  row : w.ownsRow 0 68 2 (.slice A hs.length c) hs.length (termCells Qs)
  qs : Qs.length = hs.length
  parts : ∀ (i : Nat) (q : Option Addr × Nat) (h : List UInt8), Qs[i]? = some q → hs[i]? = some h → PartAt (own ++ R) w q.1 h
  og : g ∈ own
  ob : b ∈ own
  oA : ∀ t, (Value.slice A hs.length c).ownBlock = some t → t ∈ own
  lt : ∀ k, k ∈ own → k < w.heap.size
def IdealAt (w : World) (g : Nat) (hs : List (List UInt8)) (own R : List Nat) : Prop := ∃ A c b Qs f, IdealV w g hs own R A c b Qs f
/-- Others' changes leave it. -/
theorem IdealV.keep {w w' : World} {g : Nat} {hs : List (List UInt8)} {own R own2 own2' R' : List Nat} {A : Option Addr} {c b : Nat} {Qs : List (Option Addr × Nat)} {f : Lit → Value} (h : IdealV w g hs own R A c b Qs f)
    (hf : Fr own2 w w' own2') (h1 : ∀ k, k ∈ own2 → k ∈ R) (h2 : ∀ k, k ∈ own2 → k ∉ own) (h3 : ∀ k, k ∈ R' → k ∈ R ∨ w.heap.size ≤ k) : IdealV w' g hs own R' A c b Qs f := by
  have hk : ∀ k, k ∈ own → w'.heap[k]? = w.heap[k]? := fun k hm => hf.block k (h.lt k hm) (fun hm2 => h2 k hm2 hm)
  refine ⟨(hk g h.og).trans h.blk, h.map.same (hk b h.ob), h.at_, ?_, h.qs, fun i q l hq hl => ?_, h.og, h.ob, h.oA, fun k hm => Nat.lt_of_lt_of_le (h.lt k hm) hf.size⟩
  · rcases h.row with ⟨e1, e2 | ⟨t, cap, cur, e2, e3, e4, e5⟩⟩
    · exact ⟨e1, .inl e2⟩
    · refine ⟨e1, .inr ⟨t, cap, cur, e2, e3, (hk t (h.oA t ?_)).trans e4, e5⟩⟩
      rw [e2]; rfl
  · refine ((h.parts i q l hq hl).less (no' := own ++ R ++ R') fun k hm => ?_).go hf (fun k hm => ?_) |>.less fun k hm => Or.inl ?_
    · rcases List.mem_append.1 hm with h4 | h4
      · exact Or.inl h4
      · exact (h3 k h4).imp (fun h5 => List.mem_append.2 (Or.inr h5)) id
    · exact List.mem_append.2 (Or.inl (List.mem_append.2 (Or.inr (h1 k hm))))
    · rcases List.mem_append.1 hm with h4 | h4
      · exact List.mem_append.2 (Or.inl (List.mem_append.2 (Or.inl h4)))
      · exact List.mem_append.2 (Or.inr h4)
theorem IdealAt.keep {w w' : World} {g : Nat} {hs : List (List UInt8)} {own R own2 own2' R' : List Nat} (h : IdealAt w g hs own R)
    (hf : Fr own2 w w' own2') (h1 : ∀ k, k ∈ own2 → k ∈ R) (h2 : ∀ k, k ∈ own2 → k ∉ own) (h3 : ∀ k, k ∈ R' → k ∈ R ∨ w.heap.size ≤ k) : IdealAt w' g hs own R' := by
  obtain ⟨A, c, b, Qs, f, hv⟩ := h
  exact ⟨A, c, b, Qs, f, hv.keep hf h1 h2 h3⟩
theorem IdealV.below {w w' : World} {g : Nat} {hs : List (List UInt8)} {own R : List Nat} {A : Option Addr} {c b : Nat} {Qs : List (Option Addr × Nat)} {f : Lit → Value} (h : IdealV w g hs own R A c b Qs f) (hb : Below w.heap.size w w') : IdealV w' g hs own R A c b Qs f :=
  h.keep (own2 := []) (own2' := []) ⟨hb.os, hb.tape, hb.output, hb.size, fun k hk _ => hb.block k hk, fun _ h => absurd h (by simp)⟩ (fun _ h => absurd h (by simp)) (fun _ h => absurd h (by simp)) (fun _ h => Or.inl h)
theorem IdealAt.below {w w' : World} {g : Nat} {hs : List (List UInt8)} {own R : List Nat} (h : IdealAt w g hs own R) (hb : Below w.heap.size w w') : IdealAt w' g hs own R := by
  obtain ⟨A, c, b, Qs, f, hv⟩ := h
  exact ⟨A, c, b, Qs, f, hv.below hb⟩
theorem idxOf_note (hs : List (List UInt8)) (l : List UInt8) : numb (note hs l) l = hs.idxOf l + 1 := by
  unfold note
  split
  · rename_i h; rw [numb, if_pos h]
  · rename_i h; rw [numb, if_pos (by simp), List.idxOf_append, if_neg h, List.idxOf_eq_length h]; simp
theorem numb_note (hs : List (List UInt8)) (l l' : List UInt8) (hl : l ∉ hs) (hne : l' ≠ l) : numb (hs ++ [l]) l' = numb hs l' := by
  unfold numb
  by_cases h : l' ∈ hs
  · rw [if_pos h, if_pos (by simp [h]), List.idxOf_append, if_pos h]
  · rw [if_neg h, if_neg (by simp [h, hne])]
end Go.Proofs.Ytabcbpcfleociaa

/- The number of a hash's term. (Printed by gen_sue.py.) -/
namespace Go.Proofs.Ytabcbpcfleociaa
open Go.RowKit Go.Maps
attribute [local go_sem ↓] Go.wp_at_zero Go.wp_at_succ
set_option linter.unusedSimpArgs false
set_option linter.unusedVariables false
theorem one_any (w : World) (v : Value) (T : TypeId) : Rd (w.alloc (.cells #[v] T)) (w.alloc (.cells #[v] T)).heap.size 1 (some ⟨w.heap.size, 0, none⟩) 1 [v] := by
  refine ⟨rfl, fun _ => ⟨w.heap.size, 0, rfl, by simp, fun j u hu => cell_blk (heap_alloc_new w _) _ ?_⟩⟩
  rw [Nat.zero_add, ← hu]
  rcases j with _ | j <;> rfl
theorem two_any (w : World) (v v' : Value) (T : TypeId) : Rd (w.alloc (.cells #[v, v'] T)) (w.alloc (.cells #[v, v'] T)).heap.size 2 (some ⟨w.heap.size, 0, none⟩) 1 [v, v'] := by
  refine ⟨rfl, fun _ => ⟨w.heap.size, 0, rfl, by simp, fun j u hu => cell_blk (heap_alloc_new w _) _ ?_⟩⟩
  rw [Nat.zero_add, ← hu]
  simp
theorem OwnS.rdN {w : World} {base n c : Nat} {A : Option Addr} {xs : List Value} (h : OwnS w base A n c xs) : RdN (List.range base) w 1 A n xs := by
  refine ⟨h.rd, fun b o h0 e hm => ?_⟩
  obtain ⟨g, o', e', hb, _⟩ := h.mem (Nat.lt_of_lt_of_le h0 h.le)
  rw [e] at e'
  injection e' with e'
  injection e' with e1
  have := List.mem_range.1 hm
  omega
theorem part_of {w : World} {base n c1 c2 : Nat} {A1 A2 : Option Addr} {h : List UInt8} (o1 : OwnS w base A1 1 c1 [.slice A2 n c2]) (o2 : OwnS w base A2 n c2 (h.map B8)) (hn : h.length = n) : PartAt (List.range base) w A1 h := by
  subst hn
  obtain ⟨g, o, e, hb, hc, _⟩ := o1.mem (Nat.lt_of_lt_of_le Nat.zero_lt_one o1.le)
  refine ⟨g, o, A2, c2, e, fun hm => ?_, hc 0 _ rfl, o2.rdN, o2.le⟩
  have := List.mem_range.1 hm
  omega
theorem grown_set (w : World) (g j : Nat) (v : Value) : w.grownBy (w.setCell ⟨g, j, none⟩ v) (some g) :=
  ⟨World.os_setCells w g j [v], (heap_of_setCells w g j [v]).1, World.output_setCells w g j [v], Nat.le_of_eq (heap_of_setCells w g j [v]).2.symm, fun k hk hne => World.heap_setCells_other w g j [v] hk (fun e => hne (by rw [e]))⟩
theorem map_ne_cells {P : Program} {k : TypeId} {w : World} {b n : Nat} {z : Value} {f : Lit → Value} (h : MapV P k w b n z f) {cs : Array Value} {T : TypeId} {fr : Nat × Nat} (e : w.heap[b]? = some (.cells cs T fr)) : False := by
  obtain ⟨D, ⟨es, clock, hb, _⟩, _⟩ := h
  rw [e] at hb
  cases hb
/-- What the new term's row is, behind the append. -/
theorem new_row {V u' : World} {g : Nat} {hs : List (List UInt8)} {own R : List Nat} {A : Option Addr} {c b : Nat} {Qs : List (Option Addr × Nat)} {f : Lit → Value} (I : IdealV V g hs own R A c b Qs f)
    {A' : Option Addr} {c' : Nat} {xs : List Value} (o' : u'.ownsRow 0 68 2 (.slice A' (hs.length + 1) c') (hs.length + 1) xs) (g' : V.grownBy u' (Value.slice A hs.length c).ownBlock)
    (hor : (Value.slice A' (hs.length + 1) c').ownBlock = (Value.slice A hs.length c).ownBlock ∨ (Value.slice A' (hs.length + 1) c').ownBlock = some V.heap.size) :
    ∃ t, A' = some ⟨t, 0, none⟩ ∧ MapV Try.prog 9 u' b hs.length (.int .i64 0) f ∧ u'.heap[g]? = some (.cells #[.slice A hs.length c, .map (some b), .int .i64 0] 120 (0, 0)) ∧ (t ∈ own ∨ t = V.heap.size) ∧ t < u'.heap.size ∧ t ≠ g ∧ t ≠ b := by
  rcases o'.2 with ⟨e, h0⟩ | ⟨t, cap, cur, e, _, hb, _⟩
  · omega
  injection e with e1 e2 e3
  subst e1
  have hrow : ∀ s, (Value.slice A hs.length c).ownBlock = some s → s ≠ g ∧ s ≠ b := by
    intro s hs'
    rcases I.row.2 with ⟨e, _⟩ | ⟨s', _, cur', e, _, hb', _⟩
    · rw [e] at hs'; cases hs'
    · rw [e] at hs'
      injection hs' with hs'
      subst hs'
      refine ⟨fun e2 => ?_, fun e2 => ?_⟩
      · have e2 : s' = g := e2; rw [e2, I.blk] at hb'; injection hb' with hb'; injection hb' with _ hb'; revert hb'; decide
      · have e2 : s' = b := e2; rw [e2] at hb'; exact map_ne_cells I.map hb'
  have hg : u'.heap[g]? = some (.cells #[.slice A hs.length c, .map (some b), .int .i64 0] 120 (0, 0)) := (g'.block g (I.lt g I.og) (fun e => (hrow g e.symm).1 rfl)).trans I.blk
  have hm : MapV Try.prog 9 u' b hs.length (.int .i64 0) f := I.map.same (g'.block b (I.lt b I.ob) (fun e => (hrow b e.symm).2 rfl))
  refine ⟨t, rfl, hm, hg, ?_, (Array.getElem?_eq_some_iff.1 hb).1, fun e2 => ?_, fun e2 => ?_⟩
  · rcases hor with h1 | h1
    · exact Or.inl (I.oA t h1.symm)
    · right; injection h1
  · rw [e2, hg] at hb; injection hb with hb; injection hb with _ hb; revert hb; decide
  · rw [e2] at hb; exact map_ne_cells hm hb
theorem new_done {w V u' Z w9 : World} {B g : Nat} {hs : List (List UInt8)} {own R : List Nat} {A : Option Addr} {c b : Nat} {Qs : List (Option Addr × Nat)} {f : Lit → Value} {P : Option Addr} {pc c' t : Nat} {h : List UInt8} (hm : h ∉ hs)
    (hO : ∀ k, k ∈ own → k < w.heap.size) (hR : ∀ k, k ∈ R → k < w.heap.size) (hb : Below w.heap.size w V) (I : IdealV V g hs own R A c b Qs f) (p : PartAt (List.range B) V P h) (hB : w.heap.size ≤ B) 
    (o' : u'.ownsRow 0 68 2 (.slice (some ⟨t, 0, none⟩) (hs.length + 1) c') (hs.length + 1) (termCells Qs ++ [.int .u8 104, .slice P 1 pc])) (g' : V.grownBy u' (Value.slice A hs.length c).ownBlock)
    (eu : u'.heap[g]? = some (.cells #[.slice A hs.length c, .map (some b), .int .i64 0] 120 (0, 0))) (ht : t ∈ own ∨ t = V.heap.size) (gZ : u'.grownBy Z (some g))
    (eZ : Z.heap[g]? = some (.cells #[.slice (some ⟨t, 0, none⟩) (hs.length + 1) c', .map (some b), .int .i64 0] 120 (0, 0))) (mu : MapV Try.prog 9 u' b hs.length (.int .i64 0) f)
    (m9 : MapV Try.prog 9 w9 b (hs.length + 1) (.int .i64 0) (updV f (.string (hkeyL h)) (.int .i64 ((hs.length + 1 : Nat) : Int)))) (g9 : Z.grownBy w9 (some b)) (tn : t < u'.heap.size ∧ t ≠ g ∧ t ≠ b) :
    ∃ own', IdealAt w9 g (hs ++ [h]) own' R ∧ Fr own w w9 own' := by
  have F1 : Fr own w V own := Fr.below hb
  have F2 : Fr own V u' (own ++ [t]) := Fr.grown g' (fun r e => Or.inl (I.oA r e)) (fun k hk => by
    rcases List.mem_append.1 hk with h1 | h1
    · exact Or.inl h1
    · rcases List.mem_singleton.1 h1 with rfl
      exact ht.imp id (fun e => Nat.le_of_eq e.symm))
  have F3 : Fr (own ++ [t]) u' Z (own ++ [t]) := Fr.grown gZ (fun r e => by injection e with e; subst e; exact Or.inl (List.mem_append.2 (Or.inl I.og))) (fun _ h => Or.inl h)
  have F4 : Fr (own ++ [t]) Z w9 (own ++ [t]) := Fr.grown g9 (fun r e => by injection e with e; subst e; exact Or.inl (List.mem_append.2 (Or.inl I.ob))) (fun _ h => Or.inl h)
  have FV := F2.trans (F3.trans F4)
  have hgb : g ≠ b := fun e => by subst e; exact map_ne_cells mu eu
  have hlt : ∀ k, k ∈ own ++ [t] → k < w9.heap.size := fun k hk => by
    refine Nat.lt_of_lt_of_le ?_ (Nat.le_trans gZ.size g9.size)
    rcases List.mem_append.1 hk with h1 | h1
    · exact Nat.lt_of_lt_of_le (I.lt k h1) g'.size
    · rcases List.mem_singleton.1 h1 with rfl; exact tn.1
  refine ⟨own ++ [t], ⟨some ⟨t, 0, none⟩, c', b, Qs ++ [(P, pc)], updV f (.string (hkeyL h)) (.int .i64 ((hs.length + 1 : Nat) : Int)), ?_⟩, F1.trans FV⟩
  have hl : (hs ++ [h]).length = hs.length + 1 := by simp
  refine ⟨?_, by rw [hl]; exact m9, fun l => ?_, ?_, by simp [I.qs], fun i q l hq hl' => ?_, List.mem_append.2 (Or.inl I.og), List.mem_append.2 (Or.inl I.ob), fun s hs' => ?_, hlt⟩
  · rw [hl]; exact (g9.block g (Nat.lt_of_lt_of_le (Nat.lt_of_lt_of_le (I.lt g I.og) g'.size) gZ.size) (fun e => hgb (by injection e))).trans eZ
  · by_cases e : l = h
    · subst e
      rw [updV_same]
      have := idxOf_note hs l
      rw [note, if_neg hm, List.idxOf_eq_length hm] at this
      rw [this]
    · rw [updV_other _ _ (fun e2 => e (hkeyL_inj (by injection e2))), I.at_ l, numb_note hs h l hm e]
  · rw [hl, termCells_app]
    refine (o'.kept gZ ?_).kept g9 ?_
    · refine Or.inr ?_; intro e; injection e with e; exact tn.2.1 e
    · refine Or.inr ?_; intro e; injection e with e; exact tn.2.2 e
  · by_cases hi : i < hs.length
    · rw [List.getElem?_append_left (by rw [I.qs]; exact hi)] at hq
      rw [List.getElem?_append_left hi] at hl'
      refine (((I.parts i q l hq hl').less (no' := own ++ R ++ [t]) fun k hk => ?_).go FV fun k hk => ?_).less fun k hk => Or.inl ?_
      · rcases List.mem_append.1 hk with h1 | h1
        · exact Or.inl h1
        · rcases List.mem_singleton.1 h1 with rfl
          exact ht.imp (fun h2 => List.mem_append.2 (Or.inl h2)) (fun e => Nat.le_of_eq e.symm)
      · exact List.mem_append.2 (Or.inl (List.mem_append.2 (Or.inl hk)))
      · rcases List.mem_append.1 hk with h1 | h1
        · rcases List.mem_append.1 h1 with h2 | h2
          · exact List.mem_append.2 (Or.inl (List.mem_append.2 (Or.inl h2)))
          · exact List.mem_append.2 (Or.inr h2)
        · exact List.mem_append.2 (Or.inl (List.mem_append.2 (Or.inr h1)))
    · rw [List.getElem?_append_right (by rw [I.qs]; omega), I.qs] at hq
      rw [List.getElem?_append_right (by omega)] at hl'
      obtain ⟨e0, rfl⟩ : i - hs.length = 0 ∧ l = h := by
        cases hx : i - hs.length with
        | zero => rw [hx] at hl'; simp at hl'; exact ⟨rfl, hl'.symm⟩
        | succ j => rw [hx] at hl'; simp at hl'
      rw [e0] at hq
      simp at hq
      subst hq
      refine ((p.less (no' := List.range B ++ [t] ++ R) fun k hk => ?_).go FV fun k hk => ?_).less fun k hk => Or.inl ?_
      · rcases List.mem_append.1 hk with h1 | h1
        · rcases List.mem_append.1 h1 with h2 | h2
          · exact Or.inl h2
          · rcases List.mem_singleton.1 h2 with rfl
            rcases ht with h3 | h3
            · exact Or.inl (List.mem_range.2 (Nat.lt_of_lt_of_le (hO k h3) hB))
            · exact Or.inr (Nat.le_of_eq h3.symm)
        · exact Or.inl (List.mem_range.2 (Nat.lt_of_lt_of_le (hR k h1) hB))
      · exact List.mem_append.2 (Or.inl (List.mem_append.2 (Or.inl (List.mem_range.2 (Nat.lt_of_lt_of_le (hO k hk) hB)))))
      · rcases List.mem_append.1 hk with h1 | h1
        · rcases List.mem_append.1 h1 with h2 | h2
          · exact List.mem_append.2 (Or.inl (List.mem_append.2 (Or.inl (List.mem_range.2 (Nat.lt_of_lt_of_le (hO k h2) hB)))))
          · exact List.mem_append.2 (Or.inl (List.mem_append.2 (Or.inr h2)))
        · exact List.mem_append.2 (Or.inr h1)
  · injection hs' with hs'
    subst hs'
    exact List.mem_append.2 (Or.inr (List.mem_singleton.2 rfl))
set_option maxRecDepth 20000 in
set_option maxHeartbeats 1000000 in
theorem number_hit (g : Nat) (hs : List (List UInt8)) (own R : List Nat) (A : Option Addr) (c b : Nat) (Qs : List (Option Addr × Nat)) (f : Lit → Value) (Q : Option Addr) (qc : Nat) (h : List UInt8) (w : World) (hI : IdealV w g hs own R A c b Qs f) (hp : RdL w w.heap.size Q 1 [h]) (hh : h.length ≤ 1000000) (hm : h ∈ hs) :
    Calls Try.prog 65 #[.pointer (some ⟨g, 0, none⟩), .agg #[.int .u8 104, .slice Q 1 qc]] w fun e w' => e = .returned (.int .i64 ((hs.idxOf h + 1 : Nat) : Int)) ∧ Below w.heap.size w w' := by
  obtain ⟨Y, hY⟩ : ∃ Y, Hid (Y = w.alloc (.cells #[.int .u8 104, .slice Q 1 qc] 68)) := ⟨_, Lib.hid rfl⟩
  have HB0 : Hid (Below w.heap.size w Y) := by rw [hY.out]; exact (Below.refl _ _).alloc (Nat.le_refl _) _
  have hsY : Y.heap.size = w.heap.size + 1 := by rw [hY.out]; exact szAlloc _ _
  obtain ⟨G, hG⟩ : ∃ g, Hid (g = w.heap.size) := ⟨_, Lib.hid rfl⟩
  have HRG : Hid (Y.rangeAt G 0 [.int .u8 104, .slice Q 1 qc]) := by
    rw [hY.out, hG.out]
    intro j v hj
    refine cell_blk (heap_alloc_new w _) _ ?_
    rw [Nat.zero_add, ← hj]; simp
  have hGY : Hid (G < Y.heap.size) := by unfold Hid; rw [hG.out, hsY]; exact Nat.lt_succ_self _
  have hpY : RdL Y Y.heap.size Q 1 [h] := by
    refine ⟨hp.1, fun i l hl => ?_⟩
    obtain ⟨b, o, Ai, ci, e, hb, hc, hr, hci⟩ := (hp.to HB0.out).2 i l hl
    exact ⟨b, o, Ai, ci, e, by omega, hc, hr.more (by omega), hci⟩
  have IY := Lib.hid (hI.below HB0.out)
  have HP := Lib.hid hpY
  clear hpY hsY hI hp
  have hc0 := HRG.out 0 _ rfl
  have hc1 := HRG.out 1 _ rfl
  go_enter Try.func65, Try.ntmps65
  go_wp2_with fail
  rw [← hY.out, ← hG.out]
  go_wp2_with fail
  refine (key_ Q qc h Y HP.out hh).mono ?_
  rintro e w1 ⟨rfl, hb1⟩
  have I1 := Lib.hid (IY.out.below hb1)
  have HB1 := Lib.hid (HB0.out.trans (hb1.mono HB0.out.size))
  have RG1 := Lib.hid (range_keep HRG.out hb1 hGY.out)
  have hg1 : w1.cell? ⟨g, 1, none⟩ = some (.map (some b)) := cell_blk I1.out.blk 1 rfl
  have hkl : (hkeyL h).length ≤ maxLen := by simp only [hkeyL, List.length_cons, List.length_append, eightL_len, maxLen]; omega
  have HKL := Lib.hid hkl
  obtain ⟨d, hd⟩ : ∃ d : Nat, Hid (numb hs h = d) := ⟨_, Lib.hid rfl⟩
  have HAT : Hid (f (.string (hkeyL h)) = .int .i64 (d : Nat)) := by unfold Hid; rw [I1.out.at_ h, hd.out]
  clear hc0 hc1 hkl
  have hd0 : ¬ ((d : Nat) : Int) = 0 := by have := hd.out; rw [numb, if_pos hm] at this; omega
  have hdd := Lib.hid (show hs.idxOf h + 1 = d by have := hd.out; rw [numb, if_pos hm] at this; exact this)
  go_wp2_with (at_lookup
               refine wpList_lookV rfl _ _ 116 rfl 9 3 (string_keyed Try.underlying9) Try.underlying116 (.int .i64 0) (zeroI _) b hs.length f rfl I1.out.map _ (.string (hkeyL h)) rfl (keyS _ HKL.out) ?_
               rw [HAT.out])
  go_ret
  exact ⟨by rw [hdd.out]; rfl, HB1.out⟩
set_option maxRecDepth 20000 in
set_option maxHeartbeats 4000000 in
theorem number_new (g : Nat) (hs : List (List UInt8)) (own R : List Nat) (A : Option Addr) (c b : Nat) (Qs : List (Option Addr × Nat)) (f : Lit → Value) (Q : Option Addr) (qc : Nat) (h : List UInt8) (w : World) (hI : IdealV w g hs own R A c b Qs f) (hp : RdL w w.heap.size Q 1 [h]) (hh : h.length ≤ 1000000) (hm : h ∉ hs)
    (hn : hs.length ≤ 1000000) (hR : ∀ k, k ∈ R → k < w.heap.size) :
    Calls Try.prog 65 #[.pointer (some ⟨g, 0, none⟩), .agg #[.int .u8 104, .slice Q 1 qc]] w fun e w' => ∃ own', e = .returned (.int .i64 ((hs.length + 1 : Nat) : Int)) ∧ IdealAt w' g (hs ++ [h]) own' R ∧ Fr own w w' own' := by
  have HRl := Lib.hid hR
  have hI0 := Lib.hid hI.lt
  clear hR
  obtain ⟨Y, hY⟩ : ∃ Y, Hid (Y = w.alloc (.cells #[.int .u8 104, .slice Q 1 qc] 68)) := ⟨_, Lib.hid rfl⟩
  have HB0 : Hid (Below w.heap.size w Y) := by rw [hY.out]; exact (Below.refl _ _).alloc (Nat.le_refl _) _
  have hsY : Y.heap.size = w.heap.size + 1 := by rw [hY.out]; exact szAlloc _ _
  obtain ⟨G, hG⟩ : ∃ g, Hid (g = w.heap.size) := ⟨_, Lib.hid rfl⟩
  have HRG : Hid (Y.rangeAt G 0 [.int .u8 104, .slice Q 1 qc]) := by
    rw [hY.out, hG.out]
    intro j v hj
    refine cell_blk (heap_alloc_new w _) _ ?_
    rw [Nat.zero_add, ← hj]; simp
  have hGY : Hid (G < Y.heap.size) := by unfold Hid; rw [hG.out, hsY]; exact Nat.lt_succ_self _
  have hpY : RdL Y Y.heap.size Q 1 [h] := by
    refine ⟨hp.1, fun i l hl => ?_⟩
    obtain ⟨b, o, Ai, ci, e, hb, hc, hr, hci⟩ := (hp.to HB0.out).2 i l hl
    exact ⟨b, o, Ai, ci, e, by omega, hc, hr.more (by omega), hci⟩
  have IY := Lib.hid (hI.below HB0.out)
  have HP := Lib.hid hpY
  clear hpY hsY hI hp
  have hc0 := HRG.out 0 _ rfl
  have hc1 := HRG.out 1 _ rfl
  go_enter Try.func65, Try.ntmps65
  go_wp2_with fail
  rw [← hY.out, ← hG.out]
  go_wp2_with fail
  refine (key_ Q qc h Y HP.out hh).mono ?_
  rintro e w1 ⟨rfl, hb1⟩
  have I1 := Lib.hid (IY.out.below hb1)
  have HB1 := Lib.hid (HB0.out.trans (hb1.mono HB0.out.size))
  have RG1 := Lib.hid (range_keep HRG.out hb1 hGY.out)
  have hg1 : w1.cell? ⟨g, 1, none⟩ = some (.map (some b)) := cell_blk I1.out.blk 1 rfl
  have hkl : (hkeyL h).length ≤ maxLen := by simp only [hkeyL, List.length_cons, List.length_append, eightL_len, maxLen]; omega
  have HKL := Lib.hid hkl
  obtain ⟨d, hd⟩ : ∃ d : Nat, Hid (numb hs h = d) := ⟨_, Lib.hid rfl⟩
  have HAT : Hid (f (.string (hkeyL h)) = .int .i64 (d : Nat)) := by unfold Hid; rw [I1.out.at_ h, hd.out]
  clear hc0 hc1 hkl
  have hd0 : d = 0 := by have := hd.out; rw [numb, if_neg hm] at this; exact this.symm
  subst hd0
  have hc1 := RG1.out 1 _ rfl
  obtain ⟨n, hnn⟩ : ∃ n : Nat, Hid (h.length = n) := ⟨_, Lib.hid rfl⟩
  obtain ⟨qb, qo, Ah, ch, hQ, hqb, hcq, hra, hac⟩ := HP.out.2 0 h rfl
  subst hQ
  rw [hnn.out] at hcq hra
  have hnb : n ≤ 1000000 := by rw [← hnn.out]; exact hh
  have hsz1 := hb1.size
  have HCQ := Lib.hid ((World.cell?_of_block (a := ⟨qb, qo, none⟩) (hb1.block qb (Nat.lt_of_lt_of_le hqb (Nat.le_refl _)))).trans hcq)
  have HRA := Lib.hid (hra.at0 hb1 hsz1)
  have hqb1 := Lib.hid (Nat.lt_of_lt_of_le hqb hsz1)
  have hob := Lib.hid (oneB h)
  clear hcq hra hqb hac HP hh
  go_wp2_with (at_lookup
               refine wpList_lookV rfl _ _ 116 rfl 9 3 (string_keyed Try.underlying9) Try.underlying116 (.int .i64 0) (zeroI _) b hs.length f rfl I1.out.map _ (.string (hkeyL h)) rfl (keyS _ HKL.out) ?_
               rw [HAT.out])
  go_loopw [7, 9, 23] (fun x7 _ x23 wr => ∃ (i : Nat) (P : Option Addr) (pc : Nat), x7 = .slice P i pc ∧ x23 = .int .i64 i ∧ i ≤ 1 ∧ Hid (i = 0 → P = none ∧ pc = 0) ∧ Hid (i = 1 → PartAt (List.range w1.heap.size) wr P h) ∧ Hid (Below w1.heap.size w1 wr)) (fun _ _ x23 _ => 1 - (intOf x23).toNat)
  case atStart => exact ⟨0, none, 0, rfl, rfl, by omega, fun _ => ⟨rfl, rfl⟩, fun h => absurd h (by decide), Below.refl _ _⟩
  case round =>
    obtain ⟨i, P, pc, rfl, rfl, hi, hP0, hP1, hbr⟩ := hrel
    by_cases hi0 : i = 0
    · subst hi0
      obtain ⟨rfl, rfl⟩ := hP0.out rfl
      have hsr := hbr.out.size
      have hcq0 : wr.cell? ⟨qb, qo, none⟩ = some (.slice Ah n ch) := (World.cell?_of_block (a := ⟨qb, qo + 0, none⟩) (hbr.out.block qb hqb1.out)).trans HCQ.out
      obtain ⟨E, hE⟩ : ∃ E, Hid (E = wr.alloc (.cells #[] 5)) := ⟨_, Lib.hid rfl⟩
      have bE : Hid (Below w1.heap.size w1 E) := by rw [hE.out]; exact hbr.out.trans ((Below.refl _ _).alloc hsr _)
      have hsE := bE.out.size
      have HRE := Lib.hid (HRA.out.at0 bE.out hsE)
      have hO0 : Hid (OwnS E w1.heap.size (some ⟨wr.heap.size, 0, none⟩) 0 0 []) := OwnS.nil _ _ _
      go_wp2_with (first
        | (at_builtin
           rw [← hE.out]
           refine wpList_apT rfl (.tmp 28) (.tmp 29) 38 rfl w1.heap.size 5 1 (.int .u8 0) Try.underlying38 infoB rfl _ 0 0 _ rfl hO0.out _ Ah n ch _ rfl HRE.out hob.out (by simp only [maxLen]; omega) (by omega) hsE ?_
           intro A3 c3 w3 o3 b3 _ _ _
           rw [Nat.zero_add, List.nil_append] at o3
           rw [Nat.zero_add]
           have O3 := Lib.hid o3
           have B3 := Lib.hid (bE.out.trans b3)
           clear o3 b3)
        | (at_builtin
           obtain ⟨V, hV⟩ : ∃ V, Hid (V = w3.alloc (.cells #[.slice A3 n c3] 38)) := ⟨_, Lib.hid rfl⟩
           have hL4 : Hid (Rd V V.heap.size 1 (some ⟨w3.heap.size, 0, none⟩) 1 [.slice A3 n c3]) := by rw [hV.out]; exact one_any _ _ _
           have B4 : Hid (Below w1.heap.size w1 V) := by rw [hV.out]; exact B3.out.trans ((Below.refl _ _).alloc B3.out.size _)
           have O4 : Hid (OwnS V w1.heap.size A3 n c3 (h.map B8)) := by rw [hV.out]; exact O3.out.to ((Below.refl _ _).alloc (Nat.le_refl _) _)
           rw [← hV.out]
           refine wpList_apT rfl (.tmp 27) (.tmp 31) 66 rfl w1.heap.size 38 24 (.slice none 0 0) Try.underlying66 (by kernel_rfl) rfl none 0 0 [] rfl (OwnS.nil _ _ _) _ (some ⟨w3.heap.size, 0, none⟩) 1 1 [.slice A3 n c3] rfl hL4.out (by intro u hu; rcases List.mem_singleton.1 hu with rfl; rfl) (by simp [maxLen]) (by decide) B4.out.size ?_
           intro A5 c5 w5 o5 b5 _ h5 _
           have O45 := Lib.hid (O4.out.same fun k o e hk => h5 k hk (fun _ _ e2 => by cases e2))
           have P5 := Lib.hid (part_of o5 O45.out hnn.out)
           have B5 := Lib.hid (B4.out.trans b5)
           clear o5 b5 h5))
      go_roundw
      case rel => exact ⟨1, A5, c5, rfl, by go_num, by omega, fun h => absurd h (by decide), fun _ => P5.out, B5⟩
      case measure => simp only [intOf]; omega
    · have hiS : i = 1 := by omega
      subst hiS
      have hPr := Lib.hid (hP1.out rfl)
      have hsr := hbr.out.size
      have HB1s := Lib.hid HB1.out.size
      have Ir := Lib.hid (I1.out.below (hbr.out.mono (Nat.le_refl _)))
      have RGr := Lib.hid (range_keep RG1.out hbr.out (Nat.lt_of_lt_of_le hGY.out hsz1))
      have HBr := Lib.hid (HB1.out.trans (hbr.out.mono HB1.out.size))
      have hKL2 := HKL
      clear hP0 hP1 HAT HKL HCQ HRA hqb1 hob I1 RG1 HB1 hc1 hg1
      go_wp2_with fail
      obtain ⟨X, hX⟩ : ∃ W, Hid (W = wr.drew) := ⟨_, Lib.hid rfl⟩
      have dX : Below wr.heap.size wr X := by rw [hX.out]; exact below_drew (Below.refl _ _)
      have IX := Lib.hid (Ir.out.below dX)
      have RX := Lib.hid (range_keep RGr.out dX (Nat.lt_of_lt_of_le (Nat.lt_of_lt_of_le hGY.out hsz1) hsr))
      have HBX := Lib.hid (HBr.out.trans (dX.mono HBr.out.size))
      have PX := Lib.hid (hPr.out.go (Fr.below (own := []) dX) (fun _ h => absurd h (by simp)))
      have hgX : X.cell? ⟨g, 0, none⟩ = some (.slice A hs.length c) := cell_blk IX.out.blk 0 rfl
      have hGX : X.cell? ⟨G, 0, none⟩ = some (.int .u8 104) := RX.out 0 _ rfl
      refine wp_region_noPanic ?_
      refine wp_region_held_drew (S := fun _ => True) (by kernel_rfl) trivial (fun hS => ?_)
      rw [← hX.out]
      clear hS
      have hS : True := trivial
      refine wpAnyH_take (i := 0) (v := ?v0) rfl (by kernel_rfl) (by kernel_rfl) (by kernel_rfl) (fun _ _ _ h => h) (Or.inl ⟨by rfl, ?hy0⟩) hS ?rest0
      case hy0 => (intro w hSw; go_simp; first | done | with_reducible rfl)
      try simp only [Act.put, List.getElem_toArray, List.getElem_cons_zero, List.getElem_cons_succ, List.setIfInBounds_toArray, List.set_cons_zero, List.set_cons_succ]
      refine wpAnyH_take (i := 1) (v := ?v1) rfl (by kernel_rfl) (by kernel_rfl) (by kernel_rfl) (fun _ _ _ h => h) (Or.inl ⟨by rfl, ?hy1⟩) hS ?rest1
      case hy1 => (intro w hSw; go_simp; first | done | with_reducible rfl)
      try simp only [Act.put, List.getElem_toArray, List.getElem_cons_zero, List.getElem_cons_succ, List.setIfInBounds_toArray, List.set_cons_zero, List.set_cons_succ]
      refine wpAnyH_take (i := 2) (v := ?v2) rfl (by kernel_rfl) (by kernel_rfl) (by kernel_rfl) (fun _ _ _ h => h) (Or.inl ⟨by rfl, ?hy2⟩) hS ?rest2
      case hy2 => (intro w hSw; go_simp; first | done | with_reducible rfl)
      try simp only [Act.put, List.getElem_toArray, List.getElem_cons_zero, List.getElem_cons_succ, List.setIfInBounds_toArray, List.set_cons_zero, List.set_cons_succ]
      refine wpAnyH_take (i := 3) (v := ?v3) rfl (by kernel_rfl) (by kernel_rfl) (by kernel_rfl) (fun _ _ _ h => h) (Or.inl ⟨by rfl, ?hy3⟩) hS ?rest3
      case hy3 => (intro w hSw; go_simp; first | done | with_reducible rfl)
      try simp only [Act.put, List.getElem_toArray, List.getElem_cons_zero, List.getElem_cons_succ, List.setIfInBounds_toArray, List.set_cons_zero, List.set_cons_succ]
      refine wpAnyH_take (i := 5) (v := ?v5) rfl (by kernel_rfl) (by kernel_rfl) (by kernel_rfl) (fun _ _ _ h => h) (Or.inl ⟨by rfl, ?hy5⟩) hS ?rest5
      case hy5 => (intro w hSw; go_simp; first | done | with_reducible rfl)
      try simp only [Act.put, List.getElem_toArray, List.getElem_cons_zero, List.getElem_cons_succ, List.setIfInBounds_toArray, List.set_cons_zero, List.set_cons_succ]
      refine wpAnyH_take (i := 7) (v := ?v7) rfl (by kernel_rfl) (by kernel_rfl) (by kernel_rfl) (fun _ _ _ h => h) (Or.inl ⟨by rfl, ?hy7⟩) hS ?rest7
      case hy7 => (intro w hSw; go_simp; first | done | with_reducible rfl)
      try simp only [Act.put, List.getElem_toArray, List.getElem_cons_zero, List.getElem_cons_succ, List.setIfInBounds_toArray, List.set_cons_zero, List.set_cons_succ]
      refine wpAnyH_ready (rs := [4, 6]) (by kernel_rfl) (by simp) ?_
      refine AllReadyH.cons rfl (fun K hK => ?_) (AllReadyH.cons rfl (fun K hK => ?_) AllReadyH.nil)
      · go_simp
        refine hK.out _ _ trivial ?_
        intro hS2
        clear hK K hS2
        try simp only [Act.put, List.getElem_toArray, List.getElem_cons_zero, List.getElem_cons_succ, List.setIfInBounds_toArray, List.set_cons_zero, List.set_cons_succ]
        refine wpAnyH_ready (rs := [6]) (by kernel_rfl) (by simp) ?_
        refine AllReadyH.cons rfl (fun K hK => ?_) AllReadyH.nil
        go_simp
        refine hK.out _ _ trivial ?_
        intro hS2
        clear hK K hS2
        try simp only [Act.put, List.getElem_toArray, List.getElem_cons_zero, List.getElem_cons_succ, List.setIfInBounds_toArray, List.set_cons_zero, List.set_cons_succ]
        refine wpAnyH_take (i := 8) (v := ?va8) rfl (by kernel_rfl) (by kernel_rfl) (by kernel_rfl) (fun _ _ _ h => h) (Or.inl ⟨by rfl, ?hya8⟩) hS ?resta8
        case hya8 => (intro w hSw; go_simp; first | done | with_reducible rfl)
        try simp only [Act.put, List.getElem_toArray, List.getElem_cons_zero, List.getElem_cons_succ, List.setIfInBounds_toArray, List.set_cons_zero, List.set_cons_succ]
        refine wpAnyH_ready (rs := [9]) (by kernel_rfl) (by simp) ?_
        refine AllReadyH.cons rfl (fun K hK => ?_) AllReadyH.nil
        go_simp
        refine hK.out _ _ trivial ?_
        intro hS2
        clear hK K hS2
        try simp only [Act.put, List.getElem_toArray, List.getElem_cons_zero, List.getElem_cons_succ, List.setIfInBounds_toArray, List.set_cons_zero, List.set_cons_succ]
        obtain ⟨V, hV⟩ : ∃ V, Hid (V = X.alloc (.cells #[.int .u8 104, .slice P 1 pc] 68)) := ⟨_, Lib.hid rfl⟩
        have bV : Below X.heap.size X V := by rw [hV.out]; exact (Below.refl _ _).alloc (Nat.le_refl _) _
        have hLV : Hid (Rd V V.heap.size 2 (some ⟨X.heap.size, 0, none⟩) 1 [.int .u8 104, .slice P 1 pc]) := by rw [hV.out]; exact two_any _ _ _ _
        rw [← hV.out]
        have IV := Lib.hid (IX.out.below bV)
        have HBV := Lib.hid (HBX.out.trans (bV.mono HBX.out.size))
        have PV := Lib.hid (PX.out.go (Fr.below (own := []) bV) (fun _ h => absurd h (by simp)))
        clear hgX hGX
        refine wpAnyH_ready (rs := [10]) (by kernel_rfl) (by simp) ?_
        refine AllReadyH.cons rfl (fun K hK => ?_) AllReadyH.nil
        refine step_app (.tmp 38) (.tmp 43) 64 rfl rfl 0 68 2 32 (.agg #[.int .u8 0, .slice none 0 0]) Try.underlying64 (by kernel_rfl) rfl (by decide) _ hs.length _ rfl IV.out.row _ (some ⟨X.heap.size, 0, none⟩) 1 1 [.int .u8 104, .slice P 1 pc] rfl hLV.out (by intro u hu; simp at hu; rcases hu with rfl | rfl <;> rfl) (by simp only [maxLen]; omega) (by omega) (Nat.zero_le _) ?_
        intro A' c' u' o' g' hor
        obtain ⟨t, hA, nu, eu, htl, htn⟩ := new_row IV.out o' g' hor
        subst hA
        refine hK.out _ _ trivial ?_
        intro hS2
        clear hK K hS2
        try simp only [Act.put, List.getElem_toArray, List.getElem_cons_zero, List.getElem_cons_succ, List.setIfInBounds_toArray, List.set_cons_zero, List.set_cons_succ]
        have hgu : u'.cell? ⟨g, 0, none⟩ = some (.slice A hs.length c) := cell_blk eu 0 rfl
        have hfu : u'.frozen? ⟨g, 0, none⟩ = false := frozen_blk eu _
        refine wpAnyH_take (i := 11) (v := ?va11) rfl (by kernel_rfl) (by kernel_rfl) (by kernel_rfl) (fun _ _ _ h => h) (Or.inl ⟨by rfl, ?hya11⟩) hS ?resta11
        case hya11 => (intro w hSw; go_simp; first | done | with_reducible rfl)
        try simp only [Act.put, List.getElem_toArray, List.getElem_cons_zero, List.getElem_cons_succ, List.setIfInBounds_toArray, List.set_cons_zero, List.set_cons_succ]
        refine wpAnyH_take (i := 12) (v := ?va12) rfl (by kernel_rfl) (by kernel_rfl) (by kernel_rfl) (fun _ _ _ h => h) (Or.inl ⟨by rfl, ?hya12⟩) hS ?resta12
        case hya12 => (intro w hSw; go_simp; first | done | with_reducible rfl)
        try simp only [Act.put, List.getElem_toArray, List.getElem_cons_zero, List.getElem_cons_succ, List.setIfInBounds_toArray, List.set_cons_zero, List.set_cons_succ]
        refine wpAnyH_ready (rs := [13]) (by kernel_rfl) (by simp) ?_
        refine AllReadyH.cons rfl (fun K hK => ?_) AllReadyH.nil
        go_simp
        refine hK.out _ _ trivial ?_
        intro hS2
        clear hK K hS2
        try simp only [Act.put, List.getElem_toArray, List.getElem_cons_zero, List.getElem_cons_succ, List.setIfInBounds_toArray, List.set_cons_zero, List.set_cons_succ]
        refine wpAnyH_done (by kernel_rfl) (NoPanic.normal ?_) _
        obtain ⟨Z, hZ⟩ : ∃ Z, Hid (Z = u'.setCell ⟨g, 0, none⟩ (.slice (some ⟨t, 0, none⟩) (hs.length + 1) c')) := ⟨_, Lib.hid rfl⟩
        rw [← hZ.out]
        have eZ : Hid (Z.heap[g]? = some (.cells #[.slice (some ⟨t, 0, none⟩) (hs.length + 1) c', .map (some b), .int .i64 0] 120 (0, 0))) := by rw [hZ.out]; exact heap_setCell_same u' g 0 _ _ _ eu
        have gZ : Hid (u'.grownBy Z (some g)) := by rw [hZ.out]; exact grown_set u' g 0 _
        have mu := Lib.hid nu
        have mZ : Hid (MapV Try.prog 9 Z b hs.length (.int .i64 0) f) := nu.same (gZ.out.block b nu.lt (fun e => by injection e with e; subst e; exact map_ne_cells nu eu))
        have hz0 : Z.cell? ⟨g, 0, none⟩ = some (.slice (some ⟨t, 0, none⟩) (hs.length + 1) c') := cell_blk eZ.out 0 rfl
        have hz1 : Z.cell? ⟨g, 1, none⟩ = some (.map (some b)) := cell_blk eZ.out 1 rfl
        have oo := Lib.hid o'
        have gg := Lib.hid g'
        have ee := Lib.hid eu
        have tl := Lib.hid htl
        have tn := Lib.hid htn
        clear o' g' hor eu htl htn hgu hfu nu
        have hmx : hs.length < maxLen := by simp only [maxLen]; omega
        have HMX := Lib.hid hmx
        clear hmx
        go_wp2_with (at_mapUpdate
                     refine wpList_updV rfl _ _ _ 116 rfl 9 3 (string_keyed Try.underlying9) Try.underlying116 (.int .i64 0) b hs.length f rfl mZ.out HMX.out _ _ (.string (hkeyL h)) rfl rfl (keyS _ hKL2.out) ?_
                     intro w9 m9 g9
                     have M9 := Lib.hid m9
                     have G9 := Lib.hid g9
                     clear m9 g9)
        go_ret
        obtain ⟨own', hown, hfr⟩ := new_done hm hI0.out HRl.out HBV.out IV.out PV.out HB1s.out oo.out gg.out ee.out tl.out gZ.out eZ.out mu.out M9.out G9.out tn.out
        exact ⟨own', rfl, hown, hfr⟩
      · go_simp
        refine hK.out _ _ trivial ?_
        intro hS2
        clear hK K hS2
        try simp only [Act.put, List.getElem_toArray, List.getElem_cons_zero, List.getElem_cons_succ, List.setIfInBounds_toArray, List.set_cons_zero, List.set_cons_succ]
        refine wpAnyH_take (i := 8) (v := ?vb8) rfl (by kernel_rfl) (by kernel_rfl) (by kernel_rfl) (fun _ _ _ h => h) (Or.inl ⟨by rfl, ?hyb8⟩) hS ?restb8
        case hyb8 => (intro w hSw; go_simp; first | done | with_reducible rfl)
        try simp only [Act.put, List.getElem_toArray, List.getElem_cons_zero, List.getElem_cons_succ, List.setIfInBounds_toArray, List.set_cons_zero, List.set_cons_succ]
        refine wpAnyH_ready (rs := [4, 9]) (by kernel_rfl) (by simp) ?_
        refine AllReadyH.cons rfl (fun K hK => ?_) (AllReadyH.cons rfl (fun K hK => ?_) AllReadyH.nil)
        · go_simp
          refine hK.out _ _ trivial ?_
          intro hS2
          clear hK K hS2
          try simp only [Act.put, List.getElem_toArray, List.getElem_cons_zero, List.getElem_cons_succ, List.setIfInBounds_toArray, List.set_cons_zero, List.set_cons_succ]
          refine wpAnyH_ready (rs := [9]) (by kernel_rfl) (by simp) ?_
          refine AllReadyH.cons rfl (fun K hK => ?_) AllReadyH.nil
          go_simp
          refine hK.out _ _ trivial ?_
          intro hS2
          clear hK K hS2
          try simp only [Act.put, List.getElem_toArray, List.getElem_cons_zero, List.getElem_cons_succ, List.setIfInBounds_toArray, List.set_cons_zero, List.set_cons_succ]
          obtain ⟨V, hV⟩ : ∃ V, Hid (V = X.alloc (.cells #[.int .u8 104, .slice P 1 pc] 68)) := ⟨_, Lib.hid rfl⟩
          have bV : Below X.heap.size X V := by rw [hV.out]; exact (Below.refl _ _).alloc (Nat.le_refl _) _
          have hLV : Hid (Rd V V.heap.size 2 (some ⟨X.heap.size, 0, none⟩) 1 [.int .u8 104, .slice P 1 pc]) := by rw [hV.out]; exact two_any _ _ _ _
          rw [← hV.out]
          have IV := Lib.hid (IX.out.below bV)
          have HBV := Lib.hid (HBX.out.trans (bV.mono HBX.out.size))
          have PV := Lib.hid (PX.out.go (Fr.below (own := []) bV) (fun _ h => absurd h (by simp)))
          clear hgX hGX
          refine wpAnyH_ready (rs := [10]) (by kernel_rfl) (by simp) ?_
          refine AllReadyH.cons rfl (fun K hK => ?_) AllReadyH.nil
          refine step_app (.tmp 38) (.tmp 43) 64 rfl rfl 0 68 2 32 (.agg #[.int .u8 0, .slice none 0 0]) Try.underlying64 (by kernel_rfl) rfl (by decide) _ hs.length _ rfl IV.out.row _ (some ⟨X.heap.size, 0, none⟩) 1 1 [.int .u8 104, .slice P 1 pc] rfl hLV.out (by intro u hu; simp at hu; rcases hu with rfl | rfl <;> rfl) (by simp only [maxLen]; omega) (by omega) (Nat.zero_le _) ?_
          intro A' c' u' o' g' hor
          obtain ⟨t, hA, nu, eu, htl, htn⟩ := new_row IV.out o' g' hor
          subst hA
          refine hK.out _ _ trivial ?_
          intro hS2
          clear hK K hS2
          try simp only [Act.put, List.getElem_toArray, List.getElem_cons_zero, List.getElem_cons_succ, List.setIfInBounds_toArray, List.set_cons_zero, List.set_cons_succ]
          have hgu : u'.cell? ⟨g, 0, none⟩ = some (.slice A hs.length c) := cell_blk eu 0 rfl
          have hfu : u'.frozen? ⟨g, 0, none⟩ = false := frozen_blk eu _
          refine wpAnyH_take (i := 11) (v := ?vp11) rfl (by kernel_rfl) (by kernel_rfl) (by kernel_rfl) (fun _ _ _ h => h) (Or.inl ⟨by rfl, ?hyp11⟩) hS ?restp11
          case hyp11 => (intro w hSw; go_simp; first | done | with_reducible rfl)
          try simp only [Act.put, List.getElem_toArray, List.getElem_cons_zero, List.getElem_cons_succ, List.setIfInBounds_toArray, List.set_cons_zero, List.set_cons_succ]
          refine wpAnyH_take (i := 12) (v := ?vp12) rfl (by kernel_rfl) (by kernel_rfl) (by kernel_rfl) (fun _ _ _ h => h) (Or.inl ⟨by rfl, ?hyp12⟩) hS ?restp12
          case hyp12 => (intro w hSw; go_simp; first | done | with_reducible rfl)
          try simp only [Act.put, List.getElem_toArray, List.getElem_cons_zero, List.getElem_cons_succ, List.setIfInBounds_toArray, List.set_cons_zero, List.set_cons_succ]
          refine wpAnyH_ready (rs := [13]) (by kernel_rfl) (by simp) ?_
          refine AllReadyH.cons rfl (fun K hK => ?_) AllReadyH.nil
          go_simp
          refine hK.out _ _ trivial ?_
          intro hS2
          clear hK K hS2
          try simp only [Act.put, List.getElem_toArray, List.getElem_cons_zero, List.getElem_cons_succ, List.setIfInBounds_toArray, List.set_cons_zero, List.set_cons_succ]
          refine wpAnyH_done (by kernel_rfl) (NoPanic.normal ?_) _
          obtain ⟨Z, hZ⟩ : ∃ Z, Hid (Z = u'.setCell ⟨g, 0, none⟩ (.slice (some ⟨t, 0, none⟩) (hs.length + 1) c')) := ⟨_, Lib.hid rfl⟩
          rw [← hZ.out]
          have eZ : Hid (Z.heap[g]? = some (.cells #[.slice (some ⟨t, 0, none⟩) (hs.length + 1) c', .map (some b), .int .i64 0] 120 (0, 0))) := by rw [hZ.out]; exact heap_setCell_same u' g 0 _ _ _ eu
          have gZ : Hid (u'.grownBy Z (some g)) := by rw [hZ.out]; exact grown_set u' g 0 _
          have mu := Lib.hid nu
          have mZ : Hid (MapV Try.prog 9 Z b hs.length (.int .i64 0) f) := nu.same (gZ.out.block b nu.lt (fun e => by injection e with e; subst e; exact map_ne_cells nu eu))
          have hz0 : Z.cell? ⟨g, 0, none⟩ = some (.slice (some ⟨t, 0, none⟩) (hs.length + 1) c') := cell_blk eZ.out 0 rfl
          have hz1 : Z.cell? ⟨g, 1, none⟩ = some (.map (some b)) := cell_blk eZ.out 1 rfl
          have oo := Lib.hid o'
          have gg := Lib.hid g'
          have ee := Lib.hid eu
          have tl := Lib.hid htl
          have tn := Lib.hid htn
          clear o' g' hor eu htl htn hgu hfu nu
          have hmx : hs.length < maxLen := by simp only [maxLen]; omega
          have HMX := Lib.hid hmx
          clear hmx
          go_wp2_with (at_mapUpdate
                       refine wpList_updV rfl _ _ _ 116 rfl 9 3 (string_keyed Try.underlying9) Try.underlying116 (.int .i64 0) b hs.length f rfl mZ.out HMX.out _ _ (.string (hkeyL h)) rfl rfl (keyS _ hKL2.out) ?_
                       intro w9 m9 g9
                       have M9 := Lib.hid m9
                       have G9 := Lib.hid g9
                       clear m9 g9)
          go_ret
          obtain ⟨own', hown, hfr⟩ := new_done hm hI0.out HRl.out HBV.out IV.out PV.out HB1s.out oo.out gg.out ee.out tl.out gZ.out eZ.out mu.out M9.out G9.out tn.out
          exact ⟨own', rfl, hown, hfr⟩
        · go_simp
          refine hK.out _ _ trivial ?_
          intro hS2
          clear hK K hS2
          try simp only [Act.put, List.getElem_toArray, List.getElem_cons_zero, List.getElem_cons_succ, List.setIfInBounds_toArray, List.set_cons_zero, List.set_cons_succ]
          refine wpAnyH_ready (rs := [4]) (by kernel_rfl) (by simp) ?_
          refine AllReadyH.cons rfl (fun K hK => ?_) AllReadyH.nil
          have hgV : (X.alloc (.cells #[.int .u8 104, .slice P 1 pc] 68)).cell? ⟨g, 0, none⟩ = some (.slice A hs.length c) := (World.cell?_alloc_lt _ _ _ (World.block_lt_of_cell? _ _ hgX)).trans hgX
          go_simp
          refine hK.out _ _ trivial ?_
          intro hS2
          clear hK K hS2
          try simp only [Act.put, List.getElem_toArray, List.getElem_cons_zero, List.getElem_cons_succ, List.setIfInBounds_toArray, List.set_cons_zero, List.set_cons_succ]
          clear hgV
          obtain ⟨V, hV⟩ : ∃ V, Hid (V = X.alloc (.cells #[.int .u8 104, .slice P 1 pc] 68)) := ⟨_, Lib.hid rfl⟩
          have bV : Below X.heap.size X V := by rw [hV.out]; exact (Below.refl _ _).alloc (Nat.le_refl _) _
          have hLV : Hid (Rd V V.heap.size 2 (some ⟨X.heap.size, 0, none⟩) 1 [.int .u8 104, .slice P 1 pc]) := by rw [hV.out]; exact two_any _ _ _ _
          rw [← hV.out]
          have IV := Lib.hid (IX.out.below bV)
          have HBV := Lib.hid (HBX.out.trans (bV.mono HBX.out.size))
          have PV := Lib.hid (PX.out.go (Fr.below (own := []) bV) (fun _ h => absurd h (by simp)))
          clear hgX hGX
          refine wpAnyH_ready (rs := [10]) (by kernel_rfl) (by simp) ?_
          refine AllReadyH.cons rfl (fun K hK => ?_) AllReadyH.nil
          refine step_app (.tmp 38) (.tmp 43) 64 rfl rfl 0 68 2 32 (.agg #[.int .u8 0, .slice none 0 0]) Try.underlying64 (by kernel_rfl) rfl (by decide) _ hs.length _ rfl IV.out.row _ (some ⟨X.heap.size, 0, none⟩) 1 1 [.int .u8 104, .slice P 1 pc] rfl hLV.out (by intro u hu; simp at hu; rcases hu with rfl | rfl <;> rfl) (by simp only [maxLen]; omega) (by omega) (Nat.zero_le _) ?_
          intro A' c' u' o' g' hor
          obtain ⟨t, hA, nu, eu, htl, htn⟩ := new_row IV.out o' g' hor
          subst hA
          refine hK.out _ _ trivial ?_
          intro hS2
          clear hK K hS2
          try simp only [Act.put, List.getElem_toArray, List.getElem_cons_zero, List.getElem_cons_succ, List.setIfInBounds_toArray, List.set_cons_zero, List.set_cons_succ]
          have hgu : u'.cell? ⟨g, 0, none⟩ = some (.slice A hs.length c) := cell_blk eu 0 rfl
          have hfu : u'.frozen? ⟨g, 0, none⟩ = false := frozen_blk eu _
          refine wpAnyH_take (i := 11) (v := ?vq11) rfl (by kernel_rfl) (by kernel_rfl) (by kernel_rfl) (fun _ _ _ h => h) (Or.inl ⟨by rfl, ?hyq11⟩) hS ?restq11
          case hyq11 => (intro w hSw; go_simp; first | done | with_reducible rfl)
          try simp only [Act.put, List.getElem_toArray, List.getElem_cons_zero, List.getElem_cons_succ, List.setIfInBounds_toArray, List.set_cons_zero, List.set_cons_succ]
          refine wpAnyH_take (i := 12) (v := ?vq12) rfl (by kernel_rfl) (by kernel_rfl) (by kernel_rfl) (fun _ _ _ h => h) (Or.inl ⟨by rfl, ?hyq12⟩) hS ?restq12
          case hyq12 => (intro w hSw; go_simp; first | done | with_reducible rfl)
          try simp only [Act.put, List.getElem_toArray, List.getElem_cons_zero, List.getElem_cons_succ, List.setIfInBounds_toArray, List.set_cons_zero, List.set_cons_succ]
          refine wpAnyH_ready (rs := [13]) (by kernel_rfl) (by simp) ?_
          refine AllReadyH.cons rfl (fun K hK => ?_) AllReadyH.nil
          go_simp
          refine hK.out _ _ trivial ?_
          intro hS2
          clear hK K hS2
          try simp only [Act.put, List.getElem_toArray, List.getElem_cons_zero, List.getElem_cons_succ, List.setIfInBounds_toArray, List.set_cons_zero, List.set_cons_succ]
          refine wpAnyH_done (by kernel_rfl) (NoPanic.normal ?_) _
          obtain ⟨Z, hZ⟩ : ∃ Z, Hid (Z = u'.setCell ⟨g, 0, none⟩ (.slice (some ⟨t, 0, none⟩) (hs.length + 1) c')) := ⟨_, Lib.hid rfl⟩
          rw [← hZ.out]
          have eZ : Hid (Z.heap[g]? = some (.cells #[.slice (some ⟨t, 0, none⟩) (hs.length + 1) c', .map (some b), .int .i64 0] 120 (0, 0))) := by rw [hZ.out]; exact heap_setCell_same u' g 0 _ _ _ eu
          have gZ : Hid (u'.grownBy Z (some g)) := by rw [hZ.out]; exact grown_set u' g 0 _
          have mu := Lib.hid nu
          have mZ : Hid (MapV Try.prog 9 Z b hs.length (.int .i64 0) f) := nu.same (gZ.out.block b nu.lt (fun e => by injection e with e; subst e; exact map_ne_cells nu eu))
          have hz0 : Z.cell? ⟨g, 0, none⟩ = some (.slice (some ⟨t, 0, none⟩) (hs.length + 1) c') := cell_blk eZ.out 0 rfl
          have hz1 : Z.cell? ⟨g, 1, none⟩ = some (.map (some b)) := cell_blk eZ.out 1 rfl
          have oo := Lib.hid o'
          have gg := Lib.hid g'
          have ee := Lib.hid eu
          have tl := Lib.hid htl
          have tn := Lib.hid htn
          clear o' g' hor eu htl htn hgu hfu nu
          have hmx : hs.length < maxLen := by simp only [maxLen]; omega
          have HMX := Lib.hid hmx
          clear hmx
          go_wp2_with (at_mapUpdate
                       refine wpList_updV rfl _ _ _ 116 rfl 9 3 (string_keyed Try.underlying9) Try.underlying116 (.int .i64 0) b hs.length f rfl mZ.out HMX.out _ _ (.string (hkeyL h)) rfl rfl (keyS _ hKL2.out) ?_
                       intro w9 m9 g9
                       have M9 := Lib.hid m9
                       have G9 := Lib.hid g9
                       clear m9 g9)
          go_ret
          obtain ⟨own', hown, hfr⟩ := new_done hm hI0.out HRl.out HBV.out IV.out PV.out HB1s.out oo.out gg.out ee.out tl.out gZ.out eZ.out mu.out M9.out G9.out tn.out
          exact ⟨own', rfl, hown, hfr⟩
theorem number_ (g : Nat) (hs : List (List UInt8)) (own R : List Nat) (Q : Option Addr) (qc : Nat) (h : List UInt8) (w : World) (hI : IdealAt w g hs own R) (hp : RdL w w.heap.size Q 1 [h]) (hh : h.length ≤ 1000000)
    (hn : hs.length ≤ 1000000) (hR : ∀ k, k ∈ R → k < w.heap.size) :
    Calls Try.prog 65 #[.pointer (some ⟨g, 0, none⟩), .agg #[.int .u8 104, .slice Q 1 qc]] w fun e w' => ∃ own', e = .returned (.int .i64 ((hs.idxOf h + 1 : Nat) : Int)) ∧ IdealAt w' g (note hs h) own' R ∧ Fr own w w' own' := by
  obtain ⟨A, c, b, Qs, f, hv⟩ := hI
  by_cases hm : h ∈ hs
  · refine (number_hit g hs own R A c b Qs f Q qc h w hv hp hh hm).mono ?_
    rintro e w' ⟨rfl, hb⟩
    refine ⟨own, rfl, ?_, Fr.below hb⟩
    rw [note, if_pos hm]
    exact ⟨A, c, b, Qs, f, hv.below hb⟩
  · refine (number_new g hs own R A c b Qs f Q qc h w hv hp hh hm hn hR).mono ?_
    rintro e w' ⟨own', rfl, hi, hf⟩
    refine ⟨own', ?_, ?_, hf⟩
    · rw [List.idxOf_eq_length hm]
    · rw [note, if_neg hm]; exact hi
end Go.Proofs.Ytabcbpcfleociaa

/- The ideal suite's Hash. (Printed by gen_suf.py.) -/
namespace Go.Proofs.Ytabcbpcfleociaa
open Go.RowKit Go.Maps
attribute [local go_sem ↓] Go.wp_at_zero Go.wp_at_succ
set_option linter.unusedSimpArgs false
set_option linter.unusedVariables false
theorem note_lt {own : List Nat} {w : World} {g : Nat} {hs : List (List UInt8)} {R : List Nat} (h : IdealAt w g hs own R) : ∀ k, k ∈ own → k < w.heap.size := by
  obtain ⟨A, c, b, Qs, f, hv⟩ := h
  exact hv.lt
set_option maxRecDepth 20000 in
set_option maxHeartbeats 1000000 in
theorem name_ (g : Nat) (hs : List (List UInt8)) (own R : List Nat) (Q : Option Addr) (qc : Nat) (h : List UInt8) (w : World) (hI : IdealAt w g hs own R) (hp : RdL w w.heap.size Q 1 [h]) (hh : h.length ≤ 1000000)
    (hn : hs.length ≤ 1000000) (hR : ∀ k, k ∈ R → k < w.heap.size) :
    Calls Try.prog 101 #[.pointer (some ⟨g, 0, none⟩), .int .u8 104, .slice Q 1 qc] w fun e w' => ∃ own' A c, e = .returned (.slice A 32 c) ∧ OwnS w' w.heap.size A 32 c ((hname (hs.idxOf h + 1)).map B8) ∧ IdealAt w' g (note hs h) own' R ∧ Fr own w w' own' := by
  obtain ⟨Y, hY⟩ : ∃ Y, Hid (Y = w.alloc (.cells #[.int .u8 104, .slice Q 1 qc] 68)) := ⟨_, Lib.hid rfl⟩
  have HB0 : Hid (Below w.heap.size w Y) := by rw [hY.out]; exact (Below.refl _ _).alloc (Nat.le_refl _) _
  have hsY : Y.heap.size = w.heap.size + 1 := by rw [hY.out]; exact szAlloc _ _
  obtain ⟨G, hG⟩ : ∃ g, Hid (g = w.heap.size) := ⟨_, Lib.hid rfl⟩
  have HRG : Hid (Y.rangeAt G 0 [.int .u8 104, .slice Q 1 qc]) := by
    rw [hY.out, hG.out]
    intro j v hj
    refine cell_blk (heap_alloc_new w _) _ ?_
    rw [Nat.zero_add, ← hj]; simp
  have hGY : Hid (G < Y.heap.size) := by unfold Hid; rw [hG.out, hsY]; exact Nat.lt_succ_self _
  have hGo : Hid (∀ k, k ∈ own → k < G) := by unfold Hid; rw [hG.out]; exact note_lt hI
  have IY := Lib.hid (hI.below HB0.out)
  have HP : Hid (∀ w', Below w.heap.size w w' → RdL w' w'.heap.size Q 1 [h]) := by
    intro w' hb
    refine ⟨hp.1, fun i l hl => ?_⟩
    obtain ⟨b, o, Ai, ci, e, hb', hc, hr, hci⟩ := (hp.to hb).2 i l hl
    have := hb.size
    exact ⟨b, o, Ai, ci, e, by omega, hc, hr.more (by omega), hci⟩
  have HR := Lib.hid hR
  clear hsY hI hp hR
  go_enter Try.func101, Try.ntmps101
  go_wp2_with fail
  rw [← hY.out, ← hG.out]
  obtain ⟨X, hX⟩ : ∃ W, Hid (W = Y.drew) := ⟨_, Lib.hid rfl⟩
  have dX : Below Y.heap.size Y X := by rw [hX.out]; exact below_drew (Below.refl _ _)
  have IX := Lib.hid (IY.out.below dX)
  have HBX := Lib.hid (HB0.out.trans (dX.mono HB0.out.size))
  have RX := Lib.hid (range_keep HRG.out dX hGY.out)
  have PX := Lib.hid (HP.out X HBX.out)
  have hGX := Lib.hid (Nat.lt_of_lt_of_le hGY.out dX.size)
  have FX : Hid (Fr own w X own) := Fr.below HBX.out
  refine wp_region_noPanic ?_
  refine wp_region_held_drew (S := fun w' => w'.rangeAt G 0 [.int .u8 104, .slice Q 1 qc]) (by kernel_rfl) (by rw [← hX.out]; exact RX.out) (fun hS => ?_)
  rw [← hX.out]
  clear hS
  have hS : X.rangeAt G 0 [.int .u8 104, .slice Q 1 qc] := RX.out
  refine wpAnyH_take (i := 0) (v := .agg #[.int .u8 104, .slice Q 1 qc]) rfl (by kernel_rfl) (by kernel_rfl) (by kernel_rfl) (fun _ _ _ h => h) (Or.inl ⟨by rfl, ?hy0⟩) hS ?rest0
  case hy0 => (intro w' hSw; have c0 := hSw 0 _ rfl; have c1 := hSw 1 _ rfl; go_simp; first | done | with_reducible rfl)
  try simp only [Act.put, List.getElem_toArray, List.getElem_cons_zero, List.getElem_cons_succ, List.setIfInBounds_toArray, List.set_cons_zero, List.set_cons_succ]
  refine wpAnyH_take (i := 1) (v := ?v1) rfl (by kernel_rfl) (by kernel_rfl) (by kernel_rfl) (fun _ _ _ h => h) (Or.inl ⟨by rfl, ?hy1⟩) hS ?rest1
  case hy1 => (intro w hSw; go_simp; first | done | with_reducible rfl)
  try simp only [Act.put, List.getElem_toArray, List.getElem_cons_zero, List.getElem_cons_succ, List.setIfInBounds_toArray, List.set_cons_zero, List.set_cons_succ]
  refine wpAnyH_take (i := 2) (v := ?v2) rfl (by kernel_rfl) (by kernel_rfl) (by kernel_rfl) (fun _ _ _ h => h) (Or.inl ⟨by rfl, ?hy2⟩) hS ?rest2
  case hy2 => (intro w hSw; go_simp; first | done | with_reducible rfl)
  try simp only [Act.put, List.getElem_toArray, List.getElem_cons_zero, List.getElem_cons_succ, List.setIfInBounds_toArray, List.set_cons_zero, List.set_cons_succ]
  refine wpAnyH_take (i := 3) (v := ?v3) rfl (by kernel_rfl) (by kernel_rfl) (by kernel_rfl) (fun _ _ _ h => h) (Or.inl ⟨by rfl, ?hy3⟩) hS ?rest3
  case hy3 => (intro w hSw; go_simp; first | done | with_reducible rfl)
  try simp only [Act.put, List.getElem_toArray, List.getElem_cons_zero, List.getElem_cons_succ, List.setIfInBounds_toArray, List.set_cons_zero, List.set_cons_succ]
  refine wpAnyH_take (i := 4) (v := .agg #[.int .u8 104, .slice Q 1 qc]) rfl (by kernel_rfl) (by kernel_rfl) (by kernel_rfl) (fun _ _ _ h => h) (Or.inl ⟨by rfl, ?hy4⟩) hS ?rest4
  case hy4 => (intro w' hSw; have c0 := hSw 0 _ rfl; have c1 := hSw 1 _ rfl; go_simp; first | done | with_reducible rfl)
  try simp only [Act.put, List.getElem_toArray, List.getElem_cons_zero, List.getElem_cons_succ, List.setIfInBounds_toArray, List.set_cons_zero, List.set_cons_succ]
  refine wpAnyH_ready (rs := [5]) (by kernel_rfl) (by simp) ?_
  refine AllReadyH.cons rfl (fun K hK => ?_) AllReadyH.nil
  go_simp
  refine (number_ g hs own R Q qc h X IX.out PX.out hh hn (fun k hk => Nat.lt_of_lt_of_le (HR.out k hk) HBX.out.size)).mono ?_
  rintro e u ⟨own', rfl, iu, fu⟩
  have hSu : u.rangeAt G 0 [.int .u8 104, .slice Q 1 qc] := fun j v hj => (World.cell?_of_block (a := ⟨G, 0 + j, none⟩) (fu.block G hGX.out (fun hm => Nat.lt_irrefl _ (hGo.out G hm)))).trans (RX.out j v hj)
  have IU := Lib.hid iu
  have FU := Lib.hid (FX.out.trans fu)
  have HSU := Lib.hid hSu
  have HNX : Hid (hs.idxOf h + 1 < 4611686018427387904) := by have := List.idxOf_le_length (a := h) (l := hs); unfold Hid; omega
  obtain ⟨k, hk⟩ : ∃ k, Hid (k = hs.idxOf h + 1) := ⟨_, Lib.hid rfl⟩
  rw [← hk.out] at HNX ⊢
  clear iu fu
  go_wp2_with fail
  refine hK.out _ _ hSu ?_
  intro hS2
  clear hK K hS2 hS
  try simp only [Act.put, List.getElem_toArray, List.getElem_cons_zero, List.getElem_cons_succ, List.setIfInBounds_toArray, List.set_cons_zero, List.set_cons_succ]
  refine wpAnyH_ready (rs := [6]) (by kernel_rfl) (by simp) ?_
  refine AllReadyH.cons rfl (fun K hK => ?_) AllReadyH.nil
  go_simp
  refine (called_ Q 1 qc k u HNX.out).mono ?_
  rintro e v ⟨A, c, rfl, o, b⟩
  have hSv : v.rangeAt G 0 [.int .u8 104, .slice Q 1 qc] := range_keep HSU.out b (World.block_lt_of_cell? _ _ (HSU.out 0 _ rfl))
  have IV := Lib.hid (IU.out.below b)
  have FV := Lib.hid (FU.out.trans (Fr.below b))
  have O := Lib.hid (o.mono FU.out.size)
  clear o b
  go_wp2_with fail
  refine hK.out _ _ hSv ?_
  intro hS2
  clear hK K hS2
  try simp only [Act.put, List.getElem_toArray, List.getElem_cons_zero, List.getElem_cons_succ, List.setIfInBounds_toArray, List.set_cons_zero, List.set_cons_succ]
  have hS : v.rangeAt G 0 [.int .u8 104, .slice Q 1 qc] := hSv
  refine wpAnyH_take (i := 7) (v := ?v7) rfl (by kernel_rfl) (by kernel_rfl) (by kernel_rfl) (fun _ _ _ h => h) (Or.inl ⟨by rfl, ?hy7⟩) hS ?rest7
  case hy7 => (intro w hSw; go_simp; first | done | with_reducible rfl)
  try simp only [Act.put, List.getElem_toArray, List.getElem_cons_zero, List.getElem_cons_succ, List.setIfInBounds_toArray, List.set_cons_zero, List.set_cons_succ]
  refine wpAnyH_done (by kernel_rfl) (NoPanic.normal ?_) _
  go_wp2_with fail
  go_ret
  exact ⟨own', A, c, rfl, by rw [← hk.out]; exact O.out, IV.out, FV.out⟩
theorem neq_map {t k e : TypeId} (h : Try.prog.underlying t = some (.map k e)) (b : Nat) (w : World) : (binOp .neq t (.map (some b)) (.map none)).run Try.prog w = .ok (.bool true) w := by
  simp only [binOp]
  simp [Op.equal, Op.maxDepth, run_equalIn_map_nil w 9999 t k e (some b) h]
set_option maxRecDepth 20000 in
set_option maxHeartbeats 1000000 in
theorem made_ (g : Nat) (hs : List (List UInt8)) (own R : List Nat) (w : World) (hI : IdealAt w g hs own R) :
    Calls Try.prog 63 #[.pointer (some ⟨g, 0, none⟩)] w fun e w' => e = .returned (.bool true) ∧ w' = w := by
  obtain ⟨A, c, b, Qs, f, hv⟩ := hI
  have h1 : w.cell? ⟨g, 1, none⟩ = some (.map (some b)) := cell_blk hv.blk 1 rfl
  have h2 := neq_map Try.underlying116 b w
  clear hv
  go_enter Try.func63, Try.ntmps63
  go_wp2_with fail
  go_ret
  exact ⟨rfl, rfl⟩
set_option maxHeartbeats 1000000 in
theorem hash_ (g : Nat) (hs : List (List UInt8)) (own R : List Nat) (A : Option Addr) (n c : Nat) (h : List UInt8) (w : World) (hI : IdealAt w g hs own R) (hr : Rd w w.heap.size 1 A n (h.map B8)) (hnc : n ≤ c) (hh : n ≤ 1000000)
    (hn : hs.length ≤ 1000000) (hR : ∀ k, k ∈ R → k < w.heap.size) :
    Calls Try.prog 100 #[.pointer (some ⟨g, 0, none⟩), .slice A n c] w fun e w' => ∃ own' A' c', e = .returned (.slice A' 32 c') ∧ OwnS w' w.heap.size A' 32 c' ((hname (hs.idxOf h + 1)).map B8) ∧ IdealAt w' g (note hs h) own' R ∧ Fr own w w' own' := by
  have hl : h.length = n := by simpa using hr.len
  obtain ⟨Y, hY⟩ : ∃ Y, Hid (Y = w.alloc (.cells #[.slice A n c] 38)) := ⟨_, Lib.hid rfl⟩
  have HB0 : Hid (Below w.heap.size w Y) := by rw [hY.out]; exact (Below.refl _ _).alloc (Nat.le_refl _) _
  have hsY : Y.heap.size = w.heap.size + 1 := by rw [hY.out]; exact szAlloc _ _
  have IY := Lib.hid (hI.below HB0.out)
  have hP : Hid (RdL Y Y.heap.size (some ⟨w.heap.size, 0, none⟩) 1 [h]) := by
    refine ⟨rfl, fun i l hl' => ?_⟩
    rcases i with _ | i
    · simp at hl'
      subst hl'
      refine ⟨w.heap.size, 0, A, c, rfl, by omega, ?_, ?_, by omega⟩
      · rw [hY.out, hl]; exact cell_blk (heap_alloc_new w _) 0 rfl
      · rw [hl]; exact hr.at0 HB0.out (by omega)
    · simp at hl'
  have HR : Hid (∀ k, k ∈ R → k < Y.heap.size) := fun k hk => Nat.lt_of_lt_of_le (hR k hk) HB0.out.size
  have hlb : h.length ≤ 1000000 := by omega
  have HL := Lib.hid hl
  have HI := Lib.hid hI
  clear hsY hR hr hl hI
  go_enter Try.func100, Try.ntmps100
  go_wp2_with fail
  refine (made_ g hs own R w HI.out).mono ?_
  rintro e w1 ⟨rfl, rfl⟩
  go_wp2_with fail
  rw [← hY.out]
  refine (name_ g hs own R _ 1 h Y IY.out hP.out hlb hn HR.out).mono ?_
  rintro e u ⟨own', A', c', rfl, o, iu, fu⟩
  have O := Lib.hid (o.mono HB0.out.size)
  have IU := Lib.hid iu
  have FU : Hid (Fr own _ u own') := (Fr.below HB0.out).trans fu
  clear o iu fu
  go_wp2_with fail
  go_ret
  exact ⟨own', A', c', rfl, O.out, IU.out, FU.out⟩
theorem ideal_new (w : World) (T : TypeId) : IdealAt ((w.alloc (.map #[] 0)).alloc (.cells #[.slice none 0 0, .map (some w.heap.size), .int .i64 0] 120)) (w.heap.size + 1) [] [w.heap.size + 1, w.heap.size] [] := by
  have h1 : (w.alloc (.map #[] 0)).heap.size = w.heap.size + 1 := szAlloc _ _
  refine ⟨none, 0, w.heap.size, [], fun _ => .int .i64 0, ⟨?_, ?_, fun l => by simp [numb], World.ownsRow_nil _ _ _ _, rfl, fun i q h hq => by simp at hq, by simp, by simp, fun t ht => (by cases ht), fun k hk => ?_⟩⟩
  · have h := heap_alloc_new (w.alloc (.map #[] 0)) (.cells #[.slice none 0 0, .map (some w.heap.size), .int .i64 0] 120)
    rw [h1] at h
    exact h
  · exact (MapV.made Try.prog 9 w (.int .i64 0)).same (heap_alloc_old _ _ (by rw [szAlloc]; exact Nat.lt_succ_self _))
  · rw [szAlloc, h1]
    simp at hk
    omega
set_option maxHeartbeats 1000000 in
theorem newIdeal_ (w : World) : Calls Try.prog 25 #[] w fun e w' => ∃ g own, e = .returned (.pointer (some ⟨g, 0, none⟩)) ∧ IdealAt w' g [] own [] ∧ (∀ k, k ∈ own → w.heap.size ≤ k) ∧ Below w.heap.size w w' := by
  have hmm := @run_makeMap Try.prog
  have HI := Lib.hid (ideal_new w 0)
  have HB : Hid (Below w.heap.size w ((w.alloc (.map #[] 0)).alloc (.cells #[.slice none 0 0, .map (some w.heap.size), .int .i64 0] 120))) := ((Below.refl _ _).alloc (Nat.le_refl _) _).alloc (by rw [szAlloc]; omega) _
  go_enter Try.func25, Try.ntmps25
  go_wp2_with fail
  go_ret
  refine ⟨w.heap.size + 1, [w.heap.size + 1, w.heap.size], ?_, HI.out, fun k hk => ?_, HB.out⟩
  · first | rfl | simp [szAlloc]
  · simp at hk; omega
set_option maxHeartbeats 1000000 in
theorem len_ (g : Nat) (hs : List (List UInt8)) (own R : List Nat) (w : World) (hI : IdealAt w g hs own R) :
    Calls Try.prog 45 #[.pointer (some ⟨g, 0, none⟩)] w fun e w' => e = .returned (.int .i64 hs.length) ∧ w' = w := by
  have HI := Lib.hid hI
  obtain ⟨A, c, b, Qs, f, hv⟩ := hI
  have h0 : w.cell? ⟨g, 0, none⟩ = some (.slice A hs.length c) := cell_blk hv.blk 0 rfl
  clear hv
  go_enter Try.func45, Try.ntmps45
  go_wp2_with fail
  refine (made_ g hs own R w HI.out).mono ?_
  rintro e w1 ⟨rfl, rfl⟩
  go_wp2_with fail
  go_ret
  exact ⟨rfl, rfl⟩
end Go.Proofs.Ytabcbpcfleociaa
