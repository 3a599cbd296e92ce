/- The program's Expand, Derive. (Printed by gen_hkf.py.) -/
import Derived.Test.YtclecmpmohoamaaDoorHkaD
namespace Go.Proofs.YtclecmpmohoamaaDoor
open Go.RowKit
attribute [local go_sem ↓] Go.wp_at_zero Go.wp_at_succ
set_option linter.unusedSimpArgs false
set_option linter.unusedVariables false
theorem rdl_lit' (w : World) (vs : List (Option Addr × Nat × Nat × List UInt8)) (t : TypeId) (h : ∀ (i : Nat) (A : Option Addr) (m c : Nat) (l : List UInt8), vs[i]? = some (A, m, c, l) → Rd w w.heap.size 1 A m (l.map B8) ∧ m ≤ c) (n : Nat) (hn : vs.length = n) :
    RdL (w.alloc (.cells (vs.map fun v => Value.slice v.1 v.2.1 v.2.2.1).toArray t)) (w.alloc (.cells (vs.map fun v => Value.slice v.1 v.2.1 v.2.2.1).toArray t)).heap.size (some ⟨w.heap.size, 0, none⟩) n (vs.map fun v => v.2.2.2) := by
  refine ⟨by simpa using hn, fun i l hl => ?_⟩
  rw [List.getElem?_map] at hl
  obtain ⟨⟨A, m, c, l'⟩, hv, rfl⟩ := Option.map_eq_some_iff.1 hl
  obtain ⟨h1, h2⟩ := h i A m c l' hv
  have hm : l'.length = m := by simpa using h1.len
  subst hm
  refine ⟨w.heap.size, 0, A, c, rfl, by simp, ?_, h1.to ((Below.refl _ _).alloc (Nat.le_refl _) _), h2⟩
  rw [Nat.zero_add]
  refine cell_blk (heap_alloc_new w _) i ?_
  simp [hv]
/-- What Expand gives back. -/
def RetX (key info : List UInt8) (k : Nat) (w : World) (e : Ending) (w' : World) : Prop :=
  ∃ A c, e = .returned (.tuple #[.slice A k c, .int .i64 0]) ∧ Rd w' w'.heap.size 1 A k ((hexp key info k).map B8) ∧ k ≤ c ∧ Below w.heap.size w w'
def RetN (w : World) (e : Ending) (w' : World) : Prop := e = .returned (.tuple #[.slice none 0 0, .int .i64 2]) ∧ Below w.heap.size w w'
theorem pExpand_out (A : Option Addr) (n c : Nat) (A' : Option Addr) (n' c' : Nat) (x : Int) (w : World) (hx : x < 0 ∨ 8160 < x) :
    Calls Tryd.prog 31 #[.slice A n c, .slice A' n' c', .int .i64 x] w (RetN w) := by
  by_cases h0 : x < 0
  · go_enter Tryd.func31, Tryd.ntmps31
    go_wp2_with fail
    go_ret2
    exact ⟨rfl, Below.refl _ _⟩
  · have h1 : 8160 < x := by omega
    go_enter Tryd.func31, Tryd.ntmps31
    go_wp2_with fail
    go_ret2
    exact ⟨rfl, Below.refl _ _⟩
theorem rExpand_out (A : Option Addr) (n c : Nat) (A' : Option Addr) (n' c' : Nat) (x : Int) (w : World) (hx : x < 0 ∨ 8160 < x) :
    Calls Tryd.prog 32 #[.slice A n c, .slice A' n' c', .int .i64 x] w (RetN w) := by
  by_cases h0 : x < 0
  · go_enter Tryd.func32, Tryd.ntmps32
    go_wp2_with fail
    go_ret2
    exact ⟨rfl, Below.refl _ _⟩
  · have h1 : 8160 < x := by omega
    go_enter Tryd.func32, Tryd.ntmps32
    go_wp2_with fail
    go_ret2
    exact ⟨rfl, Below.refl _ _⟩
set_option maxRecDepth 20000 in
set_option maxHeartbeats 8000000 in
theorem pExpand_in (A : Option Addr) (n c : Nat) (key : List UInt8) (A' : Option Addr) (n' c' : Nat) (info : List UInt8) (k : Nat) (w : World) (hr : Rd w w.heap.size 1 A n (key.map B8)) (hr' : Rd w w.heap.size 1 A' n' (info.map B8)) (hc' : n' ≤ c') (hn : n ≤ 900000) (hn' : n' ≤ 800000) (hk : k ≤ 8160) (hL : LayS w) :
    Calls Tryd.prog 31 #[.slice A n c, .slice A' n' c', .int .i64 k] w (RetX key info k w) := by
  have hil : info.length = n' := by simpa using hr'.len
  have h44 := hL.size
  have HL0 := Lib.hid hL
  have HR := Lib.hid hr
  have HR' := Lib.hid hr'
  clear hL hr hr'
  have hk0 : ¬ (k : Int) < 0 := by omega
  have hk1 : ¬ (8160 : Int) < k := by omega
  obtain ⟨q, hq⟩ : ∃ q : Nat, Hid (q = (k + 31) / 32) := ⟨_, Lib.hid rfl⟩
  obtain ⟨k31, hk31⟩ : ∃ m : Nat, Hid (m = k + 31) := ⟨_, Lib.hid rfl⟩
  have f1 : IntKind.i64.wrap ((k : Int) + 31) = (k31 : Int) := by rw [IntWalk.i64_in _ (by omega), hk31.out]; omega
  have f1' : (k : Int) + 31 = (k31 : Int) := by rw [hk31.out]; omega
  have f2 : (k31 : Int) / 32 = (q : Int) := by rw [hq.out, hk31.out]; omega
  have f3 : (k31 : Int).tdiv 32 = (q : Int) := by rw [← f2, Int.tdiv_eq_ediv_of_nonneg (by omega)]
  have f4 : IntKind.i64.wrap (q : Int) = (q : Int) := IntWalk.i64_in _ (by have := hq.out; omega)
  have hqb : q ≤ 300 := by have := hq.out; omega
  have hqk : k ≤ 32 * q := by have := hq.out; omega
  have hT0 : Hid (Two w w.heap.size none 0 0 (hout key info 0) none 0 0 (htk key info 0)) := by
    refine ⟨OwnS.nil _ _ _, OwnS.nil _ _ _, (fun _ _ e => by cases e), (fun _ _ e => by cases e), (fun _ _ _ _ e => by cases e)⟩
  go_enter Tryd.func31, Tryd.ntmps31
  go_wp2_with fail
  go_loopw [8, 9, 10, 20] (fun x8 x9 _ x20 wr => ∃ (i mo : Nat) (Ao : Option Addr) (co ml : Nat) (Al : Option Addr) (cl : Nat), x8 = .slice Ao mo co ∧ x9 = .slice Al ml cl ∧ x20 = .int .i64 i ∧ i ≤ q ∧ Hid (mo = 32 * i) ∧ Hid (Two wr w.heap.size Ao mo co (hout key info i) Al ml cl (htk key info i)) ∧ Hid (Below w.heap.size w wr)) (fun _ _ _ x20 _ => q - (intOf x20).toNat)
  case atStart => exact ⟨0, 0, none, 0, 0, none, 0, rfl, rfl, rfl, by omega, rfl, hT0, Below.refl _ _⟩
  case round =>
    obtain ⟨i, mo, Ao, co, ml, Al, cl, rfl, rfl, rfl, hi, hmo, hT, hb⟩ := hrel
    have hsr := hb.out.size
    by_cases hiq : i < q
    · have hiq' : (i : Int) < q := by omega
      obtain ⟨i1, hi1⟩ : ∃ m : Nat, Hid (m = i + 1) := ⟨_, Lib.hid rfl⟩
      have fi : IntKind.i64.wrap ((i : Int) + 1) = (i1 : Int) := by rw [IntWalk.i64_in _ (by omega), hi1.out]; omega
      have fi' : (i : Int) + 1 = (i1 : Int) := by rw [hi1.out]; omega
      obtain ⟨z, hz⟩ : ∃ z : UInt8, Hid (UInt8.ofNat (i + 1) = z) := ⟨_, Lib.hid rfl⟩
      have fz : IntKind.u8.wrap (i1 : Int) = (z.toNat : Int) := by rw [IntKind.wrap_u8', hi1.out, ← hz.out, UInt8.toNat_ofNat']; omega
      have hmob : mo ≤ 9600 := by have := hmo.out; omega
      have hml : Hid (ml = (htk key info i).length) := by have := hT.out.b.len; rw [List.length_map] at this; exact this.symm
      have hml2 : ml ≤ 32 := by rw [hml.out]; exact htk_le _ _ _
      obtain ⟨W1, hW1⟩ : ∃ W1, Hid (W1 = wr.alloc (.cells #[.int .u8 (z.toNat : Int)] 5)) := ⟨_, Lib.hid rfl⟩
      obtain ⟨W2, hW2⟩ : ∃ W2, Hid (W2 = W1.alloc (.cells #[.slice Al ml cl, .slice A' n' c', .slice (some ⟨wr.heap.size, 0, none⟩) 1 1] 22)) := ⟨_, Lib.hid rfl⟩
      have hs1 : W1.heap.size = wr.heap.size + 1 := by rw [hW1.out]; exact szAlloc _ _
      have hs2 : W2.heap.size = W1.heap.size + 1 := by rw [hW2.out]; exact szAlloc _ _
      have b1 : Below wr.heap.size wr W1 := by rw [hW1.out]; exact (Below.refl _ _).alloc (Nat.le_refl _) _
      have b2 : Below W1.heap.size W1 W2 := by rw [hW2.out]; exact (Below.refl _ _).alloc (Nat.le_refl _) _
      have b12 : Below wr.heap.size wr W2 := b1.trans (b2.mono (by omega))
      have hB2 : Hid (Below w.heap.size w W2) := hb.out.trans (b12.mono hsr)
      have hlz : Rd W1 W1.heap.size 1 (some ⟨wr.heap.size, 0, none⟩) 1 (([z] : List UInt8).map B8) := by rw [hW1.out]; exact one_lit wr z
      have HP : Hid (RdL W2 W2.heap.size (some ⟨W1.heap.size, 0, none⟩) 3 [htk key info i, info, [z]]) := by
        rw [hW2.out]
        refine rdl_lit' W1 [(Al, ml, cl, htk key info i), (A', n', c', info), (some ⟨wr.heap.size, 0, none⟩, 1, 1, [z])] 22 ?_ 3 rfl
        intro i' A0 m0 c0 l0 h0
        rcases i' with _ | _ | _ | i'
        · simp at h0; obtain ⟨rfl, rfl, rfl, rfl⟩ := h0; exact ⟨hT.out.b.rd.to b1, hT.out.b.le⟩
        · simp at h0; obtain ⟨rfl, rfl, rfl, rfl⟩ := h0; exact ⟨(HR'.out.to hb.out).to b1, hc'⟩
        · simp at h0; obtain ⟨rfl, rfl, rfl, rfl⟩ := h0; exact ⟨hlz, Nat.le_refl _⟩
        · simp at h0
      have hfl : Hid (([htk key info i, info, [z]] : List (List UInt8)).flatten = htk key info i ++ info ++ [z]) := by unfold Hid; simp
      have hflb : ([htk key info i, info, [z]] : List (List UInt8)).flatten.length ≤ 900000 := by
        rw [hfl.out, List.length_append, List.length_append, ← hml.out, hil]; simp; omega
      have hnx : Hid (hmac key (htk key info i ++ info ++ [z]) = htk key info i1) := by unfold Hid; rw [hi1.out, htk, hz.out]
      have hno : Hid (hout key info i ++ htk key info i1 = hout key info i1) := by unfold Hid; rw [hi1.out, hout]
      have HT2 := Lib.hid (hT.out.to b12)
      have hq0 := Lib.hid (hT.out.al)
      have HRk := Lib.hid (HR.out.to hB2.out)
      have hs12 : Hid (W2.heap.size = wr.heap.size + 2) := by unfold Hid; omega
      have hs1' := Lib.hid hs1
      clear hlz b1 b2 hs1 hs2 b12
      go_wp2_with fail
      rw [← hW1.out, ← hs1'.out, ← hW2.out]
      refine (mac_ A n c key (some ⟨W1.heap.size, 0, none⟩) 3 3 [htk key info i, info, [z]] W2 HRk.out (by omega) HP.out (by decide) hflb (HL0.out.to h44 hB2.out)).mono ?_
      rintro e w3 ⟨A3, c3, rfl, h3, hb3⟩
      rw [hfl.out, hnx.out] at h3
      have T3 : Hid (Two w3 w.heap.size Ao mo co (hout key info i) A3 32 c3 (htk key info i1)) := by
        obtain ⟨g3, hg3, hg3a, hg3b⟩ := own_addr h3 (by decide)
        have hsz := hs12.out
        refine ⟨HT2.out.a.to hb3, (OwnS.of_own h3).mono (by omega), fun g o e => Nat.lt_of_lt_of_le (HT2.out.al g o e) hb3.size, ?_, ?_⟩
        · intro g o e; rw [hg3] at e; injection e with e; injection e with e1; omega
        · intro g o g' o' e e'
          have h1 := hq0.out g o e
          rw [hg3] at e'; injection e' with e'; injection e' with e1
          omega
      have hB3 : Hid (Below w.heap.size w w3) := hB2.out.trans (hb3.mono hB2.out.size)
      have hoL := Lib.hid (oneB (htk key info i1))
      have hs3 := hB3.out.size
      have hrd3 := Lib.hid T3.out.b.rd
      obtain ⟨m5, hm5⟩ : ∃ m : Nat, Hid (m = mo + 32) := ⟨_, Lib.hid rfl⟩
      clear h3
      go_wp2_with (at_builtin
                   refine wpList_apT rfl (.tmp 32) (.tmp 33) 22 rfl w.heap.size 5 1 (.int .u8 0) Tryd.underlying22 infoB rfl Ao mo co _ rfl T3.out.a _ A3 32 c3 _ rfl hrd3.out hoL.out (by simp only [maxLen]; omega) (by omega) hs3 ?_
                   intro A5 c5 w5 o5 b5 _ k5 a5
                   rw [← List.map_append, hno.out] at o5
                   have T5 := T3.out.app o5 b5.size k5 a5
                   rw [← hm5.out] at T5 ⊢
                   have HT5 := Lib.hid T5
                   have hB5 := Lib.hid (hB3.out.trans b5)
                   clear o5 b5 k5 a5 T5)
      go_roundw
      case rel => exact ⟨i1, m5, A5, c5, 32, A3, c3, rfl, rfl, rfl, by have := hi1.out; omega, by unfold Hid; rw [hm5.out, hmo.out, hi1.out]; omega, HT5, hB5⟩
      case measure => simp only [intOf]; rw [hi1.out]; omega
    · have hiS : Hid (i = q) := (by omega : i = q)
      have hiq' : ¬ (i : Int) < q := by omega
      have hmk : k ≤ mo := by rw [hmo.out, hiS.out]; exact hqk
      have hkc : (k : Int) ≤ co := by have := hT.out.a.le; omega
      have hkc0 : (0 : Int) ≤ k := by omega
      have hfin : Hid (Rd wr wr.heap.size 1 Ao k ((hexp key info k).map B8)) := by
        have h1 := hT.out.a.rd.take (k := k) hmk
        unfold Hid hexp
        rw [List.map_take, ← hq.out, ← hiS.out]
        exact h1
      go_wp2_with fail
      go_ret2
      exact ⟨_, _, rfl, hfin.out, Nat.le_refl _, hb.out⟩
end Go.Proofs.YtclecmpmohoamaaDoor
