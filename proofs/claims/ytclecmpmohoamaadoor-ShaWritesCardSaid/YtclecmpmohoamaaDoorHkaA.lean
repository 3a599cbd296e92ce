/- The program's whole, mac, Mac, Extract. (Printed by gen_hka.py.) -/
import Derived.Test.YtclecmpmohoamaaDoorHkaP
import Derived.Test.YtclecmpmohoamaaDoorShaU
import Derived.Laws.BitsAllLaws
namespace Go.Proofs.YtclecmpmohoamaaDoor
open Go.RowKit
attribute [local go_sem ↓] Go.wp_at_zero Go.wp_at_succ
set_option linter.unusedSimpArgs false
set_option linter.unusedVariables false
/-- A sum of one's own comes back. -/
def Ret32 (l : List UInt8) (w : World) (e : Ending) (w' : World) : Prop :=
  ∃ A' c', e = .returned (.slice A' 32 c') ∧ w'.ownsRow w.heap.size 5 1 (.slice A' 32 c') 32 (l.map B8) ∧ Below w.heap.size w w'
theorem LayS.go' {w w' : World} (h : LayS w) (hb : Below w.heap.size w w') : LayS w' := h.to h.size hb
/-- The first i bytes are turned. -/
def hx (y : UInt8) (l : List UInt8) (i : Nat) : List UInt8 := hxor y (l.take i) ++ l.drop i
theorem hx_zero (y : UInt8) (l : List UInt8) : hx y l 0 = l := by simp [hx, hxor]
theorem hx_end (y : UInt8) (l : List UInt8) (n : Nat) (h : l.length = n) : hx y l n = hxor y l := by
  unfold hx; rw [List.take_of_length_le (by omega), List.drop_eq_nil_of_le (by omega), List.append_nil]
theorem hx_len (y : UInt8) (l : List UInt8) (i : Nat) : (hx y l i).length = l.length := by
  simp [hx, hxor]; omega
theorem hx_at (y : UInt8) (l : List UInt8) (i : Nat) (hi : i < l.length) : (hx y l i)[i]? = some l[i] := by
  unfold hx
  rw [List.getElem?_append_right (by simp [hxor]; omega)]
  simp [hxor, Nat.min_eq_left (Nat.le_of_lt hi)]
theorem hx_set (y : UInt8) (l : List UInt8) (i : Nat) (hi : i < l.length) : (hx y l i).set i (l[i] ^^^ y) = hx y l (i + 1) := by
  have e1 : hxor y (l.take (i + 1)) = hxor y (l.take i) ++ [l[i] ^^^ y] := by
    unfold hxor
    rw [List.take_add_one, List.getElem?_eq_getElem hi, List.map_append]
    rfl
  unfold hx
  rw [e1, List.set_append_right _ _ (by simp [hxor]; omega), List.append_assoc]
  congr 1
  simp only [hxor, List.length_map, List.length_take, Nat.min_eq_left (Nat.le_of_lt hi), Nat.sub_self]
  rw [List.drop_eq_getElem_cons hi, List.set_cons_zero]
  rfl
theorem cells_whole (l : List UInt8) (h : l.length ≤ 64) : (l.map B8).take 64 ++ ((madeCells #[Value.int .u8 0] (64 * 1)).toList).drop l.length = (l ++ List.replicate (64 - l.length) 0).map B8 := by
  rw [Nat.mul_one, toList_madeCells_one, List.take_of_length_le (by simp; omega), List.drop_replicate]
  simp only [List.map_append, List.map_replicate]
  rfl
set_option maxRecDepth 20000 in
set_option maxHeartbeats 4000000 in
theorem whole_ (A : Option Addr) (n c : Nat) (key : List UInt8) (x : Int) (y : UInt8) (w : World) (hx0 : x = (y.toNat : Int)) (hr : Rd w w.heap.size 1 A n (key.map B8)) (hn : n ≤ 1000000) (hL : LayS w) :
    Calls Tryd.prog 57 #[.slice A n c, .int .u8 x] w fun e w' => ∃ A' c', e = .returned (.slice A' 64 c') ∧ w'.ownsRow w.heap.size 5 1 (.slice A' 64 c') 64 ((hxor y (hk64 key)).map B8) ∧ Below w.heap.size w w' := by
  subst hx0
  obtain rfl : key.length = n := by simpa using hr.len
  obtain ⟨i0, hi0, hz0, hz1, hz2⟩ := info_parts info8
  have Hr := Lib.hid hr
  have HL := Lib.hid hL
  have hyb := y.toNat_lt
  clear hr hL
  by_cases h64 : 64 < key.length
  · have h64' : (64 : Int) < key.length := by omega
    go_enter Tryd.func57, Tryd.ntmps57
    go_wp2_with fail
    refine (sum256_ A _ c key w Hr.out hn HL.out HL.out.size).mono ?_
    rintro e wk ⟨Ak, ck, rfl, hk, hbk⟩
    have hrk := Lib.hid (Rd.of_own hk)
    obtain ⟨lk, hlk⟩ : ∃ l, Hid (l = sumOf K32 F32 key) := ⟨_, Lib.hid rfl⟩
    rw [← hlk.out] at hrk
    obtain ⟨nk, hnk⟩ : ∃ n : Nat, Hid (n = 32) := ⟨32, Lib.hid rfl⟩
    have hlen : Hid (lk.length = nk) := by unfold Hid; rw [hlk.out, sumOf_len32, hnk.out]
    have hnkb : nk ≤ 64 := by rw [hnk.out]; decide
    have hkey : Hid (hkey key = lk) := by unfold Hid hkey; rw [if_pos h64, hlk.out]
    rw [← hnk.out] at hrk
    have Hbk := Lib.hid hbk
    clear hk hbk
    rw [show (32 : Nat) = nk from hnk.out.symm]
    go_wp2_with (first
      | (at_make
         refine wpList_make_full _ rfl (.const (.int .i64 64)) (.const (.int .i64 64)) 22 rfl wk.heap.size 5 i0 _ 1 Tryd.underlying22 hi0 hz0 hz1 _ _ _ _ 64 rfl rfl rfl rfl (by rw [hz2]; omega) (by simp only [maxLen]; omega) (Nat.le_refl _) ?_
         intro w1 h1 hg1
         have hb1 : Below wk.heap.size wk w1 := (Below.refl _ _).grown hg1 (Nat.le_refl _) (fun k hk => by cases hk)
         have H1 := Lib.hid h1
         have Hb1 := Lib.hid hb1
         clear h1 hb1)
      | (refine wpList_cpy rfl (.tmp 13) (.tmp 14) 22 22 rfl wk.heap.size 5 Tryd.underlying22 (by rw [hi0]; exact congrArg some hz1) wk.heap.size 64 64 _ rfl H1.out wk.heap.size Ak nk ck (lk.map B8) rfl (hrk.out.below Hb1.out) (B8_one _) ?_
         intro w2 h2 hg2
         have hb2 : Below wk.heap.size wk w2 := Hb1.out.grown hg2 Hb1.out.size (fun k hk => by cases hk; exact Nat.le_refl _)
         have Hb2 := Lib.hid hb2
         have H2 : Hid (w2.ownsRow wk.heap.size 5 1 (.slice (some ⟨wk.heap.size, 0, none⟩) 64 64) 64 ((hk64 key).map B8)) := by
           unfold Hid hk64
           rw [hkey.out, ← cells_whole lk (by rw [hlen.out]; exact hnkb)]
           rw [← hlen.out] at h2
           exact h2
         clear h2 hb2))
    obtain ⟨gb, hgb⟩ : ∃ g, Hid (g = wk.heap.size) := ⟨_, Lib.hid rfl⟩
    rw [← hgb.out] at H2 ⊢
    have H3 : Hid (w2.ownsRow gb 5 1 (.slice (some ⟨gb, 0, none⟩) 64 64) 64 ((hx y (hk64 key) 0).map B8)) := by rw [hx_zero]; exact H2
    have Hb3 : Hid (Below gb wk w2) := by rw [hgb.out]; exact Hb2
    clear H1 Hb1 H2 Hb2
    go_loopw [6, 18] (fun _ x18 wr => ∃ i : Nat, x18 = .int .i64 i ∧ i ≤ 64 ∧ Hid (wr.ownsRow gb 5 1 (.slice (some ⟨gb, 0, none⟩) 64 64) 64 ((hx y (hk64 key) i).map B8)) ∧ Hid (Below gb wk wr)) (fun _ x18 _ => 64 - (intOf x18).toNat)
    case atStart => exact ⟨0, rfl, by omega, H3, Hb3⟩
    case round =>
      obtain ⟨i, rfl, hi, ho, hb⟩ := hrel
      by_cases hi64 : i < 64
      · have hi1 : (i : Int) < 64 := by omega
        have hi0' : (0 : Int) ≤ (i : Int) := by omega
        have hil : i < (hk64 key).length := by rw [hk64_len]; exact hi64
        obtain ⟨a, ha⟩ : ∃ a, Hid ((hk64 key)[i]'hil = a) := ⟨_, Lib.hid rfl⟩
        obtain ⟨u, hu, hc, hf⟩ := own_cell ho.out i hi64
        rw [List.getElem?_map, hx_at _ _ _ hil, ha.out] at hu
        obtain rfl : B8 a = u := Option.some.inj hu
        have hca : wr.cell? ⟨gb, i, none⟩ = some (.int .u8 (a.toNat : Int)) := hc
        obtain ⟨z, hz⟩ : ∃ z, Hid (a ^^^ y = z) := ⟨_, Lib.hid rfl⟩
        have fz : bits .xor .u8 (a.toNat : Int) (y.toNat : Int) = (z.toNat : Int) := by rw [u8_xor_nat _ _ a.toNat_lt hyb, ← hz.out, UInt8.toNat_xor]
        have hs : Hid ((wr.setCell ⟨gb, i, none⟩ (.int .u8 (z.toNat : Int))).ownsRow gb 5 1 (.slice (some ⟨gb, 0, none⟩) 64 64) 64 ((hx y (hk64 key) (i + 1)).map B8)) := by
          have h1 := (ho.out.stored i (B8 z)).1
          rw [← List.map_set, ← hz.out, ← ha.out, hx_set _ _ _ hil, ha.out, hz.out] at h1
          exact h1
        have e8 : IntKind.i64.wrap ((i : Int) + 1) = ((i + 1 : Nat) : Int) := by rw [IntWalk.i64_in _ (by omega)]; omega
        clear hc hu
        go_wp2_with fail
        go_roundw
        case rel => exact ⟨i + 1, by go_num, by omega, hs, hb.out.setCell (Nat.le_refl _) _⟩
        case measure => simp only [intOf]; omega
      · have hiS : Hid (i = 64) := (by omega : i = 64)
        have hi1 : ¬ (i : Int) < 64 := by omega
        rw [hiS.out, hx_end _ _ _ (hk64_len key)] at ho
        go_wp2_with fail
        go_ret
        have hle := Hbk.out.size
        have hb' : Below wk.heap.size wk wr := by have := hb.out; rw [hgb.out] at this; exact this
        have ho' := own_mono ho.out (show wk.heap.size ≤ gb by rw [hgb.out]; exact Nat.le_refl _)
        first
          | exact ⟨_, 64, rfl, ho', hb'⟩
          | exact ⟨_, 64, rfl, own_mono ho' hle, Hbk.out.trans (hb'.mono hle)⟩
  · have h64' : ¬ (64 : Int) < key.length := by omega
    obtain ⟨wk, hwk⟩ : ∃ wk, Hid (wk = w) := ⟨_, Lib.hid rfl⟩
    obtain ⟨Ak, ck, lk, nk, hall⟩ : ∃ Ak ck lk nk, Hid (Ak = A ∧ ck = c ∧ lk = key ∧ nk = key.length) := ⟨_, _, _, _, ⟨rfl, rfl, rfl, rfl⟩⟩
    have hrk : Hid (Rd wk wk.heap.size 1 Ak nk (lk.map B8)) := by obtain ⟨rfl, rfl, rfl, rfl⟩ := hall.out; rw [hwk.out]; exact Hr
    have hlen : Hid (lk.length = nk) := by obtain ⟨rfl, rfl, rfl, rfl⟩ := hall.out; exact rfl
    have hnkb : nk ≤ 64 := by obtain ⟨rfl, rfl, rfl, rfl⟩ := hall.out; omega
    have hkey : Hid (hkey key = lk) := by obtain ⟨rfl, rfl, rfl, rfl⟩ := hall.out; unfold Hid hkey; rw [if_neg h64]
    have Hbk : Hid (Below w.heap.size w wk) := by rw [hwk.out]; exact Below.refl _ _
    go_enter Tryd.func57, Tryd.ntmps57
    have ha := hall.out
    have h64k : ¬ (64 : Int) < (nk : Int) := by omega
    rw [← ha.1, ← ha.2.1, ← ha.2.2.2, ← hwk.out]
    clear ha
    go_wp2_with (first
      | (at_make
         refine wpList_make_full _ rfl (.const (.int .i64 64)) (.const (.int .i64 64)) 22 rfl wk.heap.size 5 i0 _ 1 Tryd.underlying22 hi0 hz0 hz1 _ _ _ _ 64 rfl rfl rfl rfl (by rw [hz2]; omega) (by simp only [maxLen]; omega) (Nat.le_refl _) ?_
         intro w1 h1 hg1
         have hb1 : Below wk.heap.size wk w1 := (Below.refl _ _).grown hg1 (Nat.le_refl _) (fun k hk => by cases hk)
         have H1 := Lib.hid h1
         have Hb1 := Lib.hid hb1
         clear h1 hb1)
      | (refine wpList_cpy rfl (.tmp 13) (.tmp 14) 22 22 rfl wk.heap.size 5 Tryd.underlying22 (by rw [hi0]; exact congrArg some hz1) wk.heap.size 64 64 _ rfl H1.out wk.heap.size Ak nk ck (lk.map B8) rfl (hrk.out.below Hb1.out) (B8_one _) ?_
         intro w2 h2 hg2
         have hb2 : Below wk.heap.size wk w2 := Hb1.out.grown hg2 Hb1.out.size (fun k hk => by cases hk; exact Nat.le_refl _)
         have Hb2 := Lib.hid hb2
         have H2 : Hid (w2.ownsRow wk.heap.size 5 1 (.slice (some ⟨wk.heap.size, 0, none⟩) 64 64) 64 ((hk64 key).map B8)) := by
           unfold Hid hk64
           rw [hkey.out, ← cells_whole lk (by rw [hlen.out]; exact hnkb)]
           rw [← hlen.out] at h2
           exact h2
         clear h2 hb2))
    obtain ⟨gb, hgb⟩ : ∃ g, Hid (g = wk.heap.size) := ⟨_, Lib.hid rfl⟩
    rw [← hgb.out] at H2 ⊢
    have H3 : Hid (w2.ownsRow gb 5 1 (.slice (some ⟨gb, 0, none⟩) 64 64) 64 ((hx y (hk64 key) 0).map B8)) := by rw [hx_zero]; exact H2
    have Hb3 : Hid (Below gb wk w2) := by rw [hgb.out]; exact Hb2
    clear H1 Hb1 H2 Hb2
    go_loopw [6, 18] (fun _ x18 wr => ∃ i : Nat, x18 = .int .i64 i ∧ i ≤ 64 ∧ Hid (wr.ownsRow gb 5 1 (.slice (some ⟨gb, 0, none⟩) 64 64) 64 ((hx y (hk64 key) i).map B8)) ∧ Hid (Below gb wk wr)) (fun _ x18 _ => 64 - (intOf x18).toNat)
    case atStart => exact ⟨0, rfl, by omega, H3, Hb3⟩
    case round =>
      obtain ⟨i, rfl, hi, ho, hb⟩ := hrel
      by_cases hi64 : i < 64
      · have hi1 : (i : Int) < 64 := by omega
        have hi0' : (0 : Int) ≤ (i : Int) := by omega
        have hil : i < (hk64 key).length := by rw [hk64_len]; exact hi64
        obtain ⟨a, ha⟩ : ∃ a, Hid ((hk64 key)[i]'hil = a) := ⟨_, Lib.hid rfl⟩
        obtain ⟨u, hu, hc, hf⟩ := own_cell ho.out i hi64
        rw [List.getElem?_map, hx_at _ _ _ hil, ha.out] at hu
        obtain rfl : B8 a = u := Option.some.inj hu
        have hca : wr.cell? ⟨gb, i, none⟩ = some (.int .u8 (a.toNat : Int)) := hc
        obtain ⟨z, hz⟩ : ∃ z, Hid (a ^^^ y = z) := ⟨_, Lib.hid rfl⟩
        have fz : bits .xor .u8 (a.toNat : Int) (y.toNat : Int) = (z.toNat : Int) := by rw [u8_xor_nat _ _ a.toNat_lt hyb, ← hz.out, UInt8.toNat_xor]
        have hs : Hid ((wr.setCell ⟨gb, i, none⟩ (.int .u8 (z.toNat : Int))).ownsRow gb 5 1 (.slice (some ⟨gb, 0, none⟩) 64 64) 64 ((hx y (hk64 key) (i + 1)).map B8)) := by
          have h1 := (ho.out.stored i (B8 z)).1
          rw [← List.map_set, ← hz.out, ← ha.out, hx_set _ _ _ hil, ha.out, hz.out] at h1
          exact h1
        have e8 : IntKind.i64.wrap ((i : Int) + 1) = ((i + 1 : Nat) : Int) := by rw [IntWalk.i64_in _ (by omega)]; omega
        clear hc hu
        go_wp2_with fail
        go_roundw
        case rel => exact ⟨i + 1, by go_num, by omega, hs, hb.out.setCell (Nat.le_refl _) _⟩
        case measure => simp only [intOf]; omega
      · have hiS : Hid (i = 64) := (by omega : i = 64)
        have hi1 : ¬ (i : Int) < 64 := by omega
        rw [hiS.out, hx_end _ _ _ (hk64_len key)] at ho
        go_wp2_with fail
        go_ret
        have hle := Hbk.out.size
        have hb' : Below wk.heap.size wk wr := by have := hb.out; rw [hgb.out] at this; exact this
        have ho' := own_mono ho.out (show wk.heap.size ≤ gb by rw [hgb.out]; exact Nat.le_refl _)
        first
          | exact ⟨_, 64, rfl, ho', hb'⟩
          | exact ⟨_, 64, rfl, own_mono ho' hle, Hbk.out.trans (hb'.mono hle)⟩
end Go.Proofs.YtclecmpmohoamaaDoor
