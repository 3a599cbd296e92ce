/- The document's Sum. (Printed by gen_shaf.py.) -/
import Derived.Test.YtclecmpmohoamaaDoorShaE
namespace Go.Proofs.YtclecmpmohoamaaDoor
open Go.RowKit
set_option linter.unusedVariables false
attribute [local go_sem ↓] Go.wp_at_zero Go.wp_at_succ
set_option linter.unusedSimpArgs false
/-- The bytes, the end's first byte and j noughts behind them; i noughts more; k bytes of the length more. -/
def p1 (l : List UInt8) (j : Nat) : List UInt8 := l ++ 128 :: List.replicate j 0
def p2 (l : List UInt8) (z i : Nat) : List UInt8 := p1 l z ++ List.replicate i 0
def p3 (l : List UInt8) (z q xx k : Nat) : List UInt8 := p2 l z q ++ (toBE 64 xx).take k
theorem comp_snoc (K : Kd) (n : Nat) (v : S8) (p : List UInt8) : comp K (n + 1) v p = blk K (comp K n v p) ((p.drop (n * (2 * K.b))).take (2 * K.b)) := by
  induction n generalizing v p with
  | zero => simp [comp]
  | succ n ih =>
    rw [comp, ih, comp, List.drop_drop]
    congr 3
    generalize 2 * K.b = z
    rw [Nat.succ_mul]
    first | rfl | exact Nat.add_comm _ _
theorem shift' (x n y : Nat) (w : World) (hx : x < 18446744073709551616) (hn : n ≤ 64) (hy : x / 2 ^ n = y) :
    Calls Tryd.prog 51 #[.int .u64 x, .int .i64 n] w fun e w' => e = .returned (.int .u64 y) ∧ w = w' := by
  subst hy; exact shift_any x n w hx hn
theorem one_cell8 (w : World) (b : UInt8) (x : Int) (hx : (b.toNat : Int) = x) : Rd (w.alloc (.cells #[.int .u8 x] 5)) (w.heap.size + 1) 1 (some ⟨w.heap.size, 0, none⟩) 1 ([b].map B8) := by
  subst hx
  exact one_cell w _ _

theorem zer_end_32 (n : Nat) : (n + 1 + zer 64 n + 8) % 64 = 0 := by unfold zer; omega
theorem zer_mid_32 (n j : Nat) (h : j < zer 64 n) : ¬ (n + 1 + j + 8) % 64 = 0 := by unfold zer at h; omega
theorem zer_lt_32 (n : Nat) : zer 64 n < 64 := Nat.mod_lt _ (by decide)

set_option maxHeartbeats 4000000 in
theorem rsum_32 (A : Option Addr) (n c : Nat) (l : List UInt8) (A1 A2 : Option Addr) (c1 c2 : Nat) (w : World) (hk : Rd w w.heap.size 1 A1 64 (K32.key.map U)) (hf : Rd w w.heap.size 1 A2 8 (F32.l.map U)) (hr : Rd w w.heap.size 1 A n (l.map B8)) (hn : n ≤ 1000000) :
    Calls Tryd.prog 36 #[.agg #[.int .i64 32, .int .i64 64, .int .i64 2, .int .i64 13, .int .i64 22, .int .i64 6, .int .i64 11, .int .i64 25, .int .i64 7, .int .i64 18, .int .i64 3, .int .i64 17, .int .i64 19, .int .i64 10, .slice A1 64 c1, .slice A2 8 c2], .slice A n c] w fun e w' => ∃ A' c', e = .returned (.slice A' 32 c') ∧ w'.ownsRow w.heap.size 5 1 (.slice A' 32 c') 32 ((sumOf K32 F32 l).map B8) ∧ Below w.heap.size w w' := by
  obtain rfl : l.length = n := by simpa using hr.len
  go_enter Tryd.func36, Tryd.ntmps36
  obtain ⟨W, hW⟩ : ∃ W, W = w.alloc (.cells #[.int .i64 32, .int .i64 64, .int .i64 2, .int .i64 13, .int .i64 22, .int .i64 6, .int .i64 11, .int .i64 25, .int .i64 7, .int .i64 18, .int .i64 3, .int .i64 17, .int .i64 19, .int .i64 10, .slice A1 64 c1, .slice A2 8 c2] 50) := ⟨_, rfl⟩
  have hb0 : Below w.heap.size w W := by rw [hW]; exact (Below.refl _ _).alloc (Nat.le_refl _) _
  have hK : W.heap[w.heap.size]? = some (.cells #[.int .i64 32, .int .i64 64, .int .i64 2, .int .i64 13, .int .i64 22, .int .i64 6, .int .i64 11, .int .i64 25, .int .i64 7, .int .i64 18, .int .i64 3, .int .i64 17, .int .i64 19, .int .i64 10, .slice A1 64 c1, .slice A2 8 c2] 50 (0, 0)) := by rw [hW]; exact heap_alloc_new w _
  have hsz : w.heap.size + 1 = W.heap.size := by rw [hW]; simp
  have Hsz := Lib.hid hsz
  clear hsz
  have hr' := hr.to hb0
  have hk' := hk.to hb0
  have hf' := hf.to hb0
  have hzl := zer_lt_32 l.length
  have HW := Lib.hid hW
  have Hk := Lib.hid hk'
  have Hf := Lib.hid hf'
  have Hr := Lib.hid hr'
  clear hW hk' hf' hk hf hr hr'
  have hq0 : (W.alloc (.cells #[] 5)).ownsRow W.heap.size 5 1 (.slice (some ⟨W.heap.size, 0, none⟩) 0 0) 0 [] := World.ownsRow_lit W #[] 0 (Nat.le_refl _) (by simp [maxLen]) rfl
  have hcb := cell_blk hK 0 rfl
  go_wp2_with (first
    | (rw [← HW.out])
    | (at_builtin
       refine wpList_app rfl (.tmp 17) (.tmp 18) _ rfl W.heap.size 5 1 1 _ Tryd.underlying22 info8 rfl (by omega) (.slice (some ⟨W.heap.size, 0, none⟩) 0 0) 0 [] rfl hq0 W.heap.size A l.length c _ rfl (Hr.out.alloc (Nat.le_refl _) _) (B8_one _) (by simp only [maxLen]; omega) (by omega) (by simp) ?_
       intro A1p c1p w1 h1 hg1 _
       simp only [Nat.zero_add, List.nil_append] at h1
       have hb1 : Below W.heap.size W w1 := ((Below.refl _ _).alloc (Nat.le_refl _) _).grown hg1 (by simp) (fun k hk => by simp [Value.ownBlock] at hk; omega))
    | (at_builtin
       refine wpList_app rfl (.tmp 19) (.tmp 20) _ rfl W.heap.size 5 1 1 _ Tryd.underlying22 info8 rfl (by omega) _ _ _ rfl (h1.alloc _) (w1.heap.size + 1) (some ⟨w1.heap.size, 0, none⟩) 1 1 _ rfl (one_cell8 w1 128 128 rfl) (B8_one _) (by simp only [maxLen]; omega) (by omega) (by simp; exact Nat.le_succ_of_le hb1.size) ?_
       intro A2p c2p w2 h2 hg2 _
       have hb2 : Below W.heap.size W w2 := (hb1.alloc hb1.size _).grown hg2 (by simp; exact Nat.le_succ_of_le hb1.size) (fun k hk => (h1.lt k hk).1)))
  have h2' : w2.ownsRow W.heap.size 5 1 (.slice A2p (l.length + 1) c2p) (l.length + 1) ((p1 l 0).map B8) := by
    rw [← List.map_append] at h2
    exact h2
  clear h2 h1 hq0 hg1 hg2 hb1
  have hKh := Lib.hid hK
  clear hK
  go_loopw [6] (fun v6 wr => ∃ (j m : Nat) (A' : Option Addr) (c' : Nat), Hid (m = l.length + 1 + j) ∧ v6 = .slice A' m c' ∧ j ≤ zer 64 l.length ∧ wr.ownsRow W.heap.size 5 1 (.slice A' m c') m ((p1 l j).map B8) ∧ Below W.heap.size W wr) (fun v6 _ => l.length + 1 + 64 - vlen v6)
  case atStart => exact ⟨0, l.length + 1, A2p, c2p, rfl, rfl, Nat.zero_le _, h2', hb2⟩
  case round =>
    obtain ⟨j, m, A', c', hm, rfl, hj, ho, hb⟩ := hrel
    clear h2' hb2
    have hmb : m ≤ 1000200 := by rw [hm.out]; omega
    have hcb' := cell_blk ((hb.block w.heap.size (by have := Hsz.out; omega)).trans hKh.out) 0 rfl
    obtain ⟨r, hr0⟩ : ∃ r, Hid (r = (m + 8) % 64) := ⟨_, Lib.hid rfl⟩
    have e1 : ((m : Int) + 8) % 64 = (r : Int) := by rw [hr0.out]; omega
    have e2 : ((m : Int) + 8).tmod 64 = (r : Int) := by rw [← e1, Int.tmod_eq_emod_of_nonneg (by omega)]
    by_cases hjz : j < zer 64 l.length
    · have hrn : ¬ (r : Int) = 0 := by
        have := zer_mid_32 l.length j hjz
        rw [hr0.out, hm.out]; omega
      go_wp2_with (first
                | (at_builtin
                   refine wpList_app rfl (.tmp 31) (.tmp 32) _ rfl W.heap.size 5 1 1 _ Tryd.underlying22 info8 rfl Nat.zero_lt_one (.slice A' m c') m _ rfl (ho.alloc _) (wr.heap.size + 1) (some ⟨wr.heap.size, 0, none⟩) 1 1 ([0].map B8) rfl (one_cell8 wr 0 0 rfl) (B8_one _) ?_ ?_ ?_ ?_
                   · simp only [maxLen]; omega
                   · omega
                   · simp; exact Nat.le_succ_of_le hb.size
                   intro A3 c3 w3 h3 hg3 _
                   have hb3 : Below W.heap.size W w3 := (hb.alloc hb.size _).grown hg3 (by simp; exact Nat.le_succ_of_le hb.size) (fun k hk => (ho.lt k hk).1)
                   have H3 := Lib.hid h3
                   clear h3 hg3))
      have e3 : (p1 l j).map B8 ++ ([0] : List UInt8).map B8 = (p1 l (j + 1)).map B8 := by
        rw [← List.map_append, p1, List.append_assoc, List.cons_append, ← List.replicate_succ']; rfl
      have h3 := H3.out
      rw [e3] at h3
      go_roundw
      case rel => exact ⟨j + 1, m + 1, A3, c3, (by rw [hm.out]; rfl : m + 1 = l.length + 1 + (j + 1)), rfl, hjz, h3, hb3⟩
      case measure => have := hm.out; simp only [vlen]; omega
    · have hjz' : Hid (j = zer 64 l.length) := (by omega : j = zer 64 l.length)
      have hr00 : (r : Int) = 0 := by
        have := zer_end_32 l.length
        rw [hr0.out, hm.out, hjz'.out]; omega
      go_wp2_with fail
      go_loopw [6, 7] (fun v6 v7 wr2 => ∃ (i m : Nat) (A' : Option Addr) (c' : Nat), Hid (m = l.length + 1 + zer 64 l.length + i) ∧ v6 = .slice A' m c' ∧ v7 = .int .i64 ((8 : Int) + i) ∧ 8 + i ≤ 8 ∧ wr2.ownsRow W.heap.size 5 1 (.slice A' m c') m ((p2 l (zer 64 l.length) i).map B8) ∧ Below W.heap.size W wr2) (fun _ v7 _ => 100 - (intOf v7).toNat)
      case atStart => exact ⟨0, m, A', c', by rw [hm.out, hjz'.out]; exact Lib.hid rfl, rfl, rfl, by omega, by rw [hjz'.out] at ho; rw [show p2 l (zer 64 l.length) 0 = p1 l (zer 64 l.length) from List.append_nil _]; exact ho, hb⟩
      case round =>
        obtain ⟨i, m, A', c', hm, rfl, rfl, hi, ho, hb⟩ := hrel
        have hmb : m ≤ 1000300 := by rw [hm.out]; omega
        have hcb' := cell_blk ((hb.block w.heap.size (by have := Hsz.out; omega)).trans hKh.out) 0 rfl
        by_cases hiQ : 8 + i < 8
        · exfalso; omega
        · have hiQ2 : Hid (i = 8 - 8) := (by omega : i = 8 - 8)
          have hiQ' : ¬ (8 : Int) + i < 8 := by omega
          obtain ⟨xx, hxx⟩ : ∃ x, Hid (x = l.length * 8) := ⟨_, Lib.hid rfl⟩
          have hxb : xx ≤ 8000000 := by rw [hxx.out]; omega
          have c1' : IntKind.u64.wrap (l.length : Int) = (l.length : Int) := by rw [wrapU, Nat.mod_eq_of_lt (by omega)]
          have c2' : IntKind.u64.wrap ((l.length : Int) * 8) = (xx : Int) := by rw [show (l.length : Int) * 8 = ((l.length * 8 : Nat) : Int) by omega, wrapU, Nat.mod_eq_of_lt (by omega), hxx.out]
          go_wp2_with fail
          go_loopw [6, 8] (fun v6 v8 wr3 => ∃ (k m : Nat) (A' : Option Addr) (c' : Nat), Hid (m = l.length + 1 + zer 64 l.length + (8 - 8) + k) ∧ v6 = .slice A' m c' ∧ v8 = .int .i64 ((7 : Int) - k) ∧ k ≤ 8 ∧ wr3.ownsRow W.heap.size 5 1 (.slice A' m c') m ((p3 l (zer 64 l.length) (8 - 8) xx k).map B8) ∧ Below W.heap.size W wr3) (fun _ v8 _ => (intOf v8 + 1).toNat)
          case atStart => exact ⟨0, m, A', c', by rw [hm.out, hiQ2.out]; exact Lib.hid rfl, rfl, rfl, by omega, by rw [hiQ2.out] at ho; rw [show p3 l (zer 64 l.length) (8 - 8) xx 0 = p2 l (zer 64 l.length) (8 - 8) from List.append_nil _]; exact ho, hb⟩
          case round =>
            obtain ⟨k, m, A', c', hm, rfl, rfl, hk8, ho, hb⟩ := hrel
            have hmb : m ≤ 1000400 := by rw [hm.out]; omega
            by_cases hk : k < 8
            · have hk' : (0 : Int) ≤ 7 - (k : Int) := by omega
              obtain ⟨sh, hsh⟩ : ∃ x, Hid (x = 56 - 8 * k) := ⟨_, Lib.hid rfl⟩
              have hsb : sh ≤ 56 := by rw [hsh.out]; omega
              have d1 : IntKind.i64.wrap (8 * ((7 : Int) - k)) = (sh : Int) := by rw [hsh.out, IntWalk.i64_in _ (by omega)]; omega
              obtain ⟨y, hy⟩ : ∃ y, Hid (xx / 2 ^ sh = y) := ⟨_, Lib.hid rfl⟩
              have hyb : y ≤ 8000000 := by rw [← hy.out]; exact Nat.le_trans (Nat.div_le_self _ _) hxb
              obtain ⟨z, hz⟩ : ∃ z, Hid (z = y % 256) := ⟨_, Lib.hid rfl⟩
              have hzb : z < 256 := by rw [hz.out]; omega
              have d2 : (y : Int) % 256 = (z : Int) := by rw [hz.out]; omega
              have d3 : (y : Int).tmod 256 = (z : Int) := by rw [← d2, Int.tmod_eq_emod_of_nonneg (by omega)]
              have d4 : IntKind.u8.wrap (z : Int) = (z : Int) := by rw [IntKind.wrap_u8']; omega
              have d5 : IntKind.i64.wrap ((7 : Int) - k - 1) = (7 : Int) - (k + 1 : Nat) := by rw [IntWalk.i64_in _ (by omega)]; omega
              have hby : Hid (((UInt8.ofNat (xx / 2 ^ sh)).toNat : Int) = (z : Int)) := by
                unfold Hid
                rw [hy.out, UInt8.toNat_ofNat', hz.out]
              have hbe : Hid ((toBE 64 xx).take k ++ [UInt8.ofNat (xx / 2 ^ sh)] = (toBE 64 xx).take (k + 1)) := by
                unfold Hid
                rw [List.take_add_one]
                congr 1
                rw [toBE, List.getElem?_map, List.getElem?_range (by omega)]
                simp only [Option.map_some, Option.toList_some]
                rw [hsh.out]
              go_wp2_with fail
              refine (shift' xx sh y _ (by omega) (by omega) hy.out).mono ?_
              rintro ee w4 ⟨rfl, rfl⟩
              go_wp2_with (first
                | (at_builtin
                   refine wpList_app rfl (.tmp 48) (.tmp 58) _ rfl W.heap.size 5 1 1 _ Tryd.underlying22 info8 rfl Nat.zero_lt_one (.slice A' m c') m _ rfl (ho.alloc _) (wr.heap.size + 1) (some ⟨wr.heap.size, 0, none⟩) 1 1 ([(UInt8.ofNat (xx / 2 ^ sh))].map B8) rfl (one_cell8 wr (UInt8.ofNat (xx / 2 ^ sh)) (z : Int) hby.out) (B8_one _) ?_ ?_ ?_ ?_
                   · simp only [maxLen]; omega
                   · omega
                   · simp; exact Nat.le_succ_of_le hb.size
                   intro A3 c3 w3 h3 hg3 _
                   have hb3 : Below W.heap.size W w3 := (hb.alloc hb.size _).grown hg3 (by simp; exact Nat.le_succ_of_le hb.size) (fun k hk => (ho.lt k hk).1)
                   have H3 := Lib.hid h3
                   clear h3 hg3))
              have h3 := H3.out
              rw [← List.map_append, p3, List.append_assoc _ ((toBE 64 xx).take k), hbe.out] at h3
              go_roundw
              case rel => exact ⟨k + 1, m + 1, A3, c3, (by rw [hm.out]; rfl : m + 1 = l.length + 1 + zer 64 l.length + (8 - 8) + (k + 1)), rfl, by congr 1 <;> omega, by omega, h3, hb3⟩
              case measure => simp only [intOf]; omega
            · have hk8' : Hid (k = 8) := (by omega : k = 8)
              have hk' : ¬ (0 : Int) ≤ 7 - (k : Int) := by omega
              have hpd : Hid (p3 l (zer 64 l.length) (8 - 8) xx 8 = padd 64 l l.length) := by
                unfold Hid p3 p2 p1 padd tail
                rw [hxx.out, Nat.mod_eq_of_lt (show l.length * 8 < 2 ^ 64 by omega), List.take_of_length_le (by simp [toBE])]
                simp
              obtain ⟨nb, hnb, hnb0⟩ := padd_length 64 (by decide) (by decide) l l.length
              have hmS : Hid (m = nb * 64) := by
                have h1 := ho.1
                rw [hk8'.out, hpd.out, List.length_map, hnb] at h1
                exact (by omega : m = nb * 64)
              rw [hk8'.out, hpd.out] at ho
              have hm0 : 0 < m := by rw [hm.out]; omega
              obtain ⟨gp, rfl, hgp, hgl⟩ := own_addr ho hm0
              have hcap := own_cap' ho
              have hrp := Lib.hid (Rd.of_own ho)
              have hbP := hb
              have hfr := Lib.hid (Hf.out.to hb)
              have hkr := Lib.hid (Hk.out.to hb)
              obtain ⟨wp, hwp⟩ : ∃ wp, wp = wr := ⟨wr, rfl⟩
              subst hwp
              have hKp := Lib.hid ((hb.block w.heap.size (by have := Hsz.out; omega)).trans hKh.out)
              have hc15 := cell_blk hKp.out 15 rfl
              clear ho hb
              go_wp2_with fail
              go_loopw [9, 10] (fun v9 v10 wr4 => ∃ (t ix : Nat) (Av : Option Addr) (cv : Nat), v9 = .slice Av 8 cv ∧ v10 = .int .i64 ix ∧ Hid (ix = t * 64) ∧ t ≤ nb ∧ Hid (Rd wr4 wr4.heap.size 1 Av 8 ((comp K32 t F32 (padd 64 l l.length)).l.map U)) ∧ Below wp.heap.size wp wr4) (fun _ v10 _ => m - (intOf v10).toNat)
              case atStart => exact ⟨0, 0, A2, c2, rfl, rfl, rfl, Nat.zero_le _, hfr, Below.refl _ _⟩
              case round =>
                obtain ⟨t, ix, Av, cv, rfl, rfl, hix, ht, hv, hb⟩ := hrel
                have hixm : ix ≤ m := by rw [hix.out, hmS.out]; exact Nat.mul_le_mul_right _ ht
                by_cases htn : t < nb
                · have hix2 : ix + 64 ≤ m := by
                    rw [hix.out, hmS.out, ← Nat.succ_mul]; exact Nat.mul_le_mul_right _ htn
                  have e1 : IntKind.i64.wrap ((ix : Int) + 64) = ((ix + 64 : Nat) : Int) := by rw [IntWalk.i64_in _ (by omega)]; omega
                  have e2 : (ix : Int) < (m : Int) := by omega
                  have b0 : (0 : Int) ≤ (ix : Int) := by omega
                  have b1 : (ix : Int) + 64 ≤ (c' : Int) := by omega
                  have b2 : ¬ c' = ix := by omega
                  have b3 : ix + 64 - ix = 64 := by omega
                  have b4 : ((ix : Int) + 64).toNat = ix + 64 := by omega
                  have b5 : (ix : Int) ≤ (ix : Int) + 64 := by omega
                  have hKr := Lib.hid ((hb.block w.heap.size (by have := hbP.size; have := Hsz.out; omega)).trans hKp.out)
                  have hrb : Hid (Rd wr.drew wr.drew.heap.size 1 (some ⟨gp, ix, none⟩) 64 ((((padd 64 l l.length).drop ix).take 64).map B8)) := by
                    have h1 := (hrp.out.to hb).to (below_drew (Below.refl _ _))
                    have h2 := (h1.cut (k := ix) (cap := c') hixm hcap).take (k := 64) (by omega)
                    rw [if_neg b2, Nat.mul_one, Option.map_some, addr_add, Nat.zero_add] at h2
                    rw [List.map_take, List.map_drop]
                    exact h2
                  have hKS : Hid (∀ w', Below wr.drew.heap.size wr.drew w' → w'.heap[w.heap.size]? = some (.cells #[.int .i64 32, .int .i64 64, .int .i64 2, .int .i64 13, .int .i64 22, .int .i64 6, .int .i64 11, .int .i64 25, .int .i64 7, .int .i64 18, .int .i64 3, .int .i64 17, .int .i64 19, .int .i64 10, .slice A1 64 c1, .slice A2 8 c2] 50 (0, 0))) := fun w' hS =>
                    (hS.block w.heap.size (World.block_lt_of_cell? _ _ (cell_blk hKr.out 1 rfl))).trans hKr.out
                  have hvd := Lib.hid (hv.out.to (below_drew (Below.refl _ _)))
                  have hkd := Lib.hid ((hkr.out.to hb).to (below_drew (Below.refl _ _)))
                  have hokt : Hid ((comp K32 t F32 (padd 64 l l.length)).ok 32) := comp_ok t F32_ok
                  have hnext : Hid (blk K32 (comp K32 t F32 (padd 64 l l.length)) (((padd 64 l l.length).drop ix).take 64) = comp K32 (t + 1) F32 (padd 64 l l.length)) := by
                    unfold Hid
                    rw [hix.out]
                    exact (comp_snoc K32 t F32 (padd 64 l l.length)).symm
                  go_wp2_with fail
                  refine wp_region_noPanic ?_
                  refine wp_region_held_drew (S := fun w' => Below wr.drew.heap.size wr.drew w') (by kernel_rfl) (Below.refl _ _) (fun hS => ?_)
                  refine wpAnyH_take (i := 0) (v := _) rfl (by kernel_rfl) (by kernel_rfl) (by kernel_rfl) (fun _ _ _ h => h) (yields_load (by rfl) (.tmp 2) (by rfl) (by rfl) (fun w hSw => load_blk (hKS.out w hSw) Tryd.underlying50 rfl (by kernel_rfl))) hS ?rest0
                  try simp only [Act.put, List.getElem_toArray, List.getElem_cons_zero, List.getElem_cons_succ, List.setIfInBounds_toArray, List.set_cons_zero, List.set_cons_succ]
                  refine wpAnyH_take (i := 1) (v := ?v1) rfl (by kernel_rfl) (by kernel_rfl) (by kernel_rfl) (fun _ _ _ h => h) (Or.inl ⟨by rfl, ?hy1⟩) hS ?rest1
                  case hy1 => (intro w hSw; go_simp; first | done | with_reducible rfl)
                  try simp only [Act.put, List.getElem_toArray, List.getElem_cons_zero, List.getElem_cons_succ, List.setIfInBounds_toArray, List.set_cons_zero, List.set_cons_succ]
                  refine wpAnyH_take (i := 2) (v := ?v2) rfl (by kernel_rfl) (by kernel_rfl) (by kernel_rfl) (fun _ _ _ h => h) (Or.inl ⟨by rfl, ?hy2⟩) hS ?rest2
                  case hy2 => (intro w hSw; go_simp; first | done | with_reducible rfl)
                  try simp only [Act.put, List.getElem_toArray, List.getElem_cons_zero, List.getElem_cons_succ, List.setIfInBounds_toArray, List.set_cons_zero, List.set_cons_succ]
                  refine wpAnyH_take (i := 3) (v := ?v3) rfl (by kernel_rfl) (by kernel_rfl) (by kernel_rfl) (fun _ _ _ h => h) (Or.inl ⟨by rfl, ?hy3⟩) hS ?rest3
                  case hy3 => (intro w hSw; go_simp; first | done | with_reducible rfl)
                  try simp only [Act.put, List.getElem_toArray, List.getElem_cons_zero, List.getElem_cons_succ, List.setIfInBounds_toArray, List.set_cons_zero, List.set_cons_succ]
                  refine wpAnyH_take (i := 4) (v := ?v4) rfl (by kernel_rfl) (by kernel_rfl) (by kernel_rfl) (fun _ _ _ h => h) (Or.inl ⟨by rfl, ?hy4⟩) hS ?rest4
                  case hy4 => (intro w hSw; go_simp; first | done | with_reducible rfl)
                  try simp only [Act.put, List.getElem_toArray, List.getElem_cons_zero, List.getElem_cons_succ, List.setIfInBounds_toArray, List.set_cons_zero, List.set_cons_succ]
                  refine wpAnyH_take (i := 5) (v := ?v5) rfl (by kernel_rfl) (by kernel_rfl) (by kernel_rfl) (fun _ _ _ h => h) (Or.inl ⟨by rfl, ?hy5⟩) hS ?rest5
                  case hy5 => (intro w hSw; go_simp; first | done | with_reducible rfl)
                  try simp only [Act.put, List.getElem_toArray, List.getElem_cons_zero, List.getElem_cons_succ, List.setIfInBounds_toArray, List.set_cons_zero, List.set_cons_succ]
                  refine wpAnyH_take (i := 6) (v := ?v6) rfl (by kernel_rfl) (by kernel_rfl) (by kernel_rfl) (fun _ _ _ h => h) (Or.inl ⟨by rfl, ?hy6⟩) hS ?rest6
                  case hy6 => (intro w hSw; go_simp; first | done | with_reducible rfl)
                  try simp only [Act.put, List.getElem_toArray, List.getElem_cons_zero, List.getElem_cons_succ, List.setIfInBounds_toArray, List.set_cons_zero, List.set_cons_succ]
                  refine wpAnyH_take (i := 7) (v := ?v7) rfl (by kernel_rfl) (by kernel_rfl) (by kernel_rfl) (fun _ _ _ h => h) (Or.inl ⟨by rfl, ?hy7⟩) hS ?rest7
                  case hy7 => (intro w hSw; go_simp; first | done | with_reducible rfl)
                  try simp only [Act.put, List.getElem_toArray, List.getElem_cons_zero, List.getElem_cons_succ, List.setIfInBounds_toArray, List.set_cons_zero, List.set_cons_succ]
                  refine wpAnyH_ready (rs := [8]) (by kernel_rfl) (by simp) ?_
                  refine AllReadyH.cons rfl (fun K hK => ?_) AllReadyH.nil
                  go_simp
                  refine (rblock_32 Av _ cv _ (comp K32 t F32 (padd 64 l l.length)) (((padd 64 l l.length).drop ix).take 64) A1 A2 c1 c2 _ hkd.out hvd.out hokt.out hrb.out).mono ?_
                  rintro ee u1 ⟨A5, c5, rfl, g1, p1⟩
                  go_wp2_with fail
                  refine hK.out _ _ p1 ?_
                  intro hS
                  clear hK K
                  try simp only [Act.put, List.getElem_toArray, List.getElem_cons_zero, List.getElem_cons_succ, List.setIfInBounds_toArray, List.set_cons_zero, List.set_cons_succ]
                  refine wpAnyH_take (i := 9) (v := ?v9) rfl (by kernel_rfl) (by kernel_rfl) (by kernel_rfl) (fun _ _ _ h => h) (Or.inl ⟨by rfl, ?hy9⟩) hS ?rest9
                  case hy9 => (intro w hSw; go_simp; first | done | with_reducible rfl)
                  try simp only [Act.put, List.getElem_toArray, List.getElem_cons_zero, List.getElem_cons_succ, List.setIfInBounds_toArray, List.set_cons_zero, List.set_cons_succ]
                  refine wpAnyH_done (by kernel_rfl) (NoPanic.normal ?_) _
                  go_wp2_with fail
                  rw [hnext.out] at g1
                  go_roundw
                  case rel => exact ⟨t + 1, ix + 64, A5, c5, rfl, by go_num, by rw [hix.out]; exact (Nat.succ_mul t 64).symm, htn, g1.rd, (below_drew hb).trans (p1.mono hb.size)⟩
                  case measure => simp only [intOf]; omega
                · have htn2 : Hid (t = nb) := (by omega : t = nb)
                  have e2 : ¬ (ix : Int) < (m : Int) := by have := hix.out; have := hmS.out; rw [htn2.out] at *; omega
                  obtain ⟨V, hV⟩ : ∃ V, Hid (V = comp K32 nb F32 (padd 64 l l.length)) := ⟨_, Lib.hid rfl⟩
                  have hVo : Hid (V.ok 32) := by unfold Hid; rw [hV.out]; exact comp_ok nb F32_ok
                  have hvV : Hid (Rd wr wr.heap.size 1 Av 8 (V.l.map U)) := by unfold Hid; rw [hV.out, ← htn2.out]; exact hv.out
                  have hbq : Hid (Below W.heap.size W wr) := hbP.trans (hb.mono hbP.size)
                  obtain ⟨wq, hwq⟩ : ∃ wq, wq = wr := ⟨wr, rfl⟩
                  subst hwq
                  have hKq := Lib.hid ((hbq.out.block w.heap.size (by have := Hsz.out; omega)).trans hKh.out)
                  clear hv
                  go_wp2_with fail
                  go_loopw [11, 12, 13] (fun x11 x12 _ wr5 => ∃ (i q : Nat) (A' : Option Addr) (c' : Nat), Hid (q = i * 4) ∧ x11 = .slice A' q c' ∧ x12 = .int .i64 i ∧ i ≤ 8 ∧ wr5.ownsRow wq.heap.size 5 1 (.slice A' q c') q (((V.l.take i).flatMap (toBE 32)).map B8) ∧ Below wq.heap.size wq wr5) (fun _ x12 _ _ => 8 - (intOf x12).toNat)
                  case atStart => exact ⟨0, 0, none, 0, rfl, rfl, rfl, by omega, World.ownsRow_nil _ _ _ _, Below.refl _ _⟩
                  case round =>
                    obtain ⟨i, q, A', c', hq, rfl, rfl, hi, ho, hb⟩ := hrel
                    have hcb5 := cell_blk ((hb.block w.heap.size (World.block_lt_of_cell? _ _ (cell_blk hKq.out 0 rfl))).trans hKq.out) 0 rfl
                    by_cases hi8 : i < 8
                    · have hi8' : (i : Int) < 8 := by omega
                      have hi0 : (0 : Int) ≤ i := by omega
                      obtain ⟨x, hx⟩ : ∃ x, Hid (V.l.getD i 0 = x) := ⟨_, Lib.hid rfl⟩
                      have hx64 : x < 18446744073709551616 := by
                        rw [← hx.out]
                        refine getD_lt (by decide) (fun y hy => ?_) i
                        obtain ⟨o1, o2, o3, o4, o5, o6, o7, o8⟩ := hVo.out
                        simp [S8.l] at hy
                        have hM : (2 : Nat) ^ 32 ≤ 18446744073709551616 := by decide
                        rcases hy with h | h | h | h | h | h | h | h <;> (rw [h]; omega)
                      have hst : Hid ((V.l.take i).flatMap (toBE 32) ++ toBE 32 x = (V.l.take (i + 1)).flatMap (toBE 32)) := by
                        unfold Hid
                        have e : V.l[i]? = some x := by
                          rw [List.getElem?_eq_getElem (by simpa [S8.l] using hi8), ← hx.out]
                          simp [List.getD, show i < V.l.length by simpa [S8.l] using hi8]
                        rw [List.take_add_one, e]
                        simp
                      have e8 : IntKind.i64.wrap ((i : Int) + 1) = ((i + 1 : Nat) : Int) := by rw [IntWalk.i64_in _ (by omega)]; omega
                      go_wp2_with fail
                      go_loopw [11, 13] (fun x11 x13 wr6 => ∃ (j m : Nat) (n : Int) (A' : Option Addr) (c' : Nat), Hid (m = i * 4 + j) ∧ x11 = .slice A' m c' ∧ x13 = .int .i64 n ∧ Hid (n = 24 - 8 * (j : Int)) ∧ j ≤ 4 ∧ wr6.ownsRow wq.heap.size 5 1 (.slice A' m c') m (((V.l.take i).flatMap (toBE 32) ++ (toBE 32 x).take j).map B8) ∧ Below wq.heap.size wq wr6) (fun _ x13 _ => (intOf x13 + 8).toNat)
                      case atStart => exact ⟨0, q, 24, A', c', hq, rfl, rfl, by unfold Hid; omega, by omega, by simpa using ho, hb⟩
                      case round =>
                        obtain ⟨j, m, n, A', c', hm, rfl, rfl, hn', hj, ho, hb⟩ := hrel
                        have hmb : m ≤ 1000 := by rw [hm.out]; omega
                        obtain ⟨bv, ov, x', rfl, hbv, hcx, hxx'⟩ := (hvV.out.below hb).atU (k := i) hi8
                        obtain rfl : x = x' := by rw [← hx.out, ← hxx'.out]
                        by_cases hjz : j < 4
                        · obtain ⟨sh, rfl⟩ : ∃ sh : Nat, n = sh := ⟨n.toNat, by have := hn'.out; omega⟩
                          have hsb : sh ≤ 64 := by have := hn'.out; omega
                          have hsh : Hid (sh = 24 - 8 * j) := by have := hn'.out; exact (by omega : sh = 24 - 8 * j)
                          have hs0 : (0 : Int) ≤ (sh : Int) := by omega
                          obtain ⟨y, hy⟩ : ∃ y, Hid (x / 2 ^ sh = y) := ⟨_, Lib.hid rfl⟩
                          have hyb : y < 18446744073709551616 := by rw [← hy.out]; exact Nat.lt_of_le_of_lt (Nat.div_le_self _ _) hx64
                          obtain ⟨z, hz⟩ : ∃ z, Hid (z = y % 256) := ⟨_, Lib.hid rfl⟩
                          have hzb : z < 256 := by rw [hz.out]; omega
                          have d2 : (y : Int) % 256 = (z : Int) := by rw [hz.out]; omega
                          have d3 : (y : Int).tmod 256 = (z : Int) := by rw [← d2, Int.tmod_eq_emod_of_nonneg (by omega)]
                          have d4 : IntKind.u8.wrap (z : Int) = (z : Int) := by rw [IntKind.wrap_u8']; omega
                          have hby : Hid (((UInt8.ofNat (x / 2 ^ sh)).toNat : Int) = (z : Int)) := by
                            unfold Hid
                            rw [hy.out, UInt8.toNat_ofNat', hz.out]
                          have hbe : Hid ((toBE 32 x).take j ++ [UInt8.ofNat (x / 2 ^ sh)] = (toBE 32 x).take (j + 1)) := by
                            unfold Hid
                            rw [List.take_add_one]
                            congr 1
                            rw [toBE, List.getElem?_map, List.getElem?_range (by omega)]
                            simp only [Option.map_some, Option.toList_some]
                            rw [hsh.out]
                          go_wp2_with fail
                          refine (shift' x sh y _ hx64 hsb hy.out).mono ?_
                          rintro ee w4 ⟨rfl, rfl⟩
                          go_wp2_with (first
                | (at_builtin
                   refine wpList_app rfl (.tmp 89) (.tmp 98) _ rfl wq.heap.size 5 1 1 _ Tryd.underlying22 info8 rfl Nat.zero_lt_one (.slice A' m c') m _ rfl (ho.alloc _) (wr.heap.size + 1) (some ⟨wr.heap.size, 0, none⟩) 1 1 ([(UInt8.ofNat (x / 2 ^ sh))].map B8) rfl (one_cell8 wr (UInt8.ofNat (x / 2 ^ sh)) (z : Int) hby.out) (B8_one _) ?_ ?_ ?_ ?_
                   · simp only [maxLen]; omega
                   · omega
                   · simp; exact Nat.le_succ_of_le hb.size
                   intro A3 c3 w3 h3 hg3 _
                   have hb3 : Below wq.heap.size wq w3 := (hb.alloc hb.size _).grown hg3 (by simp; exact Nat.le_succ_of_le hb.size) (fun k hk => (ho.lt k hk).1)
                   have H3 := Lib.hid h3
                   clear h3 hg3))
                          have h3 := H3.out
                          rw [← List.map_append, List.append_assoc, hbe.out] at h3
                          go_roundw
                          case rel => exact ⟨j + 1, m + 1, _, A3, c3, (by rw [hm.out]; rfl : m + 1 = i * 4 + (j + 1)), rfl, rfl, (by have := hn'.out; unfold Hid; omega), hjz, h3, hb3⟩
                          case measure => simp only [intOf]; omega
                        · have hjz2 : Hid (j = 4) := (by omega : j = 4)
                          have hn0 : ¬ (0 : Int) ≤ n := by have := hn'.out; omega
                          rw [hjz2.out, List.take_of_length_le (l := toBE 32 x) (by simp [toBE]), hst.out] at ho
                          go_wp2_with fail
                          go_roundw
                          case rel => exact ⟨i + 1, m, A', c', by rw [hm.out, hjz2.out]; exact (Nat.succ_mul i 4).symm, rfl, by go_num, hi8, ho, hb⟩
                          case measure => simp only [intOf]; omega
                    · have hi88 : Hid (i = 8) := (by omega : i = 8)
                      have hi8' : ¬ (i : Int) < 8 := by omega
                      rw [hi88.out, List.take_of_length_le (l := V.l) (by simp [S8.l])] at ho
                      have hq8 : Hid (q = 32) := by have := hq.out; rw [hi88.out] at this; exact this
                      go_wp2_with fail
                      go_ret
                      obtain rfl : q = 32 := hq8.out
                      have htold : sumOf K32 F32 l = V.l.flatMap (toBE 32) := by
                        rw [hV.out]
                        unfold sumOf told
                        show (comp K32 ((padd 64 l l.length).length / 64) F32 (padd 64 l l.length)).l.flatMap (toBE 32) = _
                        rw [hnb, Nat.mul_div_cancel _ (by decide)]
                      rw [htold]
                      exact ⟨A', c', rfl, own_mono ho (Nat.le_trans hb0.size hbq.out.size), hb0.trans ((hbq.out.trans (hb.mono hbq.out.size)).mono hb0.size)⟩

theorem zer_end_64 (n : Nat) : (n + 1 + zer 128 n + 16) % 128 = 0 := by unfold zer; omega
theorem zer_mid_64 (n j : Nat) (h : j < zer 128 n) : ¬ (n + 1 + j + 16) % 128 = 0 := by unfold zer at h; omega
theorem zer_lt_64 (n : Nat) : zer 128 n < 128 := Nat.mod_lt _ (by decide)

set_option maxHeartbeats 4000000 in
theorem rsum_64 (A : Option Addr) (n c : Nat) (l : List UInt8) (A1 A2 : Option Addr) (c1 c2 : Nat) (w : World) (hk : Rd w w.heap.size 1 A1 80 (K64.key.map U)) (hf : Rd w w.heap.size 1 A2 8 (F64.l.map U)) (hr : Rd w w.heap.size 1 A n (l.map B8)) (hn : n ≤ 1000000) :
    Calls Tryd.prog 36 #[.agg #[.int .i64 64, .int .i64 80, .int .i64 28, .int .i64 34, .int .i64 39, .int .i64 14, .int .i64 18, .int .i64 41, .int .i64 1, .int .i64 8, .int .i64 7, .int .i64 19, .int .i64 61, .int .i64 6, .slice A1 80 c1, .slice A2 8 c2], .slice A n c] w fun e w' => ∃ A' c', e = .returned (.slice A' 64 c') ∧ w'.ownsRow w.heap.size 5 1 (.slice A' 64 c') 64 ((sumOf K64 F64 l).map B8) ∧ Below w.heap.size w w' := by
  obtain rfl : l.length = n := by simpa using hr.len
  go_enter Tryd.func36, Tryd.ntmps36
  obtain ⟨W, hW⟩ : ∃ W, W = w.alloc (.cells #[.int .i64 64, .int .i64 80, .int .i64 28, .int .i64 34, .int .i64 39, .int .i64 14, .int .i64 18, .int .i64 41, .int .i64 1, .int .i64 8, .int .i64 7, .int .i64 19, .int .i64 61, .int .i64 6, .slice A1 80 c1, .slice A2 8 c2] 50) := ⟨_, rfl⟩
  have hb0 : Below w.heap.size w W := by rw [hW]; exact (Below.refl _ _).alloc (Nat.le_refl _) _
  have hK : W.heap[w.heap.size]? = some (.cells #[.int .i64 64, .int .i64 80, .int .i64 28, .int .i64 34, .int .i64 39, .int .i64 14, .int .i64 18, .int .i64 41, .int .i64 1, .int .i64 8, .int .i64 7, .int .i64 19, .int .i64 61, .int .i64 6, .slice A1 80 c1, .slice A2 8 c2] 50 (0, 0)) := by rw [hW]; exact heap_alloc_new w _
  have hsz : w.heap.size + 1 = W.heap.size := by rw [hW]; simp
  have Hsz := Lib.hid hsz
  clear hsz
  have hr' := hr.to hb0
  have hk' := hk.to hb0
  have hf' := hf.to hb0
  have hzl := zer_lt_64 l.length
  have HW := Lib.hid hW
  have Hk := Lib.hid hk'
  have Hf := Lib.hid hf'
  have Hr := Lib.hid hr'
  clear hW hk' hf' hk hf hr hr'
  have hq0 : (W.alloc (.cells #[] 5)).ownsRow W.heap.size 5 1 (.slice (some ⟨W.heap.size, 0, none⟩) 0 0) 0 [] := World.ownsRow_lit W #[] 0 (Nat.le_refl _) (by simp [maxLen]) rfl
  have hcb := cell_blk hK 0 rfl
  go_wp2_with (first
    | (rw [← HW.out])
    | (at_builtin
       refine wpList_app rfl (.tmp 17) (.tmp 18) _ rfl W.heap.size 5 1 1 _ Tryd.underlying22 info8 rfl (by omega) (.slice (some ⟨W.heap.size, 0, none⟩) 0 0) 0 [] rfl hq0 W.heap.size A l.length c _ rfl (Hr.out.alloc (Nat.le_refl _) _) (B8_one _) (by simp only [maxLen]; omega) (by omega) (by simp) ?_
       intro A1p c1p w1 h1 hg1 _
       simp only [Nat.zero_add, List.nil_append] at h1
       have hb1 : Below W.heap.size W w1 := ((Below.refl _ _).alloc (Nat.le_refl _) _).grown hg1 (by simp) (fun k hk => by simp [Value.ownBlock] at hk; omega))
    | (at_builtin
       refine wpList_app rfl (.tmp 19) (.tmp 20) _ rfl W.heap.size 5 1 1 _ Tryd.underlying22 info8 rfl (by omega) _ _ _ rfl (h1.alloc _) (w1.heap.size + 1) (some ⟨w1.heap.size, 0, none⟩) 1 1 _ rfl (one_cell8 w1 128 128 rfl) (B8_one _) (by simp only [maxLen]; omega) (by omega) (by simp; exact Nat.le_succ_of_le hb1.size) ?_
       intro A2p c2p w2 h2 hg2 _
       have hb2 : Below W.heap.size W w2 := (hb1.alloc hb1.size _).grown hg2 (by simp; exact Nat.le_succ_of_le hb1.size) (fun k hk => (h1.lt k hk).1)))
  have h2' : w2.ownsRow W.heap.size 5 1 (.slice A2p (l.length + 1) c2p) (l.length + 1) ((p1 l 0).map B8) := by
    rw [← List.map_append] at h2
    exact h2
  clear h2 h1 hq0 hg1 hg2 hb1
  have hKh := Lib.hid hK
  clear hK
  go_loopw [6] (fun v6 wr => ∃ (j m : Nat) (A' : Option Addr) (c' : Nat), Hid (m = l.length + 1 + j) ∧ v6 = .slice A' m c' ∧ j ≤ zer 128 l.length ∧ wr.ownsRow W.heap.size 5 1 (.slice A' m c') m ((p1 l j).map B8) ∧ Below W.heap.size W wr) (fun v6 _ => l.length + 1 + 128 - vlen v6)
  case atStart => exact ⟨0, l.length + 1, A2p, c2p, rfl, rfl, Nat.zero_le _, h2', hb2⟩
  case round =>
    obtain ⟨j, m, A', c', hm, rfl, hj, ho, hb⟩ := hrel
    clear h2' hb2
    have hmb : m ≤ 1000200 := by rw [hm.out]; omega
    have hcb' := cell_blk ((hb.block w.heap.size (by have := Hsz.out; omega)).trans hKh.out) 0 rfl
    obtain ⟨r, hr0⟩ : ∃ r, Hid (r = (m + 16) % 128) := ⟨_, Lib.hid rfl⟩
    have e1 : ((m : Int) + 16) % 128 = (r : Int) := by rw [hr0.out]; omega
    have e2 : ((m : Int) + 16).tmod 128 = (r : Int) := by rw [← e1, Int.tmod_eq_emod_of_nonneg (by omega)]
    by_cases hjz : j < zer 128 l.length
    · have hrn : ¬ (r : Int) = 0 := by
        have := zer_mid_64 l.length j hjz
        rw [hr0.out, hm.out]; omega
      go_wp2_with (first
                | (at_builtin
                   refine wpList_app rfl (.tmp 31) (.tmp 32) _ rfl W.heap.size 5 1 1 _ Tryd.underlying22 info8 rfl Nat.zero_lt_one (.slice A' m c') m _ rfl (ho.alloc _) (wr.heap.size + 1) (some ⟨wr.heap.size, 0, none⟩) 1 1 ([0].map B8) rfl (one_cell8 wr 0 0 rfl) (B8_one _) ?_ ?_ ?_ ?_
                   · simp only [maxLen]; omega
                   · omega
                   · simp; exact Nat.le_succ_of_le hb.size
                   intro A3 c3 w3 h3 hg3 _
                   have hb3 : Below W.heap.size W w3 := (hb.alloc hb.size _).grown hg3 (by simp; exact Nat.le_succ_of_le hb.size) (fun k hk => (ho.lt k hk).1)
                   have H3 := Lib.hid h3
                   clear h3 hg3))
      have e3 : (p1 l j).map B8 ++ ([0] : List UInt8).map B8 = (p1 l (j + 1)).map B8 := by
        rw [← List.map_append, p1, List.append_assoc, List.cons_append, ← List.replicate_succ']; rfl
      have h3 := H3.out
      rw [e3] at h3
      go_roundw
      case rel => exact ⟨j + 1, m + 1, A3, c3, (by rw [hm.out]; rfl : m + 1 = l.length + 1 + (j + 1)), rfl, hjz, h3, hb3⟩
      case measure => have := hm.out; simp only [vlen]; omega
    · have hjz' : Hid (j = zer 128 l.length) := (by omega : j = zer 128 l.length)
      have hr00 : (r : Int) = 0 := by
        have := zer_end_64 l.length
        rw [hr0.out, hm.out, hjz'.out]; omega
      go_wp2_with fail
      go_loopw [6, 7] (fun v6 v7 wr2 => ∃ (i m : Nat) (A' : Option Addr) (c' : Nat), Hid (m = l.length + 1 + zer 128 l.length + i) ∧ v6 = .slice A' m c' ∧ v7 = .int .i64 ((8 : Int) + i) ∧ 8 + i ≤ 16 ∧ wr2.ownsRow W.heap.size 5 1 (.slice A' m c') m ((p2 l (zer 128 l.length) i).map B8) ∧ Below W.heap.size W wr2) (fun _ v7 _ => 100 - (intOf v7).toNat)
      case atStart => exact ⟨0, m, A', c', by rw [hm.out, hjz'.out]; exact Lib.hid rfl, rfl, rfl, by omega, by rw [hjz'.out] at ho; rw [show p2 l (zer 128 l.length) 0 = p1 l (zer 128 l.length) from List.append_nil _]; exact ho, hb⟩
      case round =>
        obtain ⟨i, m, A', c', hm, rfl, rfl, hi, ho, hb⟩ := hrel
        have hmb : m ≤ 1000300 := by rw [hm.out]; omega
        have hcb' := cell_blk ((hb.block w.heap.size (by have := Hsz.out; omega)).trans hKh.out) 0 rfl
        by_cases hiQ : 8 + i < 16
        · have hiQ' : (8 : Int) + i < 16 := by omega
          go_wp2_with (first
                | (at_builtin
                   refine wpList_app rfl (.tmp 41) (.tmp 42) _ rfl W.heap.size 5 1 1 _ Tryd.underlying22 info8 rfl Nat.zero_lt_one (.slice A' m c') m _ rfl (ho.alloc _) (wr.heap.size + 1) (some ⟨wr.heap.size, 0, none⟩) 1 1 ([0].map B8) rfl (one_cell8 wr 0 0 rfl) (B8_one _) ?_ ?_ ?_ ?_
                   · simp only [maxLen]; omega
                   · omega
                   · simp; exact Nat.le_succ_of_le hb.size
                   intro A3 c3 w3 h3 hg3 _
                   have hb3 : Below W.heap.size W w3 := (hb.alloc hb.size _).grown hg3 (by simp; exact Nat.le_succ_of_le hb.size) (fun k hk => (ho.lt k hk).1)
                   have H3 := Lib.hid h3
                   clear h3 hg3))
          have e3 : (p2 l (zer 128 l.length) i).map B8 ++ ([0] : List UInt8).map B8 = (p2 l (zer 128 l.length) (i + 1)).map B8 := by
            rw [← List.map_append, p2, List.append_assoc _ (List.replicate i 0), ← List.replicate_succ']; rfl
          have h3 := H3.out
          rw [e3] at h3
          go_roundw
          case rel => exact ⟨i + 1, m + 1, A3, c3, (by rw [hm.out]; rfl : m + 1 = l.length + 1 + zer 128 l.length + (i + 1)), rfl, by congr 1, by omega, h3, hb3⟩
          case measure => simp only [intOf]; omega
        · have hiQ2 : Hid (i = 16 - 8) := (by omega : i = 16 - 8)
          have hiQ' : ¬ (8 : Int) + i < 16 := by omega
          obtain ⟨xx, hxx⟩ : ∃ x, Hid (x = l.length * 8) := ⟨_, Lib.hid rfl⟩
          have hxb : xx ≤ 8000000 := by rw [hxx.out]; omega
          have c1' : IntKind.u64.wrap (l.length : Int) = (l.length : Int) := by rw [wrapU, Nat.mod_eq_of_lt (by omega)]
          have c2' : IntKind.u64.wrap ((l.length : Int) * 8) = (xx : Int) := by rw [show (l.length : Int) * 8 = ((l.length * 8 : Nat) : Int) by omega, wrapU, Nat.mod_eq_of_lt (by omega), hxx.out]
          go_wp2_with fail
          go_loopw [6, 8] (fun v6 v8 wr3 => ∃ (k m : Nat) (A' : Option Addr) (c' : Nat), Hid (m = l.length + 1 + zer 128 l.length + (16 - 8) + k) ∧ v6 = .slice A' m c' ∧ v8 = .int .i64 ((7 : Int) - k) ∧ k ≤ 8 ∧ wr3.ownsRow W.heap.size 5 1 (.slice A' m c') m ((p3 l (zer 128 l.length) (16 - 8) xx k).map B8) ∧ Below W.heap.size W wr3) (fun _ v8 _ => (intOf v8 + 1).toNat)
          case atStart => exact ⟨0, m, A', c', by rw [hm.out, hiQ2.out]; exact Lib.hid rfl, rfl, rfl, by omega, by rw [hiQ2.out] at ho; rw [show p3 l (zer 128 l.length) (16 - 8) xx 0 = p2 l (zer 128 l.length) (16 - 8) from List.append_nil _]; exact ho, hb⟩
          case round =>
            obtain ⟨k, m, A', c', hm, rfl, rfl, hk8, ho, hb⟩ := hrel
            have hmb : m ≤ 1000400 := by rw [hm.out]; omega
            by_cases hk : k < 8
            · have hk' : (0 : Int) ≤ 7 - (k : Int) := by omega
              obtain ⟨sh, hsh⟩ : ∃ x, Hid (x = 56 - 8 * k) := ⟨_, Lib.hid rfl⟩
              have hsb : sh ≤ 56 := by rw [hsh.out]; omega
              have d1 : IntKind.i64.wrap (8 * ((7 : Int) - k)) = (sh : Int) := by rw [hsh.out, IntWalk.i64_in _ (by omega)]; omega
              obtain ⟨y, hy⟩ : ∃ y, Hid (xx / 2 ^ sh = y) := ⟨_, Lib.hid rfl⟩
              have hyb : y ≤ 8000000 := by rw [← hy.out]; exact Nat.le_trans (Nat.div_le_self _ _) hxb
              obtain ⟨z, hz⟩ : ∃ z, Hid (z = y % 256) := ⟨_, Lib.hid rfl⟩
              have hzb : z < 256 := by rw [hz.out]; omega
              have d2 : (y : Int) % 256 = (z : Int) := by rw [hz.out]; omega
              have d3 : (y : Int).tmod 256 = (z : Int) := by rw [← d2, Int.tmod_eq_emod_of_nonneg (by omega)]
              have d4 : IntKind.u8.wrap (z : Int) = (z : Int) := by rw [IntKind.wrap_u8']; omega
              have d5 : IntKind.i64.wrap ((7 : Int) - k - 1) = (7 : Int) - (k + 1 : Nat) := by rw [IntWalk.i64_in _ (by omega)]; omega
              have hby : Hid (((UInt8.ofNat (xx / 2 ^ sh)).toNat : Int) = (z : Int)) := by
                unfold Hid
                rw [hy.out, UInt8.toNat_ofNat', hz.out]
              have hbe : Hid ((toBE 64 xx).take k ++ [UInt8.ofNat (xx / 2 ^ sh)] = (toBE 64 xx).take (k + 1)) := by
                unfold Hid
                rw [List.take_add_one]
                congr 1
                rw [toBE, List.getElem?_map, List.getElem?_range (by omega)]
                simp only [Option.map_some, Option.toList_some]
                rw [hsh.out]
              go_wp2_with fail
              refine (shift' xx sh y _ (by omega) (by omega) hy.out).mono ?_
              rintro ee w4 ⟨rfl, rfl⟩
              go_wp2_with (first
                | (at_builtin
                   refine wpList_app rfl (.tmp 48) (.tmp 58) _ rfl W.heap.size 5 1 1 _ Tryd.underlying22 info8 rfl Nat.zero_lt_one (.slice A' m c') m _ rfl (ho.alloc _) (wr.heap.size + 1) (some ⟨wr.heap.size, 0, none⟩) 1 1 ([(UInt8.ofNat (xx / 2 ^ sh))].map B8) rfl (one_cell8 wr (UInt8.ofNat (xx / 2 ^ sh)) (z : Int) hby.out) (B8_one _) ?_ ?_ ?_ ?_
                   · simp only [maxLen]; omega
                   · omega
                   · simp; exact Nat.le_succ_of_le hb.size
                   intro A3 c3 w3 h3 hg3 _
                   have hb3 : Below W.heap.size W w3 := (hb.alloc hb.size _).grown hg3 (by simp; exact Nat.le_succ_of_le hb.size) (fun k hk => (ho.lt k hk).1)
                   have H3 := Lib.hid h3
                   clear h3 hg3))
              have h3 := H3.out
              rw [← List.map_append, p3, List.append_assoc _ ((toBE 64 xx).take k), hbe.out] at h3
              go_roundw
              case rel => exact ⟨k + 1, m + 1, A3, c3, (by rw [hm.out]; rfl : m + 1 = l.length + 1 + zer 128 l.length + (16 - 8) + (k + 1)), rfl, by congr 1 <;> omega, by omega, h3, hb3⟩
              case measure => simp only [intOf]; omega
            · have hk8' : Hid (k = 8) := (by omega : k = 8)
              have hk' : ¬ (0 : Int) ≤ 7 - (k : Int) := by omega
              have hpd : Hid (p3 l (zer 128 l.length) (16 - 8) xx 8 = padd 128 l l.length) := by
                unfold Hid p3 p2 p1 padd tail
                rw [hxx.out, Nat.mod_eq_of_lt (show l.length * 8 < 2 ^ 64 by omega), List.take_of_length_le (by simp [toBE])]
                simp
              obtain ⟨nb, hnb, hnb0⟩ := padd_length 128 (by decide) (by decide) l l.length
              have hmS : Hid (m = nb * 128) := by
                have h1 := ho.1
                rw [hk8'.out, hpd.out, List.length_map, hnb] at h1
                exact (by omega : m = nb * 128)
              rw [hk8'.out, hpd.out] at ho
              have hm0 : 0 < m := by rw [hm.out]; omega
              obtain ⟨gp, rfl, hgp, hgl⟩ := own_addr ho hm0
              have hcap := own_cap' ho
              have hrp := Lib.hid (Rd.of_own ho)
              have hbP := hb
              have hfr := Lib.hid (Hf.out.to hb)
              have hkr := Lib.hid (Hk.out.to hb)
              obtain ⟨wp, hwp⟩ : ∃ wp, wp = wr := ⟨wr, rfl⟩
              subst hwp
              have hKp := Lib.hid ((hb.block w.heap.size (by have := Hsz.out; omega)).trans hKh.out)
              have hc15 := cell_blk hKp.out 15 rfl
              clear ho hb
              go_wp2_with fail
              go_loopw [9, 10] (fun v9 v10 wr4 => ∃ (t ix : Nat) (Av : Option Addr) (cv : Nat), v9 = .slice Av 8 cv ∧ v10 = .int .i64 ix ∧ Hid (ix = t * 128) ∧ t ≤ nb ∧ Hid (Rd wr4 wr4.heap.size 1 Av 8 ((comp K64 t F64 (padd 128 l l.length)).l.map U)) ∧ Below wp.heap.size wp wr4) (fun _ v10 _ => m - (intOf v10).toNat)
              case atStart => exact ⟨0, 0, A2, c2, rfl, rfl, rfl, Nat.zero_le _, hfr, Below.refl _ _⟩
              case round =>
                obtain ⟨t, ix, Av, cv, rfl, rfl, hix, ht, hv, hb⟩ := hrel
                have hixm : ix ≤ m := by rw [hix.out, hmS.out]; exact Nat.mul_le_mul_right _ ht
                by_cases htn : t < nb
                · have hix2 : ix + 128 ≤ m := by
                    rw [hix.out, hmS.out, ← Nat.succ_mul]; exact Nat.mul_le_mul_right _ htn
                  have e1 : IntKind.i64.wrap ((ix : Int) + 128) = ((ix + 128 : Nat) : Int) := by rw [IntWalk.i64_in _ (by omega)]; omega
                  have e2 : (ix : Int) < (m : Int) := by omega
                  have b0 : (0 : Int) ≤ (ix : Int) := by omega
                  have b1 : (ix : Int) + 128 ≤ (c' : Int) := by omega
                  have b2 : ¬ c' = ix := by omega
                  have b3 : ix + 128 - ix = 128 := by omega
                  have b4 : ((ix : Int) + 128).toNat = ix + 128 := by omega
                  have b5 : (ix : Int) ≤ (ix : Int) + 128 := by omega
                  have hKr := Lib.hid ((hb.block w.heap.size (by have := hbP.size; have := Hsz.out; omega)).trans hKp.out)
                  have hrb : Hid (Rd wr.drew wr.drew.heap.size 1 (some ⟨gp, ix, none⟩) 128 ((((padd 128 l l.length).drop ix).take 128).map B8)) := by
                    have h1 := (hrp.out.to hb).to (below_drew (Below.refl _ _))
                    have h2 := (h1.cut (k := ix) (cap := c') hixm hcap).take (k := 128) (by omega)
                    rw [if_neg b2, Nat.mul_one, Option.map_some, addr_add, Nat.zero_add] at h2
                    rw [List.map_take, List.map_drop]
                    exact h2
                  have hKS : Hid (∀ w', Below wr.drew.heap.size wr.drew w' → w'.heap[w.heap.size]? = some (.cells #[.int .i64 64, .int .i64 80, .int .i64 28, .int .i64 34, .int .i64 39, .int .i64 14, .int .i64 18, .int .i64 41, .int .i64 1, .int .i64 8, .int .i64 7, .int .i64 19, .int .i64 61, .int .i64 6, .slice A1 80 c1, .slice A2 8 c2] 50 (0, 0))) := fun w' hS =>
                    (hS.block w.heap.size (World.block_lt_of_cell? _ _ (cell_blk hKr.out 1 rfl))).trans hKr.out
                  have hvd := Lib.hid (hv.out.to (below_drew (Below.refl _ _)))
                  have hkd := Lib.hid ((hkr.out.to hb).to (below_drew (Below.refl _ _)))
                  have hokt : Hid ((comp K64 t F64 (padd 128 l l.length)).ok 64) := comp_ok t F64_ok
                  have hnext : Hid (blk K64 (comp K64 t F64 (padd 128 l l.length)) (((padd 128 l l.length).drop ix).take 128) = comp K64 (t + 1) F64 (padd 128 l l.length)) := by
                    unfold Hid
                    rw [hix.out]
                    exact (comp_snoc K64 t F64 (padd 128 l l.length)).symm
                  go_wp2_with fail
                  refine wp_region_noPanic ?_
                  refine wp_region_held_drew (S := fun w' => Below wr.drew.heap.size wr.drew w') (by kernel_rfl) (Below.refl _ _) (fun hS => ?_)
                  refine wpAnyH_take (i := 0) (v := _) rfl (by kernel_rfl) (by kernel_rfl) (by kernel_rfl) (fun _ _ _ h => h) (yields_load (by rfl) (.tmp 2) (by rfl) (by rfl) (fun w hSw => load_blk (hKS.out w hSw) Tryd.underlying50 rfl (by kernel_rfl))) hS ?rest0
                  try simp only [Act.put, List.getElem_toArray, List.getElem_cons_zero, List.getElem_cons_succ, List.setIfInBounds_toArray, List.set_cons_zero, List.set_cons_succ]
                  refine wpAnyH_take (i := 1) (v := ?v1) rfl (by kernel_rfl) (by kernel_rfl) (by kernel_rfl) (fun _ _ _ h => h) (Or.inl ⟨by rfl, ?hy1⟩) hS ?rest1
                  case hy1 => (intro w hSw; go_simp; first | done | with_reducible rfl)
                  try simp only [Act.put, List.getElem_toArray, List.getElem_cons_zero, List.getElem_cons_succ, List.setIfInBounds_toArray, List.set_cons_zero, List.set_cons_succ]
                  refine wpAnyH_take (i := 2) (v := ?v2) rfl (by kernel_rfl) (by kernel_rfl) (by kernel_rfl) (fun _ _ _ h => h) (Or.inl ⟨by rfl, ?hy2⟩) hS ?rest2
                  case hy2 => (intro w hSw; go_simp; first | done | with_reducible rfl)
                  try simp only [Act.put, List.getElem_toArray, List.getElem_cons_zero, List.getElem_cons_succ, List.setIfInBounds_toArray, List.set_cons_zero, List.set_cons_succ]
                  refine wpAnyH_take (i := 3) (v := ?v3) rfl (by kernel_rfl) (by kernel_rfl) (by kernel_rfl) (fun _ _ _ h => h) (Or.inl ⟨by rfl, ?hy3⟩) hS ?rest3
                  case hy3 => (intro w hSw; go_simp; first | done | with_reducible rfl)
                  try simp only [Act.put, List.getElem_toArray, List.getElem_cons_zero, List.getElem_cons_succ, List.setIfInBounds_toArray, List.set_cons_zero, List.set_cons_succ]
                  refine wpAnyH_take (i := 4) (v := ?v4) rfl (by kernel_rfl) (by kernel_rfl) (by kernel_rfl) (fun _ _ _ h => h) (Or.inl ⟨by rfl, ?hy4⟩) hS ?rest4
                  case hy4 => (intro w hSw; go_simp; first | done | with_reducible rfl)
                  try simp only [Act.put, List.getElem_toArray, List.getElem_cons_zero, List.getElem_cons_succ, List.setIfInBounds_toArray, List.set_cons_zero, List.set_cons_succ]
                  refine wpAnyH_take (i := 5) (v := ?v5) rfl (by kernel_rfl) (by kernel_rfl) (by kernel_rfl) (fun _ _ _ h => h) (Or.inl ⟨by rfl, ?hy5⟩) hS ?rest5
                  case hy5 => (intro w hSw; go_simp; first | done | with_reducible rfl)
                  try simp only [Act.put, List.getElem_toArray, List.getElem_cons_zero, List.getElem_cons_succ, List.setIfInBounds_toArray, List.set_cons_zero, List.set_cons_succ]
                  refine wpAnyH_take (i := 6) (v := ?v6) rfl (by kernel_rfl) (by kernel_rfl) (by kernel_rfl) (fun _ _ _ h => h) (Or.inl ⟨by rfl, ?hy6⟩) hS ?rest6
                  case hy6 => (intro w hSw; go_simp; first | done | with_reducible rfl)
                  try simp only [Act.put, List.getElem_toArray, List.getElem_cons_zero, List.getElem_cons_succ, List.setIfInBounds_toArray, List.set_cons_zero, List.set_cons_succ]
                  refine wpAnyH_take (i := 7) (v := ?v7) rfl (by kernel_rfl) (by kernel_rfl) (by kernel_rfl) (fun _ _ _ h => h) (Or.inl ⟨by rfl, ?hy7⟩) hS ?rest7
                  case hy7 => (intro w hSw; go_simp; first | done | with_reducible rfl)
                  try simp only [Act.put, List.getElem_toArray, List.getElem_cons_zero, List.getElem_cons_succ, List.setIfInBounds_toArray, List.set_cons_zero, List.set_cons_succ]
                  refine wpAnyH_ready (rs := [8]) (by kernel_rfl) (by simp) ?_
                  refine AllReadyH.cons rfl (fun K hK => ?_) AllReadyH.nil
                  go_simp
                  refine (rblock_64 Av _ cv _ (comp K64 t F64 (padd 128 l l.length)) (((padd 128 l l.length).drop ix).take 128) A1 A2 c1 c2 _ hkd.out hvd.out hokt.out hrb.out).mono ?_
                  rintro ee u1 ⟨A5, c5, rfl, g1, p1⟩
                  go_wp2_with fail
                  refine hK.out _ _ p1 ?_
                  intro hS
                  clear hK K
                  try simp only [Act.put, List.getElem_toArray, List.getElem_cons_zero, List.getElem_cons_succ, List.setIfInBounds_toArray, List.set_cons_zero, List.set_cons_succ]
                  refine wpAnyH_take (i := 9) (v := ?v9) rfl (by kernel_rfl) (by kernel_rfl) (by kernel_rfl) (fun _ _ _ h => h) (Or.inl ⟨by rfl, ?hy9⟩) hS ?rest9
                  case hy9 => (intro w hSw; go_simp; first | done | with_reducible rfl)
                  try simp only [Act.put, List.getElem_toArray, List.getElem_cons_zero, List.getElem_cons_succ, List.setIfInBounds_toArray, List.set_cons_zero, List.set_cons_succ]
                  refine wpAnyH_done (by kernel_rfl) (NoPanic.normal ?_) _
                  go_wp2_with fail
                  rw [hnext.out] at g1
                  go_roundw
                  case rel => exact ⟨t + 1, ix + 128, A5, c5, rfl, by go_num, by rw [hix.out]; exact (Nat.succ_mul t 128).symm, htn, g1.rd, (below_drew hb).trans (p1.mono hb.size)⟩
                  case measure => simp only [intOf]; omega
                · have htn2 : Hid (t = nb) := (by omega : t = nb)
                  have e2 : ¬ (ix : Int) < (m : Int) := by have := hix.out; have := hmS.out; rw [htn2.out] at *; omega
                  obtain ⟨V, hV⟩ : ∃ V, Hid (V = comp K64 nb F64 (padd 128 l l.length)) := ⟨_, Lib.hid rfl⟩
                  have hVo : Hid (V.ok 64) := by unfold Hid; rw [hV.out]; exact comp_ok nb F64_ok
                  have hvV : Hid (Rd wr wr.heap.size 1 Av 8 (V.l.map U)) := by unfold Hid; rw [hV.out, ← htn2.out]; exact hv.out
                  have hbq : Hid (Below W.heap.size W wr) := hbP.trans (hb.mono hbP.size)
                  obtain ⟨wq, hwq⟩ : ∃ wq, wq = wr := ⟨wr, rfl⟩
                  subst hwq
                  have hKq := Lib.hid ((hbq.out.block w.heap.size (by have := Hsz.out; omega)).trans hKh.out)
                  clear hv
                  go_wp2_with fail
                  go_loopw [11, 12, 13] (fun x11 x12 _ wr5 => ∃ (i q : Nat) (A' : Option Addr) (c' : Nat), Hid (q = i * 8) ∧ x11 = .slice A' q c' ∧ x12 = .int .i64 i ∧ i ≤ 8 ∧ wr5.ownsRow wq.heap.size 5 1 (.slice A' q c') q (((V.l.take i).flatMap (toBE 64)).map B8) ∧ Below wq.heap.size wq wr5) (fun _ x12 _ _ => 8 - (intOf x12).toNat)
                  case atStart => exact ⟨0, 0, none, 0, rfl, rfl, rfl, by omega, World.ownsRow_nil _ _ _ _, Below.refl _ _⟩
                  case round =>
                    obtain ⟨i, q, A', c', hq, rfl, rfl, hi, ho, hb⟩ := hrel
                    have hcb5 := cell_blk ((hb.block w.heap.size (World.block_lt_of_cell? _ _ (cell_blk hKq.out 0 rfl))).trans hKq.out) 0 rfl
                    by_cases hi8 : i < 8
                    · have hi8' : (i : Int) < 8 := by omega
                      have hi0 : (0 : Int) ≤ i := by omega
                      obtain ⟨x, hx⟩ : ∃ x, Hid (V.l.getD i 0 = x) := ⟨_, Lib.hid rfl⟩
                      have hx64 : x < 18446744073709551616 := by
                        rw [← hx.out]
                        refine getD_lt (by decide) (fun y hy => ?_) i
                        obtain ⟨o1, o2, o3, o4, o5, o6, o7, o8⟩ := hVo.out
                        simp [S8.l] at hy
                        have hM : (2 : Nat) ^ 64 ≤ 18446744073709551616 := by decide
                        rcases hy with h | h | h | h | h | h | h | h <;> (rw [h]; omega)
                      have hst : Hid ((V.l.take i).flatMap (toBE 64) ++ toBE 64 x = (V.l.take (i + 1)).flatMap (toBE 64)) := by
                        unfold Hid
                        have e : V.l[i]? = some x := by
                          rw [List.getElem?_eq_getElem (by simpa [S8.l] using hi8), ← hx.out]
                          simp [List.getD, show i < V.l.length by simpa [S8.l] using hi8]
                        rw [List.take_add_one, e]
                        simp
                      have e8 : IntKind.i64.wrap ((i : Int) + 1) = ((i + 1 : Nat) : Int) := by rw [IntWalk.i64_in _ (by omega)]; omega
                      go_wp2_with fail
                      go_loopw [11, 13] (fun x11 x13 wr6 => ∃ (j m : Nat) (n : Int) (A' : Option Addr) (c' : Nat), Hid (m = i * 8 + j) ∧ x11 = .slice A' m c' ∧ x13 = .int .i64 n ∧ Hid (n = 56 - 8 * (j : Int)) ∧ j ≤ 8 ∧ wr6.ownsRow wq.heap.size 5 1 (.slice A' m c') m (((V.l.take i).flatMap (toBE 64) ++ (toBE 64 x).take j).map B8) ∧ Below wq.heap.size wq wr6) (fun _ x13 _ => (intOf x13 + 8).toNat)
                      case atStart => exact ⟨0, q, 56, A', c', hq, rfl, rfl, by unfold Hid; omega, by omega, by simpa using ho, hb⟩
                      case round =>
                        obtain ⟨j, m, n, A', c', hm, rfl, rfl, hn', hj, ho, hb⟩ := hrel
                        have hmb : m ≤ 1000 := by rw [hm.out]; omega
                        obtain ⟨bv, ov, x', rfl, hbv, hcx, hxx'⟩ := (hvV.out.below hb).atU (k := i) hi8
                        obtain rfl : x = x' := by rw [← hx.out, ← hxx'.out]
                        by_cases hjz : j < 8
                        · obtain ⟨sh, rfl⟩ : ∃ sh : Nat, n = sh := ⟨n.toNat, by have := hn'.out; omega⟩
                          have hsb : sh ≤ 64 := by have := hn'.out; omega
                          have hsh : Hid (sh = 56 - 8 * j) := by have := hn'.out; exact (by omega : sh = 56 - 8 * j)
                          have hs0 : (0 : Int) ≤ (sh : Int) := by omega
                          obtain ⟨y, hy⟩ : ∃ y, Hid (x / 2 ^ sh = y) := ⟨_, Lib.hid rfl⟩
                          have hyb : y < 18446744073709551616 := by rw [← hy.out]; exact Nat.lt_of_le_of_lt (Nat.div_le_self _ _) hx64
                          obtain ⟨z, hz⟩ : ∃ z, Hid (z = y % 256) := ⟨_, Lib.hid rfl⟩
                          have hzb : z < 256 := by rw [hz.out]; omega
                          have d2 : (y : Int) % 256 = (z : Int) := by rw [hz.out]; omega
                          have d3 : (y : Int).tmod 256 = (z : Int) := by rw [← d2, Int.tmod_eq_emod_of_nonneg (by omega)]
                          have d4 : IntKind.u8.wrap (z : Int) = (z : Int) := by rw [IntKind.wrap_u8']; omega
                          have hby : Hid (((UInt8.ofNat (x / 2 ^ sh)).toNat : Int) = (z : Int)) := by
                            unfold Hid
                            rw [hy.out, UInt8.toNat_ofNat', hz.out]
                          have hbe : Hid ((toBE 64 x).take j ++ [UInt8.ofNat (x / 2 ^ sh)] = (toBE 64 x).take (j + 1)) := by
                            unfold Hid
                            rw [List.take_add_one]
                            congr 1
                            rw [toBE, List.getElem?_map, List.getElem?_range (by omega)]
                            simp only [Option.map_some, Option.toList_some]
                            rw [hsh.out]
                          go_wp2_with fail
                          refine (shift' x sh y _ hx64 hsb hy.out).mono ?_
                          rintro ee w4 ⟨rfl, rfl⟩
                          go_wp2_with (first
                | (at_builtin
                   refine wpList_app rfl (.tmp 89) (.tmp 98) _ rfl wq.heap.size 5 1 1 _ Tryd.underlying22 info8 rfl Nat.zero_lt_one (.slice A' m c') m _ rfl (ho.alloc _) (wr.heap.size + 1) (some ⟨wr.heap.size, 0, none⟩) 1 1 ([(UInt8.ofNat (x / 2 ^ sh))].map B8) rfl (one_cell8 wr (UInt8.ofNat (x / 2 ^ sh)) (z : Int) hby.out) (B8_one _) ?_ ?_ ?_ ?_
                   · simp only [maxLen]; omega
                   · omega
                   · simp; exact Nat.le_succ_of_le hb.size
                   intro A3 c3 w3 h3 hg3 _
                   have hb3 : Below wq.heap.size wq w3 := (hb.alloc hb.size _).grown hg3 (by simp; exact Nat.le_succ_of_le hb.size) (fun k hk => (ho.lt k hk).1)
                   have H3 := Lib.hid h3
                   clear h3 hg3))
                          have h3 := H3.out
                          rw [← List.map_append, List.append_assoc, hbe.out] at h3
                          go_roundw
                          case rel => exact ⟨j + 1, m + 1, _, A3, c3, (by rw [hm.out]; rfl : m + 1 = i * 8 + (j + 1)), rfl, rfl, (by have := hn'.out; unfold Hid; omega), hjz, h3, hb3⟩
                          case measure => simp only [intOf]; omega
                        · have hjz2 : Hid (j = 8) := (by omega : j = 8)
                          have hn0 : ¬ (0 : Int) ≤ n := by have := hn'.out; omega
                          rw [hjz2.out, List.take_of_length_le (l := toBE 64 x) (by simp [toBE]), hst.out] at ho
                          go_wp2_with fail
                          go_roundw
                          case rel => exact ⟨i + 1, m, A', c', by rw [hm.out, hjz2.out]; exact (Nat.succ_mul i 8).symm, rfl, by go_num, hi8, ho, hb⟩
                          case measure => simp only [intOf]; omega
                    · have hi88 : Hid (i = 8) := (by omega : i = 8)
                      have hi8' : ¬ (i : Int) < 8 := by omega
                      rw [hi88.out, List.take_of_length_le (l := V.l) (by simp [S8.l])] at ho
                      have hq8 : Hid (q = 64) := by have := hq.out; rw [hi88.out] at this; exact this
                      go_wp2_with fail
                      go_ret
                      obtain rfl : q = 64 := hq8.out
                      have htold : sumOf K64 F64 l = V.l.flatMap (toBE 64) := by
                        rw [hV.out]
                        unfold sumOf told
                        show (comp K64 ((padd 128 l l.length).length / 128) F64 (padd 128 l l.length)).l.flatMap (toBE 64) = _
                        rw [hnb, Nat.mul_div_cancel _ (by decide)]
                      rw [htold]
                      exact ⟨A', c', rfl, own_mono ho (Nat.le_trans hb0.size hbq.out.size), hb0.trans ((hbq.out.trans (hb.mono hbq.out.size)).mono hb0.size)⟩
end Go.Proofs.YtclecmpmohoamaaDoor
