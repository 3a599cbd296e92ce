/- The document's block. (Printed by gen_shae.py.) -/
import Derived.Test.YtclecmpmohoamaaDoorShaD
namespace Go.Proofs.YtclecmpmohoamaaDoor
open Go.RowKit
set_option linter.unusedVariables false
attribute [local go_sem ↓] Go.wp_at_zero Go.wp_at_succ
set_option linter.unusedSimpArgs false
theorem max_xor (e : Nat) (he : e < 18446744073709551616) : 18446744073709551615 ^^^ e = 18446744073709551615 - e := by
  have h : (~~~ (BitVec.ofNat 64 e)).toNat = 18446744073709551615 - e := by
    rw [BitVec.toNat_not, BitVec.toNat_ofNat, Nat.mod_eq_of_lt he]
  rw [← h, ← BitVec.allOnes_xor, BitVec.toNat_xor, BitVec.toNat_allOnes, BitVec.toNat_ofNat, Nat.mod_eq_of_lt he]
theorem Sta.old {W w : World} {A : Option Addr} {xs ys : List Value} {base n c : Nat} (h : Sta W A xs w) (ho : OwnS W base A n c ys) (hA : A = none ∨ 0 < c) {k : Nat} (hk : k < base) (hk2 : k < W.heap.size) : w.heap[k]? = W.heap[k]? :=
  h.2.1 k hk2 fun g o e => by
    rcases hA with h0 | h0
    · rw [h0] at e; cases e
    · obtain ⟨g', o', e', hg, _⟩ := ho.mem h0
      rw [e'] at e
      injection e with e
      injection e with e1 _
      omega
theorem Rd.to' {w w' : World} {B size n : Nat} {A : Option Addr} {xs : List Value} (h : Rd w B size A n xs) (hb : Below B w w') : Rd w' B size A n xs := h.below hb
theorem add8_get (n : Nat) (v s : S8) (i : Nat) (hi : i < 8) : (add8 n v s).l[i]? = some ((v.l.getD i 0 + s.l.getD i 0) % 2 ^ n) := by
  rcases i with _ | _ | _ | _ | _ | _ | _ | _ | i
  all_goals first | rfl | omega
theorem range_of {w : World} {g : Nat} {cs : Array Value} {t : TypeId} (h : w.heap[g]? = some (.cells cs t (0, 0))) : w.rangeAt g 0 cs.toList := fun j v hj => by rw [Nat.zero_add]; simp at hj; simp [World.cell?, h, hj]
theorem range_part {w : World} {g o : Nat} {cs : Array Value} {t : TypeId} (part : List Value) (h : w.heap[g]? = some (.cells cs t (0, 0))) (hp : ∀ j v, part[j]? = some v → cs[o + j]? = some v) : w.rangeAt g o part := fun j v hj => by simp [World.cell?, h, hp j v hj]

theorem one_32 (h r x k w d : Nat) : (d + ((((h + r) % 18446744073709551616 + x) % 18446744073709551616 + k) % 18446744073709551616 + w) % 18446744073709551616) % 18446744073709551616 % 2 ^ 32 = (d + (h + r + x + k + w)) % 2 ^ 32 := by
  simp only [Nat.reducePow]; omega
theorem two_32 (h r x k w r2 x2 : Nat) : (((((h + r) % 18446744073709551616 + x) % 18446744073709551616 + k) % 18446744073709551616 + w) % 18446744073709551616 + (r2 + x2) % 18446744073709551616) % 18446744073709551616 % 2 ^ 32 = (h + r + x + k + w + (r2 + x2)) % 2 ^ 32 := by
  simp only [Nat.reducePow]; omega
theorem cut_add_32 (a b : Nat) : (a + b) % 18446744073709551616 % 2 ^ 32 = (a + b) % 2 ^ 32 := by
  simp only [Nat.reducePow]; omega
theorem not_32 (e : Nat) (he : e < 2 ^ 32) : (18446744073709551615 - e) % 2 ^ 32 = 2 ^ 32 - 1 - e := by
  simp only [Nat.reducePow] at *; omega

set_option maxRecDepth 20000 in
set_option maxHeartbeats 4000000 in
theorem rblock_32 (Av A : Option Addr) (cv c : Nat) (v : S8) (l : List UInt8) (A1 A2 : Option Addr) (c1 c2 : Nat) (w : World) (hk : Rd w w.heap.size 1 A1 64 (K32.key.map U)) (hv : Rd w w.heap.size 1 Av 8 (v.l.map U)) (hok : v.ok 32) (hr : Rd w w.heap.size 1 A 64 (l.map B8)) :
    Calls Tryd.prog 52 #[.agg #[.int .i64 32, .int .i64 64, .int .i64 2, .int .i64 13, .int .i64 22, .int .i64 6, .int .i64 11, .int .i64 25, .int .i64 7, .int .i64 18, .int .i64 3, .int .i64 17, .int .i64 19, .int .i64 10, .slice A1 64 c1, .slice A2 8 c2], .slice Av 8 cv, .slice A 64 c] w fun e w' => ∃ A' c', e = .returned (.slice A' 8 c') ∧ OwnS w' w.heap.size A' 8 c' ((blk K32 v l).l.map U) ∧ Below w.heap.size w w' := by
  obtain ⟨bk, ok, rfl, hbk, hck0⟩ := hk.2 (by omega)
  go_enter Tryd.func52, Tryd.ntmps52
  obtain ⟨W, hW⟩ : ∃ W, W = w.alloc (.cells #[.int .i64 32, .int .i64 64, .int .i64 2, .int .i64 13, .int .i64 22, .int .i64 6, .int .i64 11, .int .i64 25, .int .i64 7, .int .i64 18, .int .i64 3, .int .i64 17, .int .i64 19, .int .i64 10, .slice (some ⟨bk, ok, none⟩) 64 c1, .slice A2 8 c2] 50) := ⟨_, rfl⟩
  have hb0 : Below w.heap.size w W := by rw [hW]; exact (Below.refl _ _).alloc (Nat.le_refl _) _
  have hK : W.heap[w.heap.size]? = some (.cells #[.int .i64 32, .int .i64 64, .int .i64 2, .int .i64 13, .int .i64 22, .int .i64 6, .int .i64 11, .int .i64 25, .int .i64 7, .int .i64 18, .int .i64 3, .int .i64 17, .int .i64 19, .int .i64 10, .slice (some ⟨bk, ok, none⟩) 64 c1, .slice A2 8 c2] 50 (0, 0)) := by rw [hW]; exact heap_alloc_new w _
  have hsz : w.heap.size + 1 = W.heap.size := by rw [hW]; simp
  have Hsz := Lib.hid hsz
  clear hsz
  have hr' := hr.to hb0
  have hv' := hv.to hb0
  have hk' := hk.to hb0
  have HW := Lib.hid hW
  clear hW
  have hrng : (w.alloc (.cells #[.int .i64 32, .int .i64 64, .int .i64 2, .int .i64 13, .int .i64 22, .int .i64 6, .int .i64 11, .int .i64 25, .int .i64 7, .int .i64 18, .int .i64 3, .int .i64 17, .int .i64 19, .int .i64 10, .slice (some ⟨bk, ok, none⟩) 64 c1, .slice A2 8 c2] 50)).rangeAt w.heap.size 0 [.int .i64 32, .int .i64 64, .int .i64 2, .int .i64 13, .int .i64 22, .int .i64 6, .int .i64 11, .int .i64 25, .int .i64 7, .int .i64 18, .int .i64 3, .int .i64 17, .int .i64 19, .int .i64 10, .slice (some ⟨bk, ok, none⟩) 64 c1, .slice A2 8 c2] := by
    have h := range_part [.int .i64 32, .int .i64 64, .int .i64 2, .int .i64 13, .int .i64 22, .int .i64 6, .int .i64 11, .int .i64 25, .int .i64 7, .int .i64 18, .int .i64 3, .int .i64 17, .int .i64 19, .int .i64 10, .slice (some ⟨bk, ok, none⟩) 64 c1, .slice A2 8 c2] (o := 0) hK (by intro j v hj; rw [Nat.zero_add]; simpa using hj)
    rw [HW.out] at h
    exact h
  go_wp2_with (refine wpList_load_mid rfl 50 (.tmp 3) rfl w.heap.size 0 rfl [.int .i64 32, .int .i64 64, .int .i64 2, .int .i64 13, .int .i64 22, .int .i64 6, .int .i64 11, .int .i64 25, .int .i64 7, .int .i64 18, .int .i64 3, .int .i64 17, .int .i64 19, .int .i64 10, .slice (some ⟨bk, ok, none⟩) 64 c1, .slice A2 8 c2] _ hrng Tryd.underlying50 rfl (by kernel_rfl) ?_)
  clear hrng
  rw [← HW.out]
  refine (words_32 A c l (some ⟨bk, ok, none⟩) A2 c1 c2 W hr').mono ?_
  rintro e w1 ⟨Aw, cw, rfl, how, hb1⟩
  have hKw := (hb1.block w.heap.size (by have := Hsz.out; omega)).trans hK
  have hv1 := hv'.to hb1
  have hk1 := hk'.to hb1
  have hw1 := how.rd
  obtain ⟨bw', ow, rfl, hbw, hcw0⟩ := hw1.2 (by omega)
  have hb01 := hb0.trans (hb1.mono hb0.size)
  obtain ⟨bv, ov, rfl, hbv, hcv⟩ := hv1.2 (by omega)
  have v0 : w1.cell? ⟨bv, ov, none⟩ = some (.int .u64 (v.a : Nat)) := hcv 0 _ rfl
  have v1 : w1.cell? ⟨bv, ov + 1, none⟩ = some (.int .u64 (v.b : Nat)) := hcv 1 _ rfl
  have v2 : w1.cell? ⟨bv, ov + 2, none⟩ = some (.int .u64 (v.c : Nat)) := hcv 2 _ rfl
  have v3 : w1.cell? ⟨bv, ov + 3, none⟩ = some (.int .u64 (v.d : Nat)) := hcv 3 _ rfl
  have v4 : w1.cell? ⟨bv, ov + 4, none⟩ = some (.int .u64 (v.e : Nat)) := hcv 4 _ rfl
  have v5 : w1.cell? ⟨bv, ov + 5, none⟩ = some (.int .u64 (v.f : Nat)) := hcv 5 _ rfl
  have v6 : w1.cell? ⟨bv, ov + 6, none⟩ = some (.int .u64 (v.g : Nat)) := hcv 6 _ rfl
  have v7 : w1.cell? ⟨bv, ov + 7, none⟩ = some (.int .u64 (v.h : Nat)) := hcv 7 _ rfl
  have hwl : (wds K32 l).length = 64 := by have := how.len; simpa using this
  have Hwl := Lib.hid hwl
  clear hwl
  go_wp2_with fail
  go_quiet (fail)
  have hbq : Below w1.heap.size w1 (w1.drewN nq) := below_drewN (Below.refl _ _) nq
  go_wp2_with fail
  go_loopw [8, 9, 10, 11, 12, 13, 14, 15, 16, 17, 18] (fun x8 x9 x10 x11 x12 x13 x14 x15 x16 _ _ wr => ∃ (t : Nat) (s : S8), x8 = .int .u64 (s.a : Nat) ∧ x9 = .int .u64 (s.b : Nat) ∧ x10 = .int .u64 (s.c : Nat) ∧ x11 = .int .u64 (s.d : Nat) ∧ x12 = .int .u64 (s.e : Nat) ∧ x13 = .int .u64 (s.f : Nat) ∧ x14 = .int .u64 (s.g : Nat) ∧ x15 = .int .u64 (s.h : Nat) ∧ x16 = .int .i64 t ∧ t ≤ 64 ∧ Hid (s = rnds K32 (wds K32 l) t v) ∧ Hid (s.ok 32) ∧ Below w1.heap.size w1 wr) (fun _ _ _ _ _ _ _ _ x16 _ _ _ => 64 - (intOf x16).toNat)
  case atStart => exact ⟨0, v, rfl, rfl, rfl, rfl, rfl, rfl, rfl, rfl, rfl, by omega, rfl, hok, hbq⟩
  case round =>
    obtain ⟨t, ⟨a, b, cc, d, e, f, g, h⟩, rfl, rfl, rfl, rfl, rfl, rfl, rfl, rfl, rfl, ht, hs, hso, hb⟩ := hrel
    dsimp only at *
    have hKr := (hb.block w.heap.size (by have := hb01.size; have := Hsz.out; have := hb1.size; omega)).trans hKw
    have hcR := cell_blk hKr 1 rfl
    have hvb : bv < w1.heap.size := hbv
    by_cases hlt : t < 64
    · have hlt' : (t : Int) < 64 := by omega
      obtain ⟨ba, bb, bc, bd, be', bf, bg, bh⟩ := hso.out
      dsimp only at ba bb bc bd be' bf bg bh
      obtain ⟨bk', ok', kk, hA1, hbk', hck, hkk⟩ := (hk1.below hb).atU (k := t) hlt
      injection hA1 with hA1
      injection hA1 with hA2 hA3
      subst hA2 hA3
      obtain ⟨bw2, ow2, ww, hA1, hbw', hcw, hww⟩ := (hw1.below hb).atU (k := t) hlt
      injection hA1 with hA1
      injection hA1 with hA2 hA3
      subst hA2 hA3
      have M64 : (2 : Nat) ^ 32 ≤ 18446744073709551616 := by decide
      have be64 : e < 18446744073709551616 := Nat.lt_of_lt_of_le be' M64
      obtain ⟨r1, hr1⟩ : ∃ n, Hid (tur 32 e (6, 11, 25) = n) := ⟨_, Lib.hid rfl⟩
      obtain ⟨n1, hn1⟩ : ∃ n, Hid ((h + r1) % 18446744073709551616 = n) := ⟨_, Lib.hid rfl⟩
      obtain ⟨a1, ha1⟩ : ∃ n, Hid (e &&& f = n) := ⟨_, Lib.hid rfl⟩
      obtain ⟨ne, hne⟩ : ∃ n, Hid (18446744073709551615 - e = n) := ⟨_, Lib.hid rfl⟩
      obtain ⟨q1, hq1⟩ : ∃ n, Hid (ne % 2 ^ 32 = n) := ⟨ne % 2 ^ 32, Lib.hid rfl⟩
      obtain ⟨a2, ha2⟩ : ∃ n, Hid (q1 &&& g = n) := ⟨_, Lib.hid rfl⟩
      obtain ⟨x1, hx1⟩ : ∃ n, Hid (a1 ^^^ a2 = n) := ⟨_, Lib.hid rfl⟩
      obtain ⟨n2, hn2⟩ : ∃ n, Hid ((n1 + x1) % 18446744073709551616 = n) := ⟨_, Lib.hid rfl⟩
      obtain ⟨n3, hn3⟩ : ∃ n, Hid ((n2 + kk) % 18446744073709551616 = n) := ⟨_, Lib.hid rfl⟩
      obtain ⟨n4, hn4⟩ : ∃ n, Hid ((n3 + ww) % 18446744073709551616 = n) := ⟨_, Lib.hid rfl⟩
      have ne64 : ne < 18446744073709551616 := by rw [← hne.out]; omega
      have q164 : q1 < 18446744073709551616 := by rw [← hq1.out]; exact Nat.lt_of_le_of_lt (Nat.mod_le _ _) ne64
      have a164 : a1 < 18446744073709551616 := by rw [← ha1.out]; exact Nat.lt_of_le_of_lt Nat.and_le_left be64
      have a264 : a2 < 18446744073709551616 := by rw [← ha2.out]; exact Nat.lt_of_le_of_lt Nat.and_le_left q164
      have f1 : IntKind.u64.wrap ((h : Int) + (r1 : Int)) = (n1 : Int) := by rw [← Int.natCast_add, wrapU, hn1.out]
      have f2 : bits .and .u64 (e : Int) (f : Int) = (a1 : Int) := by rw [u64_and_nat e f be64 (Nat.lt_of_lt_of_le bf M64), ha1.out]
      have f3 : bits .xor .u64 18446744073709551615 (e : Int) = (ne : Int) := by
        rw [show (18446744073709551615 : Int) = ((18446744073709551615 : Nat) : Int) from rfl, u64_xor_nat _ e (by decide) be64, ← hne.out, max_xor e be64]
      have f3' : bits .xor .u64 (if IntKind.u64.signed = true then -1 else IntKind.u64.max) (e : Int) = (ne : Int) := f3
      have f4 : bits .and .u64 (q1 : Int) (g : Int) = (a2 : Int) := by rw [u64_and_nat q1 g q164 (Nat.lt_of_lt_of_le bg M64), ha2.out]
      have f5 : bits .xor .u64 (a1 : Int) (a2 : Int) = (x1 : Int) := by rw [u64_xor_nat a1 a2 a164 a264, hx1.out]
      have f6 : IntKind.u64.wrap ((n1 : Int) + (x1 : Int)) = (n2 : Int) := by rw [← Int.natCast_add, wrapU, hn2.out]
      have f7 : IntKind.u64.wrap ((n2 : Int) + (kk : Int)) = (n3 : Int) := by rw [← Int.natCast_add, wrapU, hn3.out]
      have f8 : IntKind.u64.wrap ((n3 : Int) + (ww : Int)) = (n4 : Int) := by rw [← Int.natCast_add, wrapU, hn4.out]
      obtain ⟨r2, hr2⟩ : ∃ n, Hid (tur 32 a (2, 13, 22) = n) := ⟨_, Lib.hid rfl⟩
      obtain ⟨b1, hb1'⟩ : ∃ n, Hid (a &&& b = n) := ⟨_, Lib.hid rfl⟩
      obtain ⟨b2, hb2'⟩ : ∃ n, Hid (a &&& cc = n) := ⟨_, Lib.hid rfl⟩
      obtain ⟨x2, hx2⟩ : ∃ n, Hid (b1 ^^^ b2 = n) := ⟨_, Lib.hid rfl⟩
      obtain ⟨b3, hb3'⟩ : ∃ n, Hid (b &&& cc = n) := ⟨_, Lib.hid rfl⟩
      obtain ⟨x3, hx3⟩ : ∃ n, Hid (x2 ^^^ b3 = n) := ⟨_, Lib.hid rfl⟩
      obtain ⟨m1, hm1⟩ : ∃ n, Hid ((r2 + x3) % 18446744073709551616 = n) := ⟨_, Lib.hid rfl⟩
      obtain ⟨p1, hp1⟩ : ∃ n, Hid ((d + n4) % 18446744073709551616 = n) := ⟨_, Lib.hid rfl⟩
      obtain ⟨p2, hp2⟩ : ∃ n, Hid ((n4 + m1) % 18446744073709551616 = n) := ⟨_, Lib.hid rfl⟩
      have ba64 : a < 18446744073709551616 := Nat.lt_of_lt_of_le ba M64
      have bb64 : b < 18446744073709551616 := Nat.lt_of_lt_of_le bb M64
      have bc64 : cc < 18446744073709551616 := Nat.lt_of_lt_of_le bc M64
      have b164 : b1 < 18446744073709551616 := by rw [← hb1'.out]; exact Nat.lt_of_le_of_lt Nat.and_le_left ba64
      have b264 : b2 < 18446744073709551616 := by rw [← hb2'.out]; exact Nat.lt_of_le_of_lt Nat.and_le_left ba64
      have b364 : b3 < 18446744073709551616 := by rw [← hb3'.out]; exact Nat.lt_of_le_of_lt Nat.and_le_left bb64
      have x264 : x2 < 18446744073709551616 := by rw [← hx2.out]; exact Nat.xor_lt_two_pow (n := 64) b164 b264
      have p164 : p1 < 18446744073709551616 := by rw [← hp1.out]; exact Nat.mod_lt _ (by decide)
      have p264 : p2 < 18446744073709551616 := by rw [← hp2.out]; exact Nat.mod_lt _ (by decide)
      have g1 : bits .and .u64 (a : Int) (b : Int) = (b1 : Int) := by rw [u64_and_nat a b ba64 bb64, hb1'.out]
      have g2 : bits .and .u64 (a : Int) (cc : Int) = (b2 : Int) := by rw [u64_and_nat a cc ba64 bc64, hb2'.out]
      have g3 : bits .xor .u64 (b1 : Int) (b2 : Int) = (x2 : Int) := by rw [u64_xor_nat b1 b2 b164 b264, hx2.out]
      have g4 : bits .and .u64 (b : Int) (cc : Int) = (b3 : Int) := by rw [u64_and_nat b cc bb64 bc64, hb3'.out]
      have g5 : bits .xor .u64 (x2 : Int) (b3 : Int) = (x3 : Int) := by rw [u64_xor_nat x2 b3 x264 b364, hx3.out]
      have g6 : IntKind.u64.wrap ((r2 : Int) + (x3 : Int)) = (m1 : Int) := by rw [← Int.natCast_add, wrapU, hm1.out]
      have g7 : IntKind.u64.wrap ((d : Int) + (n4 : Int)) = (p1 : Int) := by rw [← Int.natCast_add, wrapU, hp1.out]
      have g8 : IntKind.u64.wrap ((n4 : Int) + (m1 : Int)) = (p2 : Int) := by rw [← Int.natCast_add, wrapU, hp2.out]
      have g9 : IntKind.i64.wrap ((t : Int) + 1) = ((t + 1 : Nat) : Int) := by rw [IntWalk.i64_in _ (by omega)]; omega
      obtain ⟨e', he'⟩ : ∃ n, Hid (p1 % 2 ^ 32 = n) := ⟨p1 % 2 ^ 32, Lib.hid rfl⟩
      obtain ⟨a', ha'⟩ : ∃ n, Hid (p2 % 2 ^ 32 = n) := ⟨p2 % 2 ^ 32, Lib.hid rfl⟩
      have hrnd : Hid ((⟨a', a, b, cc, e', e, f, g⟩ : S8) = rnds K32 (wds K32 l) (t + 1) v) := by
        show _ = rnd K32 (K32.key.getD t 0) ((wds K32 l).getD t 0) (rnds K32 (wds K32 l) t v)
        rw [← hs.out, hkk.out, hww.out]
        unfold rnd one two
        show (⟨a', a, b, cc, e', e, f, g⟩ : S8) = ⟨(h + tur 32 e (6, 11, 25) + (e &&& f ^^^ (2 ^ 32 - 1 - e) &&& g) + kk + ww + (tur 32 a (2, 13, 22) + (a &&& b ^^^ a &&& cc ^^^ b &&& cc))) % 2 ^ 32, a, b, cc, (d + (h + tur 32 e (6, 11, 25) + (e &&& f ^^^ (2 ^ 32 - 1 - e) &&& g) + kk + ww)) % 2 ^ 32, e, f, g⟩
        rw [← not_32 e be', hne.out, hq1.out, ha1.out, ha2.out, hx1.out, hr1.out, hr2.out, hb1'.out, hb2'.out, hx2.out, hb3'.out, hx3.out, ← one_32, ← two_32, hn1.out, hn2.out, hn3.out, hn4.out, hm1.out, hp1.out, hp2.out, he'.out, ha'.out]
      have ht0 : (0 : Int) ≤ t := by omega
      have fK := fun y : Bw wr => (y.h.block w.heap.size (World.block_lt_of_cell? _ _ hcR)).trans hKr
      have k14 : ∀ y : Bw wr, y.w.cell? ⟨w.heap.size, 14, none⟩ = some (.slice (some ⟨bk, ok, none⟩) 64 c1) := fun y => cell_blk (fK y) 14 rfl
      have kkt : ∀ y : Bw wr, y.w.cell? ⟨bk, ok + t, none⟩ = some (.int .u64 kk) := fun y => (World.cell?_of_block (a := ⟨bk, ok + t, none⟩) (y.h.block bk (World.block_lt_of_cell? _ _ hck))).trans hck
      have kwt : ∀ y : Bw wr, y.w.cell? ⟨bw', ow + t, none⟩ = some (.int .u64 ww) := fun y => (World.cell?_of_block (a := ⟨bw', ow + t, none⟩) (y.h.block bw' (World.block_lt_of_cell? _ _ hcw))).trans hcw
      have kl : ∀ w', (∃ y : Bw wr, w' = y.w) → (Instr.loadAt 50 (.pointer (some ⟨w.heap.size, 0, none⟩))).run Tryd.prog w' = .ok (.agg #[.int .i64 32, .int .i64 64, .int .i64 2, .int .i64 13, .int .i64 22, .int .i64 6, .int .i64 11, .int .i64 25, .int .i64 7, .int .i64 18, .int .i64 3, .int .i64 17, .int .i64 19, .int .i64 10, .slice (some ⟨bk, ok, none⟩) 64 c1, .slice A2 8 c2]) w' := fun w' ⟨y, hy⟩ => hy ▸ load_blk (fK y) Tryd.underlying50 rfl (by kernel_rfl)
      have kD : ∀ w', (∃ y : Bw wr, w' = y.w) → (Instr.loadAt 47 (.pointer (some ⟨w.heap.size, 5, none⟩))).run Tryd.prog w' = .ok (.agg #[.int .i64 6, .int .i64 11, .int .i64 25]) w' := fun w' ⟨y, hy⟩ => hy ▸ load_part [.int .i64 6, .int .i64 11, .int .i64 25] (fK y) (by intro j v hj; (rcases j with _ | _ | _ | j <;> first | exact hj | (simp at hj))) Tryd.underlying47 rfl (by kernel_rfl)
      haveI : Nonempty (Bw wr) := ⟨⟨wr, Below.refl _ _⟩⟩
      clear fK
      go_wp2_with fail
      refine wp_region_bw (by kernel_rfl) (by kernel_rfl) ?_
      repeat (first
        | (go_big_quiet_want
           refine quiet_load (.tmp 3) rfl rfl kl ?_
           simp only [Act.put, List.setIfInBounds_toArray, List.set_cons_zero, List.set_cons_succ]
           go_big_quiet_on)
        | (go_big_quiet_want
           refine quiet_load (.tmp 58) rfl rfl kD ?_
           simp only [Act.put, List.setIfInBounds_toArray, List.set_cons_zero, List.set_cons_succ]
           go_big_quiet_on)
        | go_big_quiet_step (first
          | (go_at_call 61
             rename_i y
             refine (rturned'_32 e r1 6 11 25 _ _ _ _ _ be' (by omega) (by omega) (by omega) hr1.out).mono ?_
             rintro e w2 ⟨rfl, hb2⟩
             exact ⟨rfl, ⟨w2, y.h.trans (hb2.mono y.h.size)⟩, rfl⟩)
          | (go_at_call 62
             rename_i y
             refine (cut'_32 ne q1 _ _ _ _ _ ne64 hq1.out).mono ?_
             rintro e w2 ⟨rfl, hb2⟩
             exact ⟨rfl, ⟨w2, y.h.trans (hb2.mono y.h.size)⟩, rfl⟩)))
      refine wpQuiet_nil ?_
      rintro _ ⟨y, rfl⟩
      have hKy := (y.h.block w.heap.size (World.block_lt_of_cell? _ _ hcR)).trans hKr
      have hry := range_part [.int .i64 32, .int .i64 64, .int .i64 2, .int .i64 13, .int .i64 22, .int .i64 6, .int .i64 11, .int .i64 25, .int .i64 7, .int .i64 18, .int .i64 3, .int .i64 17, .int .i64 19, .int .i64 10, .slice (some ⟨bk, ok, none⟩) 64 c1, .slice A2 8 c2] (o := 0) hKy (by intro j v hj; rw [Nat.zero_add]; simpa using hj)
      have hrU := range_part [.int .i64 2, .int .i64 13, .int .i64 22] (o := 2) hKy (by intro j v hj; (rcases j with _ | _ | _ | j <;> first | exact hj | (simp at hj)))
      clear kkt kwt kl kD k14
      go_wp2_with (first
        | (refine wpList_load_mid rfl 50 (.tmp 3) rfl w.heap.size 0 rfl [.int .i64 32, .int .i64 64, .int .i64 2, .int .i64 13, .int .i64 22, .int .i64 6, .int .i64 11, .int .i64 25, .int .i64 7, .int .i64 18, .int .i64 3, .int .i64 17, .int .i64 19, .int .i64 10, .slice (some ⟨bk, ok, none⟩) 64 c1, .slice A2 8 c2] _ hry Tryd.underlying50 rfl (by kernel_rfl) ?_)
        | (refine wpList_load_mid rfl 47 (.tmp 86) rfl w.heap.size 2 rfl [.int .i64 2, .int .i64 13, .int .i64 22] _ hrU Tryd.underlying47 rfl (by kernel_rfl) ?_))
      refine (rturned'_32 a r2 2 13 22 _ _ _ _ _ ba (by omega) (by omega) (by omega) hr2.out).mono ?_
      rintro ee w3 ⟨rfl, hb3⟩
      have hK3 := (hb3.block w.heap.size (by have := World.block_lt_of_cell? _ _ (cell_blk hKy 1 rfl); exact this)).trans hKy
      have hr3 := range_part [.int .i64 32, .int .i64 64, .int .i64 2, .int .i64 13, .int .i64 22, .int .i64 6, .int .i64 11, .int .i64 25, .int .i64 7, .int .i64 18, .int .i64 3, .int .i64 17, .int .i64 19, .int .i64 10, .slice (some ⟨bk, ok, none⟩) 64 c1, .slice A2 8 c2] (o := 0) hK3 (by intro j v hj; rw [Nat.zero_add]; simpa using hj)
      go_wp2_with (refine wpList_load_mid rfl 50 (.tmp 3) rfl w.heap.size 0 rfl [.int .i64 32, .int .i64 64, .int .i64 2, .int .i64 13, .int .i64 22, .int .i64 6, .int .i64 11, .int .i64 25, .int .i64 7, .int .i64 18, .int .i64 3, .int .i64 17, .int .i64 19, .int .i64 10, .slice (some ⟨bk, ok, none⟩) 64 c1, .slice A2 8 c2] _ hr3 Tryd.underlying50 rfl (by kernel_rfl) ?_)
      refine (cut'_32 p1 e' _ _ _ _ _ p164 he'.out).mono ?_
      rintro ee w4 ⟨rfl, hb4⟩
      have hK4 := (hb4.block w.heap.size (by have := World.block_lt_of_cell? _ _ (cell_blk hK3 1 rfl); exact this)).trans hK3
      have hr4 := range_part [.int .i64 32, .int .i64 64, .int .i64 2, .int .i64 13, .int .i64 22, .int .i64 6, .int .i64 11, .int .i64 25, .int .i64 7, .int .i64 18, .int .i64 3, .int .i64 17, .int .i64 19, .int .i64 10, .slice (some ⟨bk, ok, none⟩) 64 c1, .slice A2 8 c2] (o := 0) hK4 (by intro j v hj; rw [Nat.zero_add]; simpa using hj)
      go_wp2_with (refine wpList_load_mid rfl 50 (.tmp 3) rfl w.heap.size 0 rfl [.int .i64 32, .int .i64 64, .int .i64 2, .int .i64 13, .int .i64 22, .int .i64 6, .int .i64 11, .int .i64 25, .int .i64 7, .int .i64 18, .int .i64 3, .int .i64 17, .int .i64 19, .int .i64 10, .slice (some ⟨bk, ok, none⟩) 64 c1, .slice A2 8 c2] _ hr4 Tryd.underlying50 rfl (by kernel_rfl) ?_)
      refine (cut'_32 p2 a' _ _ _ _ _ p264 ha'.out).mono ?_
      rintro ee w5 ⟨rfl, hb5⟩
      go_wp2_with fail
      have hokn := rnds_ok (K := K32) (w := wds K32 l) hok (t + 1)
      rw [← hrnd.out] at hokn
      have q1 := hb.trans (y.h.mono hb.size)
      have q2 := q1.trans (hb3.mono q1.size)
      have q3 := q2.trans (hb4.mono q2.size)
      have q4 := q3.trans (hb5.mono q3.size)
      exact ⟨⟨t + 1, ⟨a', a, b, cc, e', e, f, g⟩, rfl, rfl, rfl, rfl, rfl, rfl, rfl, rfl, by go_num, by omega, hrnd, hokn, q4⟩, by simp only [intOf]; omega⟩
    · obtain ⟨wq, hwq⟩ : ∃ wq, wq = wr := ⟨wr, rfl⟩
      subst hwq
      have htR : Hid (t = 64) := (by omega : t = 64)
      have hnt : ¬ (t : Int) < 64 := by omega
      have hadd : Hid (blk K32 v l = add8 32 v ⟨a, b, cc, d, e, f, g, h⟩) := by
        unfold Hid blk
        rw [hs.out, htR.out]
        rfl
      obtain ⟨ba, bb, bc, bd, be', bf, bg, bh⟩ := hso.out
      dsimp only at ba bb bc bd be' bf bg bh
      obtain ⟨W2, hW2⟩ : ∃ W2, W2 = wq.alloc (.cells #[.int .u64 a, .int .u64 b, .int .u64 cc, .int .u64 d, .int .u64 e, .int .u64 f, .int .u64 g, .int .u64 h] 52) := ⟨_, rfl⟩
      have hb2 : Below wq.heap.size wq W2 := by rw [hW2]; exact (Below.refl _ _).alloc (Nat.le_refl _) _
      have hS : W2.heap[wq.heap.size]? = some (.cells #[.int .u64 a, .int .u64 b, .int .u64 cc, .int .u64 d, .int .u64 e, .int .u64 f, .int .u64 g, .int .u64 h] 52 (0, 0)) := by rw [hW2]; exact heap_alloc_new wq _
      have hrs : Rd W2 W2.heap.size 1 (some ⟨wq.heap.size, 0, none⟩) 8 ((⟨a, b, cc, d, e, f, g, h⟩ : S8).l.map U) := by
        refine ⟨rfl, fun _ => ⟨wq.heap.size, 0, rfl, by rw [hW2]; simp, fun j u hu => cell_blk hS _ ?_⟩⟩
        rw [Nat.zero_add, ← hu]
        (rcases j with _ | _ | _ | _ | _ | _ | _ | _ | j <;> rfl)
      have hv2 := (hv1.below hb).to' (hb2.mono hb.size)
      have hK2 := (hb2.block w.heap.size (World.block_lt_of_cell? _ _ hcR)).trans hKr
      have HW2 := Lib.hid hW2
      clear hW2
      go_wp2_with fail
      rw [← HW2.out]
      go_loopw [20, 21] (fun x20 x21 wr => ∃ (i : Nat) (A' : Option Addr) (c' : Nat), x20 = .slice A' i c' ∧ x21 = .int .i64 i ∧ i ≤ 8 ∧ (A' = none ∨ 0 < c') ∧ OwnS wr W2.heap.size A' i c' (((blk K32 v l).l.take i).map U) ∧ Below W2.heap.size W2 wr) (fun _ x21 _ => 8 - (intOf x21).toNat)
      case atStart => exact ⟨0, none, 0, rfl, rfl, by omega, .inl rfl, OwnS.nil _ _ _, Below.refl _ _⟩
      case round =>
        obtain ⟨i, A', c', rfl, rfl, hi, hA', ho, hbw⟩ := hrel
        by_cases hi8 : i < 8
        · have hi8' : (i : Int) < 8 := by omega
          obtain ⟨bv3, ov3, xv, hA3, _, hcx, hxv⟩ := (hv2.below (hbw.mono (by have := hb2.size; have := hb.size; omega))).atU (k := i) hi8
          injection hA3 with hA3
          injection hA3 with hA31 hA32
          subst hA31 hA32
          obtain ⟨bs3, os3, xs, hA3, _, hcs, hxs⟩ := (hrs.below hbw).atU (k := i) hi8
          injection hA3 with hA3
          injection hA3 with hA31 hA32
          subst hA31 hA32
          rw [Nat.zero_add] at hcs
          have hi0 : (0 : Int) ≤ i := by omega
          obtain ⟨n1, hn1⟩ : ∃ n, Hid ((xv + xs) % 18446744073709551616 = n) := ⟨_, Lib.hid rfl⟩
          obtain ⟨n2, hn2⟩ : ∃ n, Hid (n1 % 2 ^ 32 = n) := ⟨n1 % 2 ^ 32, Lib.hid rfl⟩
          have hn1b : n1 < 18446744073709551616 := by rw [← hn1.out]; exact Nat.mod_lt _ (by decide)
          have f1 : IntKind.u64.wrap ((xv : Int) + (xs : Int)) = (n1 : Int) := by rw [← Int.natCast_add, wrapU, hn1.out]
          have f9 : IntKind.i64.wrap ((i : Int) + 1) = ((i + 1 : Nat) : Int) := by rw [IntWalk.i64_in _ (by omega)]; omega
          have hnew : Hid (((blk K32 v l).l.take i).map U ++ [Value.int .u64 (n2 : Int)] = ((blk K32 v l).l.take (i + 1)).map U) := by
            unfold Hid
            have e : (blk K32 v l).l[i]? = some n2 := by
              rw [hadd.out, add8_get _ _ _ i hi8, hxv.out, hxs.out, ← hn2.out, ← hn1.out, cut_add_32]
            rw [List.take_add_one, e]
            simp [U]
          have hbz := Lib.hid hbw.size
          have hod : OwnS wr.drew W2.heap.size A' i c' (((blk K32 v l).l.take i).map U) := ho.to (below_drew (Below.refl _ _))
          have hld : w.heap.size < W2.heap.size ∧ bv < W2.heap.size ∧ wq.heap.size < W2.heap.size := by
            have hh : w.heap.size < wq.heap.size := World.block_lt_of_cell? _ _ hcR
            have := hb.size
            have : wq.heap.size < W2.heap.size := by rw [HW2.out]; simp
            omega
          obtain ⟨hl1, hl2, hl3⟩ := hld
          have hKS : ∀ w', Sta wr.drew A' (((blk K32 v l).l.take i).map U) w' → w'.heap[w.heap.size]? = some (.cells #[.int .i64 32, .int .i64 64, .int .i64 2, .int .i64 13, .int .i64 22, .int .i64 6, .int .i64 11, .int .i64 25, .int .i64 7, .int .i64 18, .int .i64 3, .int .i64 17, .int .i64 19, .int .i64 10, .slice (some ⟨bk, ok, none⟩) 64 c1, .slice A2 8 c2] 50 (0, 0)) := fun w' hS =>
            (hS.old hod hA' hl1 (Nat.lt_of_lt_of_le hl1 hbz.out)).trans ((hbw.block _ hl1).trans hK2)
          have hcx' : ∀ w', Sta wr.drew A' (((blk K32 v l).l.take i).map U) w' → w'.cell? ⟨bv, ov + i, none⟩ = some (.int .u64 xv) := fun w' hS =>
            (World.cell?_of_block (a := ⟨bv, ov + i, none⟩) (hS.old hod hA' hl2 (Nat.lt_of_lt_of_le hl2 hbz.out))).trans hcx
          have hcs' : ∀ w', Sta wr.drew A' (((blk K32 v l).l.take i).map U) w' → w'.cell? ⟨wq.heap.size, i, none⟩ = some (.int .u64 xs) := fun w' hS =>
            (World.cell?_of_block (a := ⟨wq.heap.size, i, none⟩) (hS.old hod hA' hl3 (Nat.lt_of_lt_of_le hl3 hbz.out))).trans hcs
          clear hcx hcs
          go_wp2_with fail
          refine wp_region_noPanic ?_
          refine wp_region_held_drew (S := fun w' => Sta wr.drew A' (((blk K32 v l).l.take i).map U) w') (by kernel_rfl) (Sta.refl _ _ _) (fun hS => ?_)
          refine wpAnyH_take (i := 0) (v := ?v0) rfl (by kernel_rfl) (by kernel_rfl) (by kernel_rfl) (fun _ _ _ h => h) (Or.inl ⟨by rfl, ?hy0⟩) hS ?rest0
          case hy0 => (intro w hSw; go_simp; first | done | with_reducible rfl)
          try simp only [Act.put, List.getElem_toArray, List.getElem_cons_zero, List.getElem_cons_succ, List.setIfInBounds_toArray, List.set_cons_zero, List.set_cons_succ]
          refine wpAnyH_take (i := 1) (v := _) rfl (by kernel_rfl) (by kernel_rfl) (by kernel_rfl) (fun _ _ _ h => h) (yields_load rfl (.tmp 3) rfl rfl (fun w hSw => load_blk (hKS w hSw) Tryd.underlying50 rfl (by kernel_rfl))) hS ?rest1
          try simp only [Act.put, List.getElem_toArray, List.getElem_cons_zero, List.getElem_cons_succ, List.setIfInBounds_toArray, List.set_cons_zero, List.set_cons_succ]
          refine wpAnyH_take (i := 2) (v := ?v2) rfl (by kernel_rfl) (by kernel_rfl) (by kernel_rfl) (fun _ _ _ h => h) (Or.inl ⟨by rfl, ?hy2⟩) hS ?rest2
          case hy2 => (intro w hSw; go_simp; first | done | with_reducible rfl)
          try simp only [Act.put, List.getElem_toArray, List.getElem_cons_zero, List.getElem_cons_succ, List.setIfInBounds_toArray, List.set_cons_zero, List.set_cons_succ]
          refine wpAnyH_take (i := 3) (v := ?v3) rfl (by kernel_rfl) (by kernel_rfl) (by kernel_rfl) (fun _ _ _ h => h) (Or.inl ⟨by rfl, ?hy3⟩) hS ?rest3
          case hy3 => (intro w hSw; go_simp; first | done | with_reducible rfl)
          try simp only [Act.put, List.getElem_toArray, List.getElem_cons_zero, List.getElem_cons_succ, List.setIfInBounds_toArray, List.set_cons_zero, List.set_cons_succ]
          refine wpAnyH_take (i := 4) (v := ?v4) rfl (by kernel_rfl) (by kernel_rfl) (by kernel_rfl) (fun _ _ _ h => h) (Or.inl ⟨by rfl, ?hy4⟩) hS ?rest4
          case hy4 => (intro w hSw; go_simp; first | done | with_reducible rfl)
          try simp only [Act.put, List.getElem_toArray, List.getElem_cons_zero, List.getElem_cons_succ, List.setIfInBounds_toArray, List.set_cons_zero, List.set_cons_succ]
          refine wpAnyH_take (i := 5) (v := ?v5) rfl (by kernel_rfl) (by kernel_rfl) (by kernel_rfl) (fun _ _ _ h => h) (Or.inl ⟨by rfl, ?hy5⟩) hS ?rest5
          case hy5 => (intro w hSw; have hcw := hcx' w hSw; go_simp; first | done | with_reducible rfl)
          try simp only [Act.put, List.getElem_toArray, List.getElem_cons_zero, List.getElem_cons_succ, List.setIfInBounds_toArray, List.set_cons_zero, List.set_cons_succ]
          refine wpAnyH_take (i := 6) (v := ?v6) rfl (by kernel_rfl) (by kernel_rfl) (by kernel_rfl) (fun _ _ _ h => h) (Or.inl ⟨by rfl, ?hy6⟩) hS ?rest6
          case hy6 => (intro w hSw; go_simp; first | done | with_reducible rfl)
          try simp only [Act.put, List.getElem_toArray, List.getElem_cons_zero, List.getElem_cons_succ, List.setIfInBounds_toArray, List.set_cons_zero, List.set_cons_succ]
          refine wpAnyH_take (i := 7) (v := ?v7) rfl (by kernel_rfl) (by kernel_rfl) (by kernel_rfl) (fun _ _ _ h => h) (Or.inl ⟨by rfl, ?hy7⟩) hS ?rest7
          case hy7 => (intro w hSw; go_simp; first | done | with_reducible rfl)
          try simp only [Act.put, List.getElem_toArray, List.getElem_cons_zero, List.getElem_cons_succ, List.setIfInBounds_toArray, List.set_cons_zero, List.set_cons_succ]
          refine wpAnyH_take (i := 8) (v := ?v8) rfl (by kernel_rfl) (by kernel_rfl) (by kernel_rfl) (fun _ _ _ h => h) (Or.inl ⟨by rfl, ?hy8⟩) hS ?rest8
          case hy8 => (intro w hSw; go_simp; first | done | with_reducible rfl)
          try simp only [Act.put, List.getElem_toArray, List.getElem_cons_zero, List.getElem_cons_succ, List.setIfInBounds_toArray, List.set_cons_zero, List.set_cons_succ]
          refine wpAnyH_take (i := 9) (v := ?v9) rfl (by kernel_rfl) (by kernel_rfl) (by kernel_rfl) (fun _ _ _ h => h) (Or.inl ⟨by rfl, ?hy9⟩) hS ?rest9
          case hy9 => (intro w hSw; have hcw := hcs' w hSw; go_simp; first | done | with_reducible rfl)
          try simp only [Act.put, List.getElem_toArray, List.getElem_cons_zero, List.getElem_cons_succ, List.setIfInBounds_toArray, List.set_cons_zero, List.set_cons_succ]
          refine wpAnyH_take (i := 10) (v := ?v10) rfl (by kernel_rfl) (by kernel_rfl) (by kernel_rfl) (fun _ _ _ h => h) (Or.inl ⟨by rfl, ?hy10⟩) hS ?rest10
          case hy10 => (intro w hSw; go_simp; first | done | with_reducible rfl)
          try simp only [Act.put, List.getElem_toArray, List.getElem_cons_zero, List.getElem_cons_succ, List.setIfInBounds_toArray, List.set_cons_zero, List.set_cons_succ]
          refine wpAnyH_ready (rs := [11]) (by kernel_rfl) (by simp) ?_
          refine AllReadyH.cons rfl (fun K hK => ?_) AllReadyH.nil
          go_simp
          refine (cut'_32 n1 n2 _ _ _ _ _ hn1b hn2.out).mono ?_
          rintro ee u1 ⟨rfl, p1⟩
          go_wp2_with fail
          have r1' := hS.below p1
          refine hK.out _ _ r1' ?_
          intro hS
          clear hK K
          try simp only [Act.put, List.getElem_toArray, List.getElem_cons_zero, List.getElem_cons_succ, List.setIfInBounds_toArray, List.set_cons_zero, List.set_cons_succ]
          refine wpAnyH_ready (rs := [12]) (by kernel_rfl) (by simp) ?_
          refine AllReadyH.cons rfl (fun K hK => ?_) AllReadyH.nil
          go_simp
          have r2' := r1'.below ((Below.refl _ _).alloc (Nat.le_refl _) (.cells #[.int .u64 (n2 : Int)] 52))
          refine hK.out _ _ r2' ?_
          intro hS
          clear hK K
          try simp only [Act.put, List.getElem_toArray, List.getElem_cons_zero, List.getElem_cons_succ, List.setIfInBounds_toArray, List.set_cons_zero, List.set_cons_succ]
          refine wpAnyH_ready (rs := [13]) (by kernel_rfl) (by simp) ?_
          refine AllReadyH.cons rfl (fun K hK => ?_) AllReadyH.nil
          refine step_apS (.tmp 130) (.tmp 142) _ rfl rfl W2.heap.size 52 8 _ Tryd.underlying48 info64 rfl _ _ _ _ rfl ((hod.to p1).to ((Below.refl _ _).alloc (Nat.le_refl _) _)) (u1.heap.size + 1) (some ⟨u1.heap.size, 0, none⟩) 1 1 _ rfl (one_cell u1 _ (.int .u64 n2)) (by simp; rfl) (by simp only [maxLen]; omega) (by omega) (by have := hbz.out; have : wr.drew.heap.size = wr.heap.size := rfl; have := p1.size; simp; omega) ?_
          intro A5 c5 u4 h5 hb5 h5c h5b
          have r5' := r2'.app (by have := hb5.size; exact this) h5c h5b
          refine hK.out _ _ r5' ?_
          intro hS
          clear hK K
          try simp only [Act.put, List.getElem_toArray, List.getElem_cons_zero, List.getElem_cons_succ, List.setIfInBounds_toArray, List.set_cons_zero, List.set_cons_succ]
          refine wpAnyH_take (i := 14) (v := ?v14) rfl (by kernel_rfl) (by kernel_rfl) (by kernel_rfl) (fun _ _ _ h => h) (Or.inl ⟨by rfl, ?hy14⟩) hS ?rest14
          case hy14 => (intro w hSw; go_simp; first | done | with_reducible rfl)
          try simp only [Act.put, List.getElem_toArray, List.getElem_cons_zero, List.getElem_cons_succ, List.setIfInBounds_toArray, List.set_cons_zero, List.set_cons_succ]
          refine wpAnyH_done (by kernel_rfl) (NoPanic.normal ?_) _
          go_wp2_with fail
          go_roundw
          case rel =>
            rw [hnew.out] at h5
            have q1 := below_drew hbw
            have q2 := q1.trans (p1.mono q1.size)
            have q5 := (q2.alloc q2.size (.cells #[.int .u64 (n2 : Int)] 52)).trans hb5
            exact ⟨i + 1, A5, c5, rfl, by go_num, by omega, .inr (Nat.lt_of_lt_of_le (Nat.succ_pos i) h5.le), h5, q5⟩
          case measure => simp only [intOf]; omega
        · obtain rfl : i = 8 := by omega
          go_wp2_with fail
          go_ret
          refine ⟨A', c', rfl, ?_, ?_⟩
          · rw [List.take_of_length_le (by simp [S8.l])] at ho
            exact ho.mono (by have := hb2.size; have := hb01.size; have := hb.size; omega)
          · have q1 := hb01.trans (hb.mono hb01.size)
            have q2 := q1.trans (hb2.mono q1.size)
            exact q2.trans (hbw.mono q2.size)

theorem one_64 (h r x k w d : Nat) : (d + ((((h + r) % 18446744073709551616 + x) % 18446744073709551616 + k) % 18446744073709551616 + w) % 18446744073709551616) % 18446744073709551616 % 2 ^ 64 = (d + (h + r + x + k + w)) % 2 ^ 64 := by
  simp only [Nat.reducePow]; omega
theorem two_64 (h r x k w r2 x2 : Nat) : (((((h + r) % 18446744073709551616 + x) % 18446744073709551616 + k) % 18446744073709551616 + w) % 18446744073709551616 + (r2 + x2) % 18446744073709551616) % 18446744073709551616 % 2 ^ 64 = (h + r + x + k + w + (r2 + x2)) % 2 ^ 64 := by
  simp only [Nat.reducePow]; omega
theorem cut_add_64 (a b : Nat) : (a + b) % 18446744073709551616 % 2 ^ 64 = (a + b) % 2 ^ 64 := by
  simp only [Nat.reducePow]; omega
theorem not_64 (e : Nat) (he : e < 2 ^ 64) : (18446744073709551615 - e) % 2 ^ 64 = 2 ^ 64 - 1 - e := by
  simp only [Nat.reducePow] at *; omega

set_option maxRecDepth 20000 in
set_option maxHeartbeats 4000000 in
theorem rblock_64 (Av A : Option Addr) (cv c : Nat) (v : S8) (l : List UInt8) (A1 A2 : Option Addr) (c1 c2 : Nat) (w : World) (hk : Rd w w.heap.size 1 A1 80 (K64.key.map U)) (hv : Rd w w.heap.size 1 Av 8 (v.l.map U)) (hok : v.ok 64) (hr : Rd w w.heap.size 1 A 128 (l.map B8)) :
    Calls Tryd.prog 52 #[.agg #[.int .i64 64, .int .i64 80, .int .i64 28, .int .i64 34, .int .i64 39, .int .i64 14, .int .i64 18, .int .i64 41, .int .i64 1, .int .i64 8, .int .i64 7, .int .i64 19, .int .i64 61, .int .i64 6, .slice A1 80 c1, .slice A2 8 c2], .slice Av 8 cv, .slice A 128 c] w fun e w' => ∃ A' c', e = .returned (.slice A' 8 c') ∧ OwnS w' w.heap.size A' 8 c' ((blk K64 v l).l.map U) ∧ Below w.heap.size w w' := by
  obtain ⟨bk, ok, rfl, hbk, hck0⟩ := hk.2 (by omega)
  go_enter Tryd.func52, Tryd.ntmps52
  obtain ⟨W, hW⟩ : ∃ W, W = w.alloc (.cells #[.int .i64 64, .int .i64 80, .int .i64 28, .int .i64 34, .int .i64 39, .int .i64 14, .int .i64 18, .int .i64 41, .int .i64 1, .int .i64 8, .int .i64 7, .int .i64 19, .int .i64 61, .int .i64 6, .slice (some ⟨bk, ok, none⟩) 80 c1, .slice A2 8 c2] 50) := ⟨_, rfl⟩
  have hb0 : Below w.heap.size w W := by rw [hW]; exact (Below.refl _ _).alloc (Nat.le_refl _) _
  have hK : W.heap[w.heap.size]? = some (.cells #[.int .i64 64, .int .i64 80, .int .i64 28, .int .i64 34, .int .i64 39, .int .i64 14, .int .i64 18, .int .i64 41, .int .i64 1, .int .i64 8, .int .i64 7, .int .i64 19, .int .i64 61, .int .i64 6, .slice (some ⟨bk, ok, none⟩) 80 c1, .slice A2 8 c2] 50 (0, 0)) := by rw [hW]; exact heap_alloc_new w _
  have hsz : w.heap.size + 1 = W.heap.size := by rw [hW]; simp
  have Hsz := Lib.hid hsz
  clear hsz
  have hr' := hr.to hb0
  have hv' := hv.to hb0
  have hk' := hk.to hb0
  have HW := Lib.hid hW
  clear hW
  have hrng : (w.alloc (.cells #[.int .i64 64, .int .i64 80, .int .i64 28, .int .i64 34, .int .i64 39, .int .i64 14, .int .i64 18, .int .i64 41, .int .i64 1, .int .i64 8, .int .i64 7, .int .i64 19, .int .i64 61, .int .i64 6, .slice (some ⟨bk, ok, none⟩) 80 c1, .slice A2 8 c2] 50)).rangeAt w.heap.size 0 [.int .i64 64, .int .i64 80, .int .i64 28, .int .i64 34, .int .i64 39, .int .i64 14, .int .i64 18, .int .i64 41, .int .i64 1, .int .i64 8, .int .i64 7, .int .i64 19, .int .i64 61, .int .i64 6, .slice (some ⟨bk, ok, none⟩) 80 c1, .slice A2 8 c2] := by
    have h := range_part [.int .i64 64, .int .i64 80, .int .i64 28, .int .i64 34, .int .i64 39, .int .i64 14, .int .i64 18, .int .i64 41, .int .i64 1, .int .i64 8, .int .i64 7, .int .i64 19, .int .i64 61, .int .i64 6, .slice (some ⟨bk, ok, none⟩) 80 c1, .slice A2 8 c2] (o := 0) hK (by intro j v hj; rw [Nat.zero_add]; simpa using hj)
    rw [HW.out] at h
    exact h
  go_wp2_with (refine wpList_load_mid rfl 50 (.tmp 3) rfl w.heap.size 0 rfl [.int .i64 64, .int .i64 80, .int .i64 28, .int .i64 34, .int .i64 39, .int .i64 14, .int .i64 18, .int .i64 41, .int .i64 1, .int .i64 8, .int .i64 7, .int .i64 19, .int .i64 61, .int .i64 6, .slice (some ⟨bk, ok, none⟩) 80 c1, .slice A2 8 c2] _ hrng Tryd.underlying50 rfl (by kernel_rfl) ?_)
  clear hrng
  rw [← HW.out]
  refine (words_64 A c l (some ⟨bk, ok, none⟩) A2 c1 c2 W hr').mono ?_
  rintro e w1 ⟨Aw, cw, rfl, how, hb1⟩
  have hKw := (hb1.block w.heap.size (by have := Hsz.out; omega)).trans hK
  have hv1 := hv'.to hb1
  have hk1 := hk'.to hb1
  have hw1 := how.rd
  obtain ⟨bw', ow, rfl, hbw, hcw0⟩ := hw1.2 (by omega)
  have hb01 := hb0.trans (hb1.mono hb0.size)
  obtain ⟨bv, ov, rfl, hbv, hcv⟩ := hv1.2 (by omega)
  have v0 : w1.cell? ⟨bv, ov, none⟩ = some (.int .u64 (v.a : Nat)) := hcv 0 _ rfl
  have v1 : w1.cell? ⟨bv, ov + 1, none⟩ = some (.int .u64 (v.b : Nat)) := hcv 1 _ rfl
  have v2 : w1.cell? ⟨bv, ov + 2, none⟩ = some (.int .u64 (v.c : Nat)) := hcv 2 _ rfl
  have v3 : w1.cell? ⟨bv, ov + 3, none⟩ = some (.int .u64 (v.d : Nat)) := hcv 3 _ rfl
  have v4 : w1.cell? ⟨bv, ov + 4, none⟩ = some (.int .u64 (v.e : Nat)) := hcv 4 _ rfl
  have v5 : w1.cell? ⟨bv, ov + 5, none⟩ = some (.int .u64 (v.f : Nat)) := hcv 5 _ rfl
  have v6 : w1.cell? ⟨bv, ov + 6, none⟩ = some (.int .u64 (v.g : Nat)) := hcv 6 _ rfl
  have v7 : w1.cell? ⟨bv, ov + 7, none⟩ = some (.int .u64 (v.h : Nat)) := hcv 7 _ rfl
  have hwl : (wds K64 l).length = 80 := by have := how.len; simpa using this
  have Hwl := Lib.hid hwl
  clear hwl
  go_wp2_with fail
  go_quiet (fail)
  have hbq : Below w1.heap.size w1 (w1.drewN nq) := below_drewN (Below.refl _ _) nq
  go_wp2_with fail
  go_loopw [8, 9, 10, 11, 12, 13, 14, 15, 16, 17, 18] (fun x8 x9 x10 x11 x12 x13 x14 x15 x16 _ _ wr => ∃ (t : Nat) (s : S8), x8 = .int .u64 (s.a : Nat) ∧ x9 = .int .u64 (s.b : Nat) ∧ x10 = .int .u64 (s.c : Nat) ∧ x11 = .int .u64 (s.d : Nat) ∧ x12 = .int .u64 (s.e : Nat) ∧ x13 = .int .u64 (s.f : Nat) ∧ x14 = .int .u64 (s.g : Nat) ∧ x15 = .int .u64 (s.h : Nat) ∧ x16 = .int .i64 t ∧ t ≤ 80 ∧ Hid (s = rnds K64 (wds K64 l) t v) ∧ Hid (s.ok 64) ∧ Below w1.heap.size w1 wr) (fun _ _ _ _ _ _ _ _ x16 _ _ _ => 80 - (intOf x16).toNat)
  case atStart => exact ⟨0, v, rfl, rfl, rfl, rfl, rfl, rfl, rfl, rfl, rfl, by omega, rfl, hok, hbq⟩
  case round =>
    obtain ⟨t, ⟨a, b, cc, d, e, f, g, h⟩, rfl, rfl, rfl, rfl, rfl, rfl, rfl, rfl, rfl, ht, hs, hso, hb⟩ := hrel
    dsimp only at *
    have hKr := (hb.block w.heap.size (by have := hb01.size; have := Hsz.out; have := hb1.size; omega)).trans hKw
    have hcR := cell_blk hKr 1 rfl
    have hvb : bv < w1.heap.size := hbv
    by_cases hlt : t < 80
    · have hlt' : (t : Int) < 80 := by omega
      obtain ⟨ba, bb, bc, bd, be', bf, bg, bh⟩ := hso.out
      dsimp only at ba bb bc bd be' bf bg bh
      obtain ⟨bk', ok', kk, hA1, hbk', hck, hkk⟩ := (hk1.below hb).atU (k := t) hlt
      injection hA1 with hA1
      injection hA1 with hA2 hA3
      subst hA2 hA3
      obtain ⟨bw2, ow2, ww, hA1, hbw', hcw, hww⟩ := (hw1.below hb).atU (k := t) hlt
      injection hA1 with hA1
      injection hA1 with hA2 hA3
      subst hA2 hA3
      have M64 : (2 : Nat) ^ 64 ≤ 18446744073709551616 := by decide
      have be64 : e < 18446744073709551616 := Nat.lt_of_lt_of_le be' M64
      obtain ⟨r1, hr1⟩ : ∃ n, Hid (tur 64 e (14, 18, 41) = n) := ⟨_, Lib.hid rfl⟩
      obtain ⟨n1, hn1⟩ : ∃ n, Hid ((h + r1) % 18446744073709551616 = n) := ⟨_, Lib.hid rfl⟩
      obtain ⟨a1, ha1⟩ : ∃ n, Hid (e &&& f = n) := ⟨_, Lib.hid rfl⟩
      obtain ⟨ne, hne⟩ : ∃ n, Hid (18446744073709551615 - e = n) := ⟨_, Lib.hid rfl⟩
      obtain ⟨q1, hq1⟩ : ∃ n, Hid (ne % 2 ^ 64 = n) := ⟨ne % 2 ^ 64, Lib.hid rfl⟩
      obtain ⟨a2, ha2⟩ : ∃ n, Hid (q1 &&& g = n) := ⟨_, Lib.hid rfl⟩
      obtain ⟨x1, hx1⟩ : ∃ n, Hid (a1 ^^^ a2 = n) := ⟨_, Lib.hid rfl⟩
      obtain ⟨n2, hn2⟩ : ∃ n, Hid ((n1 + x1) % 18446744073709551616 = n) := ⟨_, Lib.hid rfl⟩
      obtain ⟨n3, hn3⟩ : ∃ n, Hid ((n2 + kk) % 18446744073709551616 = n) := ⟨_, Lib.hid rfl⟩
      obtain ⟨n4, hn4⟩ : ∃ n, Hid ((n3 + ww) % 18446744073709551616 = n) := ⟨_, Lib.hid rfl⟩
      have ne64 : ne < 18446744073709551616 := by rw [← hne.out]; omega
      have q164 : q1 < 18446744073709551616 := by rw [← hq1.out]; exact Nat.lt_of_le_of_lt (Nat.mod_le _ _) ne64
      have a164 : a1 < 18446744073709551616 := by rw [← ha1.out]; exact Nat.lt_of_le_of_lt Nat.and_le_left be64
      have a264 : a2 < 18446744073709551616 := by rw [← ha2.out]; exact Nat.lt_of_le_of_lt Nat.and_le_left q164
      have f1 : IntKind.u64.wrap ((h : Int) + (r1 : Int)) = (n1 : Int) := by rw [← Int.natCast_add, wrapU, hn1.out]
      have f2 : bits .and .u64 (e : Int) (f : Int) = (a1 : Int) := by rw [u64_and_nat e f be64 (Nat.lt_of_lt_of_le bf M64), ha1.out]
      have f3 : bits .xor .u64 18446744073709551615 (e : Int) = (ne : Int) := by
        rw [show (18446744073709551615 : Int) = ((18446744073709551615 : Nat) : Int) from rfl, u64_xor_nat _ e (by decide) be64, ← hne.out, max_xor e be64]
      have f3' : bits .xor .u64 (if IntKind.u64.signed = true then -1 else IntKind.u64.max) (e : Int) = (ne : Int) := f3
      have f4 : bits .and .u64 (q1 : Int) (g : Int) = (a2 : Int) := by rw [u64_and_nat q1 g q164 (Nat.lt_of_lt_of_le bg M64), ha2.out]
      have f5 : bits .xor .u64 (a1 : Int) (a2 : Int) = (x1 : Int) := by rw [u64_xor_nat a1 a2 a164 a264, hx1.out]
      have f6 : IntKind.u64.wrap ((n1 : Int) + (x1 : Int)) = (n2 : Int) := by rw [← Int.natCast_add, wrapU, hn2.out]
      have f7 : IntKind.u64.wrap ((n2 : Int) + (kk : Int)) = (n3 : Int) := by rw [← Int.natCast_add, wrapU, hn3.out]
      have f8 : IntKind.u64.wrap ((n3 : Int) + (ww : Int)) = (n4 : Int) := by rw [← Int.natCast_add, wrapU, hn4.out]
      obtain ⟨r2, hr2⟩ : ∃ n, Hid (tur 64 a (28, 34, 39) = n) := ⟨_, Lib.hid rfl⟩
      obtain ⟨b1, hb1'⟩ : ∃ n, Hid (a &&& b = n) := ⟨_, Lib.hid rfl⟩
      obtain ⟨b2, hb2'⟩ : ∃ n, Hid (a &&& cc = n) := ⟨_, Lib.hid rfl⟩
      obtain ⟨x2, hx2⟩ : ∃ n, Hid (b1 ^^^ b2 = n) := ⟨_, Lib.hid rfl⟩
      obtain ⟨b3, hb3'⟩ : ∃ n, Hid (b &&& cc = n) := ⟨_, Lib.hid rfl⟩
      obtain ⟨x3, hx3⟩ : ∃ n, Hid (x2 ^^^ b3 = n) := ⟨_, Lib.hid rfl⟩
      obtain ⟨m1, hm1⟩ : ∃ n, Hid ((r2 + x3) % 18446744073709551616 = n) := ⟨_, Lib.hid rfl⟩
      obtain ⟨p1, hp1⟩ : ∃ n, Hid ((d + n4) % 18446744073709551616 = n) := ⟨_, Lib.hid rfl⟩
      obtain ⟨p2, hp2⟩ : ∃ n, Hid ((n4 + m1) % 18446744073709551616 = n) := ⟨_, Lib.hid rfl⟩
      have ba64 : a < 18446744073709551616 := Nat.lt_of_lt_of_le ba M64
      have bb64 : b < 18446744073709551616 := Nat.lt_of_lt_of_le bb M64
      have bc64 : cc < 18446744073709551616 := Nat.lt_of_lt_of_le bc M64
      have b164 : b1 < 18446744073709551616 := by rw [← hb1'.out]; exact Nat.lt_of_le_of_lt Nat.and_le_left ba64
      have b264 : b2 < 18446744073709551616 := by rw [← hb2'.out]; exact Nat.lt_of_le_of_lt Nat.and_le_left ba64
      have b364 : b3 < 18446744073709551616 := by rw [← hb3'.out]; exact Nat.lt_of_le_of_lt Nat.and_le_left bb64
      have x264 : x2 < 18446744073709551616 := by rw [← hx2.out]; exact Nat.xor_lt_two_pow (n := 64) b164 b264
      have p164 : p1 < 18446744073709551616 := by rw [← hp1.out]; exact Nat.mod_lt _ (by decide)
      have p264 : p2 < 18446744073709551616 := by rw [← hp2.out]; exact Nat.mod_lt _ (by decide)
      have g1 : bits .and .u64 (a : Int) (b : Int) = (b1 : Int) := by rw [u64_and_nat a b ba64 bb64, hb1'.out]
      have g2 : bits .and .u64 (a : Int) (cc : Int) = (b2 : Int) := by rw [u64_and_nat a cc ba64 bc64, hb2'.out]
      have g3 : bits .xor .u64 (b1 : Int) (b2 : Int) = (x2 : Int) := by rw [u64_xor_nat b1 b2 b164 b264, hx2.out]
      have g4 : bits .and .u64 (b : Int) (cc : Int) = (b3 : Int) := by rw [u64_and_nat b cc bb64 bc64, hb3'.out]
      have g5 : bits .xor .u64 (x2 : Int) (b3 : Int) = (x3 : Int) := by rw [u64_xor_nat x2 b3 x264 b364, hx3.out]
      have g6 : IntKind.u64.wrap ((r2 : Int) + (x3 : Int)) = (m1 : Int) := by rw [← Int.natCast_add, wrapU, hm1.out]
      have g7 : IntKind.u64.wrap ((d : Int) + (n4 : Int)) = (p1 : Int) := by rw [← Int.natCast_add, wrapU, hp1.out]
      have g8 : IntKind.u64.wrap ((n4 : Int) + (m1 : Int)) = (p2 : Int) := by rw [← Int.natCast_add, wrapU, hp2.out]
      have g9 : IntKind.i64.wrap ((t : Int) + 1) = ((t + 1 : Nat) : Int) := by rw [IntWalk.i64_in _ (by omega)]; omega
      obtain ⟨e', he'⟩ : ∃ n, Hid (p1 % 2 ^ 64 = n) := ⟨p1 % 2 ^ 64, Lib.hid rfl⟩
      obtain ⟨a', ha'⟩ : ∃ n, Hid (p2 % 2 ^ 64 = n) := ⟨p2 % 2 ^ 64, Lib.hid rfl⟩
      have hrnd : Hid ((⟨a', a, b, cc, e', e, f, g⟩ : S8) = rnds K64 (wds K64 l) (t + 1) v) := by
        show _ = rnd K64 (K64.key.getD t 0) ((wds K64 l).getD t 0) (rnds K64 (wds K64 l) t v)
        rw [← hs.out, hkk.out, hww.out]
        unfold rnd one two
        show (⟨a', a, b, cc, e', e, f, g⟩ : S8) = ⟨(h + tur 64 e (14, 18, 41) + (e &&& f ^^^ (2 ^ 64 - 1 - e) &&& g) + kk + ww + (tur 64 a (28, 34, 39) + (a &&& b ^^^ a &&& cc ^^^ b &&& cc))) % 2 ^ 64, a, b, cc, (d + (h + tur 64 e (14, 18, 41) + (e &&& f ^^^ (2 ^ 64 - 1 - e) &&& g) + kk + ww)) % 2 ^ 64, e, f, g⟩
        rw [← not_64 e be', hne.out, hq1.out, ha1.out, ha2.out, hx1.out, hr1.out, hr2.out, hb1'.out, hb2'.out, hx2.out, hb3'.out, hx3.out, ← one_64, ← two_64, hn1.out, hn2.out, hn3.out, hn4.out, hm1.out, hp1.out, hp2.out, he'.out, ha'.out]
      have ht0 : (0 : Int) ≤ t := by omega
      have fK := fun y : Bw wr => (y.h.block w.heap.size (World.block_lt_of_cell? _ _ hcR)).trans hKr
      have k14 : ∀ y : Bw wr, y.w.cell? ⟨w.heap.size, 14, none⟩ = some (.slice (some ⟨bk, ok, none⟩) 80 c1) := fun y => cell_blk (fK y) 14 rfl
      have kkt : ∀ y : Bw wr, y.w.cell? ⟨bk, ok + t, none⟩ = some (.int .u64 kk) := fun y => (World.cell?_of_block (a := ⟨bk, ok + t, none⟩) (y.h.block bk (World.block_lt_of_cell? _ _ hck))).trans hck
      have kwt : ∀ y : Bw wr, y.w.cell? ⟨bw', ow + t, none⟩ = some (.int .u64 ww) := fun y => (World.cell?_of_block (a := ⟨bw', ow + t, none⟩) (y.h.block bw' (World.block_lt_of_cell? _ _ hcw))).trans hcw
      have kl : ∀ w', (∃ y : Bw wr, w' = y.w) → (Instr.loadAt 50 (.pointer (some ⟨w.heap.size, 0, none⟩))).run Tryd.prog w' = .ok (.agg #[.int .i64 64, .int .i64 80, .int .i64 28, .int .i64 34, .int .i64 39, .int .i64 14, .int .i64 18, .int .i64 41, .int .i64 1, .int .i64 8, .int .i64 7, .int .i64 19, .int .i64 61, .int .i64 6, .slice (some ⟨bk, ok, none⟩) 80 c1, .slice A2 8 c2]) w' := fun w' ⟨y, hy⟩ => hy ▸ load_blk (fK y) Tryd.underlying50 rfl (by kernel_rfl)
      have kD : ∀ w', (∃ y : Bw wr, w' = y.w) → (Instr.loadAt 47 (.pointer (some ⟨w.heap.size, 5, none⟩))).run Tryd.prog w' = .ok (.agg #[.int .i64 14, .int .i64 18, .int .i64 41]) w' := fun w' ⟨y, hy⟩ => hy ▸ load_part [.int .i64 14, .int .i64 18, .int .i64 41] (fK y) (by intro j v hj; (rcases j with _ | _ | _ | j <;> first | exact hj | (simp at hj))) Tryd.underlying47 rfl (by kernel_rfl)
      haveI : Nonempty (Bw wr) := ⟨⟨wr, Below.refl _ _⟩⟩
      clear fK
      go_wp2_with fail
      refine wp_region_bw (by kernel_rfl) (by kernel_rfl) ?_
      repeat (first
        | (go_big_quiet_want
           refine quiet_load (.tmp 3) rfl rfl kl ?_
           simp only [Act.put, List.setIfInBounds_toArray, List.set_cons_zero, List.set_cons_succ]
           go_big_quiet_on)
        | (go_big_quiet_want
           refine quiet_load (.tmp 58) rfl rfl kD ?_
           simp only [Act.put, List.setIfInBounds_toArray, List.set_cons_zero, List.set_cons_succ]
           go_big_quiet_on)
        | go_big_quiet_step (first
          | (go_at_call 61
             rename_i y
             refine (rturned'_64 e r1 14 18 41 _ _ _ _ _ be' (by omega) (by omega) (by omega) hr1.out).mono ?_
             rintro e w2 ⟨rfl, hb2⟩
             exact ⟨rfl, ⟨w2, y.h.trans (hb2.mono y.h.size)⟩, rfl⟩)
          | (go_at_call 62
             rename_i y
             refine (cut'_64 ne q1 _ _ _ _ _ ne64 hq1.out).mono ?_
             rintro e w2 ⟨rfl, hb2⟩
             exact ⟨rfl, ⟨w2, y.h.trans (hb2.mono y.h.size)⟩, rfl⟩)))
      refine wpQuiet_nil ?_
      rintro _ ⟨y, rfl⟩
      have hKy := (y.h.block w.heap.size (World.block_lt_of_cell? _ _ hcR)).trans hKr
      have hry := range_part [.int .i64 64, .int .i64 80, .int .i64 28, .int .i64 34, .int .i64 39, .int .i64 14, .int .i64 18, .int .i64 41, .int .i64 1, .int .i64 8, .int .i64 7, .int .i64 19, .int .i64 61, .int .i64 6, .slice (some ⟨bk, ok, none⟩) 80 c1, .slice A2 8 c2] (o := 0) hKy (by intro j v hj; rw [Nat.zero_add]; simpa using hj)
      have hrU := range_part [.int .i64 28, .int .i64 34, .int .i64 39] (o := 2) hKy (by intro j v hj; (rcases j with _ | _ | _ | j <;> first | exact hj | (simp at hj)))
      clear kkt kwt kl kD k14
      go_wp2_with (first
        | (refine wpList_load_mid rfl 50 (.tmp 3) rfl w.heap.size 0 rfl [.int .i64 64, .int .i64 80, .int .i64 28, .int .i64 34, .int .i64 39, .int .i64 14, .int .i64 18, .int .i64 41, .int .i64 1, .int .i64 8, .int .i64 7, .int .i64 19, .int .i64 61, .int .i64 6, .slice (some ⟨bk, ok, none⟩) 80 c1, .slice A2 8 c2] _ hry Tryd.underlying50 rfl (by kernel_rfl) ?_)
        | (refine wpList_load_mid rfl 47 (.tmp 86) rfl w.heap.size 2 rfl [.int .i64 28, .int .i64 34, .int .i64 39] _ hrU Tryd.underlying47 rfl (by kernel_rfl) ?_))
      refine (rturned'_64 a r2 28 34 39 _ _ _ _ _ ba (by omega) (by omega) (by omega) hr2.out).mono ?_
      rintro ee w3 ⟨rfl, hb3⟩
      have hK3 := (hb3.block w.heap.size (by have := World.block_lt_of_cell? _ _ (cell_blk hKy 1 rfl); exact this)).trans hKy
      have hr3 := range_part [.int .i64 64, .int .i64 80, .int .i64 28, .int .i64 34, .int .i64 39, .int .i64 14, .int .i64 18, .int .i64 41, .int .i64 1, .int .i64 8, .int .i64 7, .int .i64 19, .int .i64 61, .int .i64 6, .slice (some ⟨bk, ok, none⟩) 80 c1, .slice A2 8 c2] (o := 0) hK3 (by intro j v hj; rw [Nat.zero_add]; simpa using hj)
      go_wp2_with (refine wpList_load_mid rfl 50 (.tmp 3) rfl w.heap.size 0 rfl [.int .i64 64, .int .i64 80, .int .i64 28, .int .i64 34, .int .i64 39, .int .i64 14, .int .i64 18, .int .i64 41, .int .i64 1, .int .i64 8, .int .i64 7, .int .i64 19, .int .i64 61, .int .i64 6, .slice (some ⟨bk, ok, none⟩) 80 c1, .slice A2 8 c2] _ hr3 Tryd.underlying50 rfl (by kernel_rfl) ?_)
      refine (cut'_64 p1 e' _ _ _ _ _ p164 he'.out).mono ?_
      rintro ee w4 ⟨rfl, hb4⟩
      have hK4 := (hb4.block w.heap.size (by have := World.block_lt_of_cell? _ _ (cell_blk hK3 1 rfl); exact this)).trans hK3
      have hr4 := range_part [.int .i64 64, .int .i64 80, .int .i64 28, .int .i64 34, .int .i64 39, .int .i64 14, .int .i64 18, .int .i64 41, .int .i64 1, .int .i64 8, .int .i64 7, .int .i64 19, .int .i64 61, .int .i64 6, .slice (some ⟨bk, ok, none⟩) 80 c1, .slice A2 8 c2] (o := 0) hK4 (by intro j v hj; rw [Nat.zero_add]; simpa using hj)
      go_wp2_with (refine wpList_load_mid rfl 50 (.tmp 3) rfl w.heap.size 0 rfl [.int .i64 64, .int .i64 80, .int .i64 28, .int .i64 34, .int .i64 39, .int .i64 14, .int .i64 18, .int .i64 41, .int .i64 1, .int .i64 8, .int .i64 7, .int .i64 19, .int .i64 61, .int .i64 6, .slice (some ⟨bk, ok, none⟩) 80 c1, .slice A2 8 c2] _ hr4 Tryd.underlying50 rfl (by kernel_rfl) ?_)
      refine (cut'_64 p2 a' _ _ _ _ _ p264 ha'.out).mono ?_
      rintro ee w5 ⟨rfl, hb5⟩
      go_wp2_with fail
      have hokn := rnds_ok (K := K64) (w := wds K64 l) hok (t + 1)
      rw [← hrnd.out] at hokn
      have q1 := hb.trans (y.h.mono hb.size)
      have q2 := q1.trans (hb3.mono q1.size)
      have q3 := q2.trans (hb4.mono q2.size)
      have q4 := q3.trans (hb5.mono q3.size)
      exact ⟨⟨t + 1, ⟨a', a, b, cc, e', e, f, g⟩, rfl, rfl, rfl, rfl, rfl, rfl, rfl, rfl, by go_num, by omega, hrnd, hokn, q4⟩, by simp only [intOf]; omega⟩
    · obtain ⟨wq, hwq⟩ : ∃ wq, wq = wr := ⟨wr, rfl⟩
      subst hwq
      have htR : Hid (t = 80) := (by omega : t = 80)
      have hnt : ¬ (t : Int) < 80 := by omega
      have hadd : Hid (blk K64 v l = add8 64 v ⟨a, b, cc, d, e, f, g, h⟩) := by
        unfold Hid blk
        rw [hs.out, htR.out]
        rfl
      obtain ⟨ba, bb, bc, bd, be', bf, bg, bh⟩ := hso.out
      dsimp only at ba bb bc bd be' bf bg bh
      obtain ⟨W2, hW2⟩ : ∃ W2, W2 = wq.alloc (.cells #[.int .u64 a, .int .u64 b, .int .u64 cc, .int .u64 d, .int .u64 e, .int .u64 f, .int .u64 g, .int .u64 h] 52) := ⟨_, rfl⟩
      have hb2 : Below wq.heap.size wq W2 := by rw [hW2]; exact (Below.refl _ _).alloc (Nat.le_refl _) _
      have hS : W2.heap[wq.heap.size]? = some (.cells #[.int .u64 a, .int .u64 b, .int .u64 cc, .int .u64 d, .int .u64 e, .int .u64 f, .int .u64 g, .int .u64 h] 52 (0, 0)) := by rw [hW2]; exact heap_alloc_new wq _
      have hrs : Rd W2 W2.heap.size 1 (some ⟨wq.heap.size, 0, none⟩) 8 ((⟨a, b, cc, d, e, f, g, h⟩ : S8).l.map U) := by
        refine ⟨rfl, fun _ => ⟨wq.heap.size, 0, rfl, by rw [hW2]; simp, fun j u hu => cell_blk hS _ ?_⟩⟩
        rw [Nat.zero_add, ← hu]
        (rcases j with _ | _ | _ | _ | _ | _ | _ | _ | j <;> rfl)
      have hv2 := (hv1.below hb).to' (hb2.mono hb.size)
      have hK2 := (hb2.block w.heap.size (World.block_lt_of_cell? _ _ hcR)).trans hKr
      have HW2 := Lib.hid hW2
      clear hW2
      go_wp2_with fail
      rw [← HW2.out]
      go_loopw [20, 21] (fun x20 x21 wr => ∃ (i : Nat) (A' : Option Addr) (c' : Nat), x20 = .slice A' i c' ∧ x21 = .int .i64 i ∧ i ≤ 8 ∧ (A' = none ∨ 0 < c') ∧ OwnS wr W2.heap.size A' i c' (((blk K64 v l).l.take i).map U) ∧ Below W2.heap.size W2 wr) (fun _ x21 _ => 8 - (intOf x21).toNat)
      case atStart => exact ⟨0, none, 0, rfl, rfl, by omega, .inl rfl, OwnS.nil _ _ _, Below.refl _ _⟩
      case round =>
        obtain ⟨i, A', c', rfl, rfl, hi, hA', ho, hbw⟩ := hrel
        by_cases hi8 : i < 8
        · have hi8' : (i : Int) < 8 := by omega
          obtain ⟨bv3, ov3, xv, hA3, _, hcx, hxv⟩ := (hv2.below (hbw.mono (by have := hb2.size; have := hb.size; omega))).atU (k := i) hi8
          injection hA3 with hA3
          injection hA3 with hA31 hA32
          subst hA31 hA32
          obtain ⟨bs3, os3, xs, hA3, _, hcs, hxs⟩ := (hrs.below hbw).atU (k := i) hi8
          injection hA3 with hA3
          injection hA3 with hA31 hA32
          subst hA31 hA32
          rw [Nat.zero_add] at hcs
          have hi0 : (0 : Int) ≤ i := by omega
          obtain ⟨n1, hn1⟩ : ∃ n, Hid ((xv + xs) % 18446744073709551616 = n) := ⟨_, Lib.hid rfl⟩
          obtain ⟨n2, hn2⟩ : ∃ n, Hid (n1 % 2 ^ 64 = n) := ⟨n1 % 2 ^ 64, Lib.hid rfl⟩
          have hn1b : n1 < 18446744073709551616 := by rw [← hn1.out]; exact Nat.mod_lt _ (by decide)
          have f1 : IntKind.u64.wrap ((xv : Int) + (xs : Int)) = (n1 : Int) := by rw [← Int.natCast_add, wrapU, hn1.out]
          have f9 : IntKind.i64.wrap ((i : Int) + 1) = ((i + 1 : Nat) : Int) := by rw [IntWalk.i64_in _ (by omega)]; omega
          have hnew : Hid (((blk K64 v l).l.take i).map U ++ [Value.int .u64 (n2 : Int)] = ((blk K64 v l).l.take (i + 1)).map U) := by
            unfold Hid
            have e : (blk K64 v l).l[i]? = some n2 := by
              rw [hadd.out, add8_get _ _ _ i hi8, hxv.out, hxs.out, ← hn2.out, ← hn1.out, cut_add_64]
            rw [List.take_add_one, e]
            simp [U]
          have hbz := Lib.hid hbw.size
          have hod : OwnS wr.drew W2.heap.size A' i c' (((blk K64 v l).l.take i).map U) := ho.to (below_drew (Below.refl _ _))
          have hld : w.heap.size < W2.heap.size ∧ bv < W2.heap.size ∧ wq.heap.size < W2.heap.size := by
            have hh : w.heap.size < wq.heap.size := World.block_lt_of_cell? _ _ hcR
            have := hb.size
            have : wq.heap.size < W2.heap.size := by rw [HW2.out]; simp
            omega
          obtain ⟨hl1, hl2, hl3⟩ := hld
          have hKS : ∀ w', Sta wr.drew A' (((blk K64 v l).l.take i).map U) w' → w'.heap[w.heap.size]? = some (.cells #[.int .i64 64, .int .i64 80, .int .i64 28, .int .i64 34, .int .i64 39, .int .i64 14, .int .i64 18, .int .i64 41, .int .i64 1, .int .i64 8, .int .i64 7, .int .i64 19, .int .i64 61, .int .i64 6, .slice (some ⟨bk, ok, none⟩) 80 c1, .slice A2 8 c2] 50 (0, 0)) := fun w' hS =>
            (hS.old hod hA' hl1 (Nat.lt_of_lt_of_le hl1 hbz.out)).trans ((hbw.block _ hl1).trans hK2)
          have hcx' : ∀ w', Sta wr.drew A' (((blk K64 v l).l.take i).map U) w' → w'.cell? ⟨bv, ov + i, none⟩ = some (.int .u64 xv) := fun w' hS =>
            (World.cell?_of_block (a := ⟨bv, ov + i, none⟩) (hS.old hod hA' hl2 (Nat.lt_of_lt_of_le hl2 hbz.out))).trans hcx
          have hcs' : ∀ w', Sta wr.drew A' (((blk K64 v l).l.take i).map U) w' → w'.cell? ⟨wq.heap.size, i, none⟩ = some (.int .u64 xs) := fun w' hS =>
            (World.cell?_of_block (a := ⟨wq.heap.size, i, none⟩) (hS.old hod hA' hl3 (Nat.lt_of_lt_of_le hl3 hbz.out))).trans hcs
          clear hcx hcs
          go_wp2_with fail
          refine wp_region_noPanic ?_
          refine wp_region_held_drew (S := fun w' => Sta wr.drew A' (((blk K64 v l).l.take i).map U) w') (by kernel_rfl) (Sta.refl _ _ _) (fun hS => ?_)
          refine wpAnyH_take (i := 0) (v := ?v0) rfl (by kernel_rfl) (by kernel_rfl) (by kernel_rfl) (fun _ _ _ h => h) (Or.inl ⟨by rfl, ?hy0⟩) hS ?rest0
          case hy0 => (intro w hSw; go_simp; first | done | with_reducible rfl)
          try simp only [Act.put, List.getElem_toArray, List.getElem_cons_zero, List.getElem_cons_succ, List.setIfInBounds_toArray, List.set_cons_zero, List.set_cons_succ]
          refine wpAnyH_take (i := 1) (v := _) rfl (by kernel_rfl) (by kernel_rfl) (by kernel_rfl) (fun _ _ _ h => h) (yields_load rfl (.tmp 3) rfl rfl (fun w hSw => load_blk (hKS w hSw) Tryd.underlying50 rfl (by kernel_rfl))) hS ?rest1
          try simp only [Act.put, List.getElem_toArray, List.getElem_cons_zero, List.getElem_cons_succ, List.setIfInBounds_toArray, List.set_cons_zero, List.set_cons_succ]
          refine wpAnyH_take (i := 2) (v := ?v2) rfl (by kernel_rfl) (by kernel_rfl) (by kernel_rfl) (fun _ _ _ h => h) (Or.inl ⟨by rfl, ?hy2⟩) hS ?rest2
          case hy2 => (intro w hSw; go_simp; first | done | with_reducible rfl)
          try simp only [Act.put, List.getElem_toArray, List.getElem_cons_zero, List.getElem_cons_succ, List.setIfInBounds_toArray, List.set_cons_zero, List.set_cons_succ]
          refine wpAnyH_take (i := 3) (v := ?v3) rfl (by kernel_rfl) (by kernel_rfl) (by kernel_rfl) (fun _ _ _ h => h) (Or.inl ⟨by rfl, ?hy3⟩) hS ?rest3
          case hy3 => (intro w hSw; go_simp; first | done | with_reducible rfl)
          try simp only [Act.put, List.getElem_toArray, List.getElem_cons_zero, List.getElem_cons_succ, List.setIfInBounds_toArray, List.set_cons_zero, List.set_cons_succ]
          refine wpAnyH_take (i := 4) (v := ?v4) rfl (by kernel_rfl) (by kernel_rfl) (by kernel_rfl) (fun _ _ _ h => h) (Or.inl ⟨by rfl, ?hy4⟩) hS ?rest4
          case hy4 => (intro w hSw; go_simp; first | done | with_reducible rfl)
          try simp only [Act.put, List.getElem_toArray, List.getElem_cons_zero, List.getElem_cons_succ, List.setIfInBounds_toArray, List.set_cons_zero, List.set_cons_succ]
          refine wpAnyH_take (i := 5) (v := ?v5) rfl (by kernel_rfl) (by kernel_rfl) (by kernel_rfl) (fun _ _ _ h => h) (Or.inl ⟨by rfl, ?hy5⟩) hS ?rest5
          case hy5 => (intro w hSw; have hcw := hcx' w hSw; go_simp; first | done | with_reducible rfl)
          try simp only [Act.put, List.getElem_toArray, List.getElem_cons_zero, List.getElem_cons_succ, List.setIfInBounds_toArray, List.set_cons_zero, List.set_cons_succ]
          refine wpAnyH_take (i := 6) (v := ?v6) rfl (by kernel_rfl) (by kernel_rfl) (by kernel_rfl) (fun _ _ _ h => h) (Or.inl ⟨by rfl, ?hy6⟩) hS ?rest6
          case hy6 => (intro w hSw; go_simp; first | done | with_reducible rfl)
          try simp only [Act.put, List.getElem_toArray, List.getElem_cons_zero, List.getElem_cons_succ, List.setIfInBounds_toArray, List.set_cons_zero, List.set_cons_succ]
          refine wpAnyH_take (i := 7) (v := ?v7) rfl (by kernel_rfl) (by kernel_rfl) (by kernel_rfl) (fun _ _ _ h => h) (Or.inl ⟨by rfl, ?hy7⟩) hS ?rest7
          case hy7 => (intro w hSw; go_simp; first | done | with_reducible rfl)
          try simp only [Act.put, List.getElem_toArray, List.getElem_cons_zero, List.getElem_cons_succ, List.setIfInBounds_toArray, List.set_cons_zero, List.set_cons_succ]
          refine wpAnyH_take (i := 8) (v := ?v8) rfl (by kernel_rfl) (by kernel_rfl) (by kernel_rfl) (fun _ _ _ h => h) (Or.inl ⟨by rfl, ?hy8⟩) hS ?rest8
          case hy8 => (intro w hSw; go_simp; first | done | with_reducible rfl)
          try simp only [Act.put, List.getElem_toArray, List.getElem_cons_zero, List.getElem_cons_succ, List.setIfInBounds_toArray, List.set_cons_zero, List.set_cons_succ]
          refine wpAnyH_take (i := 9) (v := ?v9) rfl (by kernel_rfl) (by kernel_rfl) (by kernel_rfl) (fun _ _ _ h => h) (Or.inl ⟨by rfl, ?hy9⟩) hS ?rest9
          case hy9 => (intro w hSw; have hcw := hcs' w hSw; go_simp; first | done | with_reducible rfl)
          try simp only [Act.put, List.getElem_toArray, List.getElem_cons_zero, List.getElem_cons_succ, List.setIfInBounds_toArray, List.set_cons_zero, List.set_cons_succ]
          refine wpAnyH_take (i := 10) (v := ?v10) rfl (by kernel_rfl) (by kernel_rfl) (by kernel_rfl) (fun _ _ _ h => h) (Or.inl ⟨by rfl, ?hy10⟩) hS ?rest10
          case hy10 => (intro w hSw; go_simp; first | done | with_reducible rfl)
          try simp only [Act.put, List.getElem_toArray, List.getElem_cons_zero, List.getElem_cons_succ, List.setIfInBounds_toArray, List.set_cons_zero, List.set_cons_succ]
          refine wpAnyH_ready (rs := [11]) (by kernel_rfl) (by simp) ?_
          refine AllReadyH.cons rfl (fun K hK => ?_) AllReadyH.nil
          go_simp
          refine (cut'_64 n1 n2 _ _ _ _ _ hn1b hn2.out).mono ?_
          rintro ee u1 ⟨rfl, p1⟩
          go_wp2_with fail
          have r1' := hS.below p1
          refine hK.out _ _ r1' ?_
          intro hS
          clear hK K
          try simp only [Act.put, List.getElem_toArray, List.getElem_cons_zero, List.getElem_cons_succ, List.setIfInBounds_toArray, List.set_cons_zero, List.set_cons_succ]
          refine wpAnyH_ready (rs := [12]) (by kernel_rfl) (by simp) ?_
          refine AllReadyH.cons rfl (fun K hK => ?_) AllReadyH.nil
          go_simp
          have r2' := r1'.below ((Below.refl _ _).alloc (Nat.le_refl _) (.cells #[.int .u64 (n2 : Int)] 52))
          refine hK.out _ _ r2' ?_
          intro hS
          clear hK K
          try simp only [Act.put, List.getElem_toArray, List.getElem_cons_zero, List.getElem_cons_succ, List.setIfInBounds_toArray, List.set_cons_zero, List.set_cons_succ]
          refine wpAnyH_ready (rs := [13]) (by kernel_rfl) (by simp) ?_
          refine AllReadyH.cons rfl (fun K hK => ?_) AllReadyH.nil
          refine step_apS (.tmp 130) (.tmp 142) _ rfl rfl W2.heap.size 52 8 _ Tryd.underlying48 info64 rfl _ _ _ _ rfl ((hod.to p1).to ((Below.refl _ _).alloc (Nat.le_refl _) _)) (u1.heap.size + 1) (some ⟨u1.heap.size, 0, none⟩) 1 1 _ rfl (one_cell u1 _ (.int .u64 n2)) (by simp; rfl) (by simp only [maxLen]; omega) (by omega) (by have := hbz.out; have : wr.drew.heap.size = wr.heap.size := rfl; have := p1.size; simp; omega) ?_
          intro A5 c5 u4 h5 hb5 h5c h5b
          have r5' := r2'.app (by have := hb5.size; exact this) h5c h5b
          refine hK.out _ _ r5' ?_
          intro hS
          clear hK K
          try simp only [Act.put, List.getElem_toArray, List.getElem_cons_zero, List.getElem_cons_succ, List.setIfInBounds_toArray, List.set_cons_zero, List.set_cons_succ]
          refine wpAnyH_take (i := 14) (v := ?v14) rfl (by kernel_rfl) (by kernel_rfl) (by kernel_rfl) (fun _ _ _ h => h) (Or.inl ⟨by rfl, ?hy14⟩) hS ?rest14
          case hy14 => (intro w hSw; go_simp; first | done | with_reducible rfl)
          try simp only [Act.put, List.getElem_toArray, List.getElem_cons_zero, List.getElem_cons_succ, List.setIfInBounds_toArray, List.set_cons_zero, List.set_cons_succ]
          refine wpAnyH_done (by kernel_rfl) (NoPanic.normal ?_) _
          go_wp2_with fail
          go_roundw
          case rel =>
            rw [hnew.out] at h5
            have q1 := below_drew hbw
            have q2 := q1.trans (p1.mono q1.size)
            have q5 := (q2.alloc q2.size (.cells #[.int .u64 (n2 : Int)] 52)).trans hb5
            exact ⟨i + 1, A5, c5, rfl, by go_num, by omega, .inr (Nat.lt_of_lt_of_le (Nat.succ_pos i) h5.le), h5, q5⟩
          case measure => simp only [intOf]; omega
        · obtain rfl : i = 8 := by omega
          go_wp2_with fail
          go_ret
          refine ⟨A', c', rfl, ?_, ?_⟩
          · rw [List.take_of_length_le (by simp [S8.l])] at ho
            exact ho.mono (by have := hb2.size; have := hb01.size; have := hb.size; omega)
          · have q1 := hb01.trans (hb.mono hb01.size)
            have q2 := q1.trans (hb2.mono q1.size)
            exact q2.trans (hbw.mono q2.size)
end Go.Proofs.YtclecmpmohoamaaDoor
