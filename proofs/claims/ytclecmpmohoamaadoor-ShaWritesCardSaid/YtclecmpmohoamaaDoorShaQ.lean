/- The program's block. (Printed by gen_shal.py.) -/
import Derived.Test.YtclecmpmohoamaaDoorShaH
import Derived.Test.YtclecmpmohoamaaDoorShaI
namespace Go.Proofs.YtclecmpmohoamaaDoor
open Go.RowKit
set_option linter.unusedVariables false
set_option linter.unusedSimpArgs false
def cw (z : Nat) (p : List UInt8) (i j : Nat) : Nat := be ((p.drop (j * z)).take (min z (i - j * z)))
def cws (K : Kd) (p : List UInt8) (i : Nat) : List Nat := (List.range 16).map (cw (K.b / 8) p i)
theorem cws_zero (K : Kd) (p : List UInt8) : cws K p 0 = List.replicate 16 0 := by
  unfold cws
  rw [List.eq_replicate_iff]
  refine ⟨by simp, fun b hb => ?_⟩
  obtain ⟨j, _, rfl⟩ := List.mem_map.1 hb
  simp [cw, be]
theorem cw_lt_32 (p : List UInt8) (i : Nat) : cw 4 p i (i / 4) * 256 < 2 ^ 32 := by
  have h := be_lt ((p.drop (i / 4 * 4)).take (min 4 (i - i / 4 * 4)))
  have h2 : ((p.drop (i / 4 * 4)).take (min 4 (i - i / 4 * 4))).length ≤ 3 := by rw [List.length_take]; omega
  have h3 : 256 ^ ((p.drop (i / 4 * 4)).take (min 4 (i - i / 4 * 4))).length ≤ 256 ^ 3 := Nat.pow_le_pow_right (by omega) h2
  unfold cw
  have : (256 : Nat) ^ 3 * 256 = 2 ^ 32 := by decide
  omega
theorem cw_lt_64 (p : List UInt8) (i : Nat) : cw 8 p i (i / 8) * 256 < 2 ^ 64 := by
  have h := be_lt ((p.drop (i / 8 * 8)).take (min 8 (i - i / 8 * 8)))
  have h2 : ((p.drop (i / 8 * 8)).take (min 8 (i - i / 8 * 8))).length ≤ 7 := by rw [List.length_take]; omega
  have h3 : 256 ^ ((p.drop (i / 8 * 8)).take (min 8 (i - i / 8 * 8))).length ≤ 256 ^ 7 := Nat.pow_le_pow_right (by omega) h2
  unfold cw
  have : (256 : Nat) ^ 7 * 256 = 2 ^ 64 := by decide
  omega
theorem heap_set {w : World} {g j : Nat} {cs : Array Value} {t : TypeId} {f : Nat × Nat} (h : w.heap[g]? = some (.cells cs t f)) (u : Value) : (w.setCell ⟨g, j, none⟩ u).heap[g]? = some (.cells (cs.setIfInBounds j u) t f) := by
  simp [World.setCell, Array.getElem?_modify, h]
theorem szAlloc (w : World) (o : Obj) : (w.alloc o).heap.size = w.heap.size + 1 := by
  show (w.heap.push o).size = _
  simp
theorem frozen_blk {w : World} {g : Nat} {cs : Array Value} {t : TypeId} (h : w.heap[g]? = some (.cells cs t (0, 0))) (j : Nat) : w.frozen? ⟨g, j, none⟩ = false := by simp [World.frozen?, h]
theorem cw_step (z : Nat) (p : List UInt8) (i n : Nat) (y : UInt8) (hz : 0 < z) (hy : p[i]? = some y) (hn : n = cw z p i (i / z) * 256 + y.toNat) (j : Nat) : cw z p (i + 1) j = if j = i / z then n else cw z p i j := by
  have hdm := Nat.div_add_mod i z
  have hlt := Nat.mod_lt i hz
  generalize hq : i / z = q at *
  generalize hr : i % z = r at *
  have hqz : q * z = z * q := Nat.mul_comm _ _
  split
  · subst j
    rw [hn]
    unfold cw
    rw [show min z (i - q * z) = r by omega, show min z (i + 1 - q * z) = r + 1 by omega, List.take_add_one, List.getElem?_drop, show q * z + r = i by omega, hy]
    exact be_snoc _ _
  · rename_i hj
    unfold cw
    congr 2
    rcases Nat.lt_or_ge j q with h | h
    · have h2 : (j + 1) * z ≤ q * z := Nat.mul_le_mul_right _ h
      rw [Nat.succ_mul] at h2
      omega
    · have h2 : (q + 1) * z ≤ j * z := Nat.mul_le_mul_right _ (by omega)
      rw [Nat.succ_mul] at h2
      omega
theorem cws_step (K : Kd) (p : List UInt8) (i n : Nat) (y : UInt8) (hz : 0 < K.b / 8) (hy : p[i]? = some y) (hn : n = cw (K.b / 8) p i (i / (K.b / 8)) * 256 + y.toNat) : (cws K p i).set (i / (K.b / 8)) n = cws K p (i + 1) := by
  apply List.ext_getElem?
  intro j
  unfold cws
  rw [List.getElem?_set, List.getElem?_map, List.getElem?_map]
  rcases Nat.lt_or_ge j 16 with h | h
  · rw [List.getElem?_range h]
    simp only [Option.map_some, List.length_map, List.length_range]
    rw [cw_step _ p i n y hz hy hn j]
    by_cases hj : i / (K.b / 8) = j
    · rw [if_pos hj, if_pos (by omega), if_pos hj.symm]
    · rw [if_neg hj, if_neg (fun e => hj e.symm)]
  · rw [List.getElem?_eq_none (by simpa using h)]
    by_cases hj : i / (K.b / 8) = j
    · rw [if_pos hj, if_neg (by simp; omega)]; rfl
    · rw [if_neg hj]; rfl
theorem cws_end (K : Kd) (p : List UInt8) (S : Nat) (hS : S = 16 * (K.b / 8)) : cws K p S = first16 K p := by
  unfold cws first16
  apply List.map_congr_left
  intro j hj
  have hj := List.mem_range.1 hj
  unfold cw bw
  have h2 : (j + 1) * (K.b / 8) ≤ 16 * (K.b / 8) := Nat.mul_le_mul_right _ hj
  rw [Nat.succ_mul] at h2
  rw [show min (K.b / 8) (S - j * (K.b / 8)) = K.b / 8 by omega]
theorem lt_of_blk {w : World} {g : Nat} {o : Obj} (h : w.heap[g]? = some o) : g < w.heap.size := by
  rcases Nat.lt_or_ge g w.heap.size with h1 | h1
  · exact h1
  · rw [Array.getElem?_eq_none h1] at h; cases h
theorem set8 {w : World} {g : Nat} {t : TypeId} {f : Nat × Nat} {a0 a1 a2 a3 a4 a5 a6 a7 : Value} (h : w.heap[g]? = some (.cells #[a0, a1, a2, a3, a4, a5, a6, a7] t f)) (b0 b1 b2 b3 b4 b5 b6 b7 : Value) :
    (w.setCells g 0 [b0, b1, b2, b3, b4, b5, b6, b7]).heap[g]? = some (.cells #[b0, b1, b2, b3, b4, b5, b6, b7] t f) :=
  by
  have h0 := heap_set (j := 0) h b0
  have h1 := heap_set (j := 1) h0 b1
  have h2 := heap_set (j := 2) h1 b2
  have h3 := heap_set (j := 3) h2 b3
  have h4 := heap_set (j := 4) h3 b4
  have h5 := heap_set (j := 5) h4 b5
  have h6 := heap_set (j := 6) h5 b6
  have h7 := heap_set (j := 7) h6 b7
  simp only [List.setIfInBounds_toArray, List.set_cons_zero, List.set_cons_succ] at h7
  simp only [World.setCells, Nat.zero_add, Nat.reduceAdd]
  exact h7
theorem ext_pre (K : Kd) (l : List Nat) (j : Nat) (n : Nat) (hj : j < l.length + n) : ∀ m, (ext K (n + m) l).getD j 0 = (ext K n l).getD j 0
  | 0 => rfl
  | m + 1 => by
    rw [← Nat.add_assoc, ext]
    have := ext_pre K l j n hj m
    rw [← this, List.getD_eq_getElem?_getD, List.getD_eq_getElem?_getD, List.getElem?_append_left (by rw [ext_length]; omega)]
theorem wds_next (K : Kd) (p : List UInt8) (t : Nat) (h16 : 16 ≤ t) (ht : t < K.r) :
    (wds K p).getD t 0 = (shi K.b ((wds K p).getD (t - 2) 0) K.L + (wds K p).getD (t - 7) 0 + shi K.b ((wds K p).getD (t - 15) 0) K.E + (wds K p).getD (t - 16) 0) % 2 ^ K.b := by
  obtain ⟨n, rfl⟩ : ∃ n, t = 16 + n := ⟨t - 16, by omega⟩
  obtain ⟨m, hm⟩ : ∃ m, K.r - 16 = n + 1 + m := ⟨K.r - 16 - n - 1, by omega⟩
  have hl := ext_length K (first16 K p) n
  rw [first16_length] at hl
  have hp : ∀ j, j < 16 + n → (wds K p).getD j 0 = (ext K n (first16 K p)).getD j 0 := fun j hj => by
    unfold wds
    rw [hm, Nat.add_assoc]
    exact ext_pre K _ j n (by rw [first16_length]; exact hj) _
  rw [hp (16 + n - 2) (by omega), hp (16 + n - 7) (by omega), hp (16 + n - 15) (by omega), hp (16 + n - 16) (by omega)]
  unfold wds
  rw [hm, ext_pre K _ (16 + n) (n + 1) (by rw [first16_length]; omega) m, ext, List.getD_eq_getElem?_getD, List.getElem?_append_right (by omega), hl, Nat.sub_self]
  simp only [List.getElem?_cons_zero, Option.getD_some]
  unfold nxt
  rw [hl]
def Wn (K : Kd) (p : List UInt8) (t : Nat) (ws : List Nat) : Prop := ws.length = 16 ∧ ∀ j, t ≤ j + 16 → j < max t 16 → ws[j % 16]? = some ((wds K p).getD j 0)
theorem Wn_zero (K : Kd) (p : List UInt8) : Hid (Wn K p 0 (first16 K p)) := by
  refine ⟨first16_length K p, fun j _ hj => ?_⟩
  have hj : j < 16 := by omega
  have hl := first16_length K p
  rw [Nat.mod_eq_of_lt hj]
  unfold wds
  have h := ext_pre K (first16 K p) j 0 (by omega) (K.r - 16)
  rw [Nat.zero_add] at h
  rw [h, ext, List.getD_eq_getElem?_getD, List.getElem?_eq_getElem (by omega)]
  rfl
theorem Wn.low {K : Kd} {p : List UInt8} {t : Nat} {ws : List Nat} (h : Wn K p t ws) (ht : t < 16) : ws[t % 16]? = some ((wds K p).getD t 0) := h.2 t (by omega) (by omega)
theorem Wn.up {K : Kd} {p : List UInt8} {t : Nat} {ws : List Nat} (h : Wn K p t ws) (ht : t < 16) : Wn K p (t + 1) ws := ⟨h.1, fun j h1 h2 => h.2 j (by omega) (by omega)⟩
theorem Wn.back {K : Kd} {p : List UInt8} {t : Nat} {ws : List Nat} (h : Wn K p t ws) (ht : 15 < t) (k : Nat) (hk : 0 < k) (hk2 : k ≤ 16) : ws[(t + (16 - k)) % 16]? = some ((wds K p).getD (t - k) 0) := by
  have := h.2 (t - k) (by omega) (by omega)
  rw [← this]
  congr 1
  omega
theorem Wn.step {K : Kd} {p : List UInt8} {t : Nat} {ws : List Nat} (h : Wn K p t ws) (ht : 15 < t) : Wn K p (t + 1) (ws.set (t % 16) ((wds K p).getD t 0)) := by
  refine ⟨by rw [List.length_set]; exact h.1, fun j h1 h2 => ?_⟩
  rw [List.getElem?_set, h.1]
  by_cases hj : j = t
  · subst j; rw [if_pos rfl, if_pos (by omega)]
  · rw [if_neg (by omega)]; exact h.2 j (by omega) (by omega)
theorem max_xor_32 (e : Nat) (he : e < 2 ^ 32) : 4294967295 ^^^ e = 2 ^ 32 - 1 - e := by
  have h : (~~~ (BitVec.ofNat 32 e)).toNat = 4294967295 - e := by
    rw [BitVec.toNat_not, BitVec.toNat_ofNat, Nat.mod_eq_of_lt he]
  show _ = 4294967295 - e
  rw [← h, ← BitVec.allOnes_xor, BitVec.toNat_xor, BitVec.toNat_allOnes, BitVec.toNat_ofNat, Nat.mod_eq_of_lt he]
theorem max_xor_64 (e : Nat) (he : e < 2 ^ 64) : 18446744073709551615 ^^^ e = 2 ^ 64 - 1 - e := max_xor e he
theorem wds_lt {K : Kd} (hK : K.b = 8 * (K.b / 8)) (p : List UInt8) (t : Nat) : (wds K p).getD t 0 < 2 ^ K.b := getD_lt (Nat.two_pow_pos _) (ext_lt K _ (first16_lt hK p) _) t
def mx (n i : Nat) (v s : S8) : List Nat := (List.range 8).map fun j => if j < i then (v.l.getD j 0 + s.l.getD j 0) % 2 ^ n else v.l.getD j 0
theorem mx_end (n : Nat) (v s : S8) : mx n 8 v s = (add8 n v s).l := rfl
theorem mx_at (n : Nat) (v s : S8) {i : Nat} (hi : i < 8) : (mx n i v s)[i]? = some (v.l.getD i 0) := by
  unfold mx
  rw [List.getElem?_map, List.getElem?_range hi]
  simp
theorem mx_set (n : Nat) (v s : S8) {i : Nat} (hi : i < 8) : (mx n i v s).set i ((v.l.getD i 0 + s.l.getD i 0) % 2 ^ n) = mx n (i + 1) v s := by
  apply List.ext_getElem?
  intro j
  unfold mx
  rw [List.getElem?_set, List.length_map, List.length_range]
  by_cases hj : i = j
  · subst j; rw [if_pos rfl, if_pos hi, List.getElem?_map, List.getElem?_range hi]; simp
  · rw [if_neg hj, List.getElem?_map, List.getElem?_map]
    rcases Nat.lt_or_ge j 8 with h | h
    · rw [List.getElem?_range h]
      simp only [Option.map_some]
      by_cases hji : j < i
      · rw [if_pos hji, if_pos (by omega)]
      · rw [if_neg hji, if_neg (by omega)]
    · rw [List.getElem?_eq_none (by simpa using h)]; rfl
def w8_32 (s : S8) : Value := .agg #[.int .u32 s.a, .int .u32 s.b, .int .u32 s.c, .int .u32 s.d, .int .u32 s.e, .int .u32 s.f, .int .u32 s.g, .int .u32 s.h]
def w8_64 (s : S8) : Value := .agg #[.int .u64 s.a, .int .u64 s.b, .int .u64 s.c, .int .u64 s.d, .int .u64 s.e, .int .u64 s.f, .int .u64 s.g, .int .u64 s.h]
end Go.Proofs.YtclecmpmohoamaaDoor
