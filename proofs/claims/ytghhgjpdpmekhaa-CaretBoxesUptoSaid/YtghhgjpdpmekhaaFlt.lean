/- Whole numbers below 2^53 as words of the double format: sums, differences and order are exact. Plain: no program in sight. -/
import Derived.WalkKit
import Derived.WalkLawsBesides
namespace Go.Proofs.Ytghhgjpdpmekhaa
open Ieee

/-- The word of a whole number. -/
def fl (z : Int) : Nat := FloatKind.f64.nearest z
def flDat (z : Int) : Datum := if z = 0 then .number false 0 (-1074) else .number (z < 0) (z.natAbs * 2 ^ (52 - z.natAbs.log2)) (z.natAbs.log2 - 52)

theorem log_lt {n : Nat} (h0 : n ≠ 0) (h : n < 2 ^ 53) : n.log2 ≤ 52 := by
  have := (Nat.log2_lt h0).2 h
  omega
theorem log_bd {n : Nat} (h0 : n ≠ 0) (h : n < 2 ^ 53) : 2 ^ 52 ≤ n * 2 ^ (52 - n.log2) ∧ n * 2 ^ (52 - n.log2) < 2 ^ 53 := by
  have hl := log_lt h0 h
  have h1 := Nat.log2_self_le h0
  have h2 : n < 2 ^ (n.log2 + 1) := (Nat.log2_lt h0).1 (Nat.lt_succ_self _)
  constructor
  · calc 2 ^ 52 = 2 ^ n.log2 * 2 ^ (52 - n.log2) := by rw [← Nat.pow_add]; congr 1; omega
      _ ≤ n * 2 ^ (52 - n.log2) := Nat.mul_le_mul_right _ h1
  · calc n * 2 ^ (52 - n.log2) < 2 ^ (n.log2 + 1) * 2 ^ (52 - n.log2) := Nat.mul_lt_mul_of_pos_right h2 (Nat.two_pow_pos _)
      _ = 2 ^ 53 := by rw [← Nat.pow_add]; congr 1; omega
theorem cut_exact (neg : Bool) (n d : Nat) (h : 2 ^ d ∣ n) (hn : n ≠ 0) : Toward.even.cut neg n d = n / 2 ^ d := by
  have hle : 2 ^ d ≤ n := Nat.le_of_dvd (by omega) h
  have hd : d ≤ n.log2 := by
    rcases Nat.lt_or_ge n.log2 d with h' | h'
    · have := (Nat.log2_lt hn).1 h'; omega
    · exact h'
  unfold Toward.cut
  have hm : min d (n.log2 + 2) = d := by omega
  have hr : n % 2 ^ d = 0 := Nat.mod_eq_zero_of_dvd h
  have hp : 0 < 2 ^ d := Nat.two_pow_pos _
  simp only [hm, Nat.one_shiftLeft, hr, Nat.mul_zero]
  have h1 : decide (2 ^ d < 0) = false := by simp
  have h2 : ((2 ^ d : Nat) == 0) = false := by rw [beq_eq_false_iff_ne]; omega
  simp [h2]

/-- The rung of a whole number, however it is written. -/
theorem near_pow (neg : Bool) (n k : Nat) (h0 : n ≠ 0) (h : n < 2 ^ 53) (hk : k ≤ 1074) :
    double.nearest neg (n * 2 ^ k) (-(k : Int)) = double.word neg ((n.log2 + 1022) * 2 ^ 52 + n * 2 ^ (52 - n.log2)) := by
  have hl := log_lt h0 h
  have hb := log_bd h0 h
  have hp : 0 < 2 ^ k := Nat.two_pow_pos _
  have hnz : n * 2 ^ k ≠ 0 := Nat.mul_ne_zero h0 (by omega)
  have hlog : (n * 2 ^ k).log2 = n.log2 + k := by
    rw [Nat.log2_eq_iff hnz]
    have h1 := Nat.log2_self_le h0
    have h2 : n < 2 ^ (n.log2 + 1) := (Nat.log2_lt h0).1 (Nat.lt_succ_self _)
    constructor
    · rw [Nat.pow_add]; exact Nat.mul_le_mul_right _ h1
    · rw [show n.log2 + k + 1 = (n.log2 + 1) + k by omega, Nat.pow_add]; exact Nat.mul_lt_mul_of_pos_right h2 hp
  have hlp : double.leastPlace = -1074 := by decide
  have hfb : double.fractionBits = 52 := rfl
  have hbin : double.binade = 2 ^ 52 := rfl
  have hir : double.infRung = 2047 * 2 ^ 52 := by decide
  unfold Format.nearest
  rw [if_neg hnz]
  simp only [hlog, hlp, hfb, hbin, hir]
  have hlast : max (-(k : Int) + ((n.log2 + k : Nat) : Int) - ((52 : Nat) : Int)) (-1074) = (n.log2 : Int) - 52 := by omega
  rw [hlast]
  have hsh : (((n.log2 : Int) - 52) - -(k : Int)).toNat = k + n.log2 - 52 := by omega
  have hs2 : (-(k : Int) - ((n.log2 : Int) - 52)).toNat = 52 - n.log2 - k := by omega
  have hlt : (((n.log2 : Int) - 52) - (-1074)).toNat = n.log2 + 1022 := by omega
  rw [hsh, hs2, hlt, Nat.shiftLeft_eq]
  have key : Toward.even.cut neg (n * 2 ^ k * 2 ^ (52 - n.log2 - k)) (k + n.log2 - 52) = n * 2 ^ (52 - n.log2) := by
    rw [cut_exact]
    · rcases Nat.le_total k (52 - n.log2) with hc | hc
      · rw [show k + n.log2 - 52 = 0 by omega, Nat.pow_zero, Nat.div_one, Nat.mul_assoc, ← Nat.pow_add]
        congr 2; omega
      · rw [show 52 - n.log2 - k = 0 by omega, Nat.pow_zero, Nat.mul_one]
        have : n * 2 ^ k = n * 2 ^ (52 - n.log2) * 2 ^ (k + n.log2 - 52) := by
          rw [Nat.mul_assoc, ← Nat.pow_add]; congr 2; omega
        rw [this, Nat.mul_div_cancel _ (Nat.two_pow_pos _)]
    · rcases Nat.le_total k (52 - n.log2) with hc | hc
      · rw [show k + n.log2 - 52 = 0 by omega, Nat.pow_zero]; exact Nat.one_dvd _
      · have : n * 2 ^ k = n * 2 ^ (52 - n.log2) * 2 ^ (k + n.log2 - 52) := by
          rw [Nat.mul_assoc, ← Nat.pow_add]; congr 2; omega
        rw [show 52 - n.log2 - k = 0 by omega, Nat.pow_zero, Nat.mul_one, this]
        exact Nat.dvd_mul_left _ _
    · exact Nat.mul_ne_zero hnz (by have := Nat.two_pow_pos (52 - n.log2 - k); omega)
  rw [key]
  have h3 : (n.log2 + 1022) * 2 ^ 52 ≤ 1074 * 2 ^ 52 := Nat.mul_le_mul_right _ (by omega)
  have h5 : n * 2 ^ (52 - n.log2) ≤ 2 * 2 ^ 52 := by
    have h6 := hb.2
    rw [show (2 : Nat) ^ 53 = 2 * 2 ^ 52 from by rw [Nat.pow_succ, Nat.mul_comm]] at h6
    exact Nat.le_of_lt h6
  have h4 : (n.log2 + 1022) * 2 ^ 52 + n * 2 ^ (52 - n.log2) ≤ 2047 * 2 ^ 52 :=
    calc (n.log2 + 1022) * 2 ^ 52 + n * 2 ^ (52 - n.log2) ≤ 1074 * 2 ^ 52 + 2 * 2 ^ 52 := Nat.add_le_add h3 h5
      _ = 1076 * 2 ^ 52 := by rw [← Nat.add_mul]
      _ ≤ 2047 * 2 ^ 52 := Nat.mul_le_mul_right _ (by decide)
  rw [Nat.min_eq_left h4]

theorem near_zero (neg : Bool) (p : Int) : double.nearest neg 0 p = double.word neg 0 := by unfold Format.nearest; rw [if_pos rfl]

/-- The rung of n, read again. -/
theorem read_rung (neg : Bool) (n : Nat) (h0 : n ≠ 0) (h : n < 2 ^ 53) :
    double.read (double.word neg ((n.log2 + 1022) * 2 ^ 52 + n * 2 ^ (52 - n.log2))) = .number neg (n * 2 ^ (52 - n.log2)) ((n.log2 : Int) - 52) := by
  have hl := log_lt h0 h
  obtain ⟨hb1, hb2⟩ := log_bd h0 h
  clear h
  generalize hN : n * 2 ^ (52 - n.log2) = N at *
  generalize hL : n.log2 = L at *
  have he : (-1074 : Int) + ((L + 1023 - 1 : Nat) : Int) = (L : Int) - 52 := by omega
  have hsw : double.signWeight = 2048 * 2 ^ 52 := by decide
  have hlp : double.leastPlace = -1074 := by decide
  have hbin : double.binade = 2 ^ 52 := rfl
  have hir : double.infRung = 2047 * 2 ^ 52 := by decide
  obtain ⟨M, rfl⟩ : ∃ M, N = 2 ^ 52 + M := ⟨N - 2 ^ 52, by rw [Nat.add_sub_cancel' hb1]⟩
  have hM : M < 2 ^ 52 := by
    rw [show (2 : Nat) ^ 53 = 2 ^ 52 + 2 ^ 52 from by rw [Nat.pow_succ, Nat.mul_two]] at hb2
    exact Nat.lt_of_add_lt_add_left hb2
  have hr : (L + 1022) * 2 ^ 52 + (2 ^ 52 + M) = (L + 1023) * 2 ^ 52 + M := by rw [← Nat.add_assoc, ← Nat.succ_mul]
  rw [hr]
  generalize hB : 2 ^ 52 = B at *
  have hBp : 0 < B := by rw [← hB]; exact Nat.two_pow_pos _
  have hR : (L + 1023) * B + M < 2047 * B := by
    have : (L + 1023) * B + M < (L + 1023) * B + B := Nat.add_lt_add_left hM _
    have h2 : (L + 1023) * B + B = (L + 1024) * B := by rw [← Nat.succ_mul]
    have h3 : (L + 1024) * B ≤ 2047 * B := Nat.mul_le_mul_right _ (by omega)
    omega
  have hR2 : (L + 1023) * B + M < 2048 * B := by omega
  have hdiv : ((L + 1023) * B + M) / B = L + 1023 := by
    rw [Nat.add_comm, Nat.add_mul_div_right _ _ hBp, Nat.div_eq_of_lt hM, Nat.zero_add]
  have hmod : ((L + 1023) * B + M) % B = M := by rw [Nat.add_comm, Nat.add_mul_mod_self_right, Nat.mod_eq_of_lt hM]
  have hge : ¬ (L + 1023) * B + M < B := by
    have : 1 * B ≤ (L + 1023) * B := Nat.mul_le_mul_right _ (by omega)
    omega
  generalize hrung : (L + 1023) * B + M = R at *
  have hw : (double.word neg R / double.signWeight % 2 == 1) = neg ∧ double.word neg R % double.signWeight = R := by
    rw [hsw]
    unfold Format.word
    rw [hsw]
    cases neg
    · simp only [Bool.false_eq_true, if_false]
      rw [Nat.div_eq_of_lt hR2, Nat.mod_eq_of_lt hR2]
      exact ⟨rfl, rfl⟩
    · simp only [if_true]
      rw [Nat.add_mod_left, Nat.mod_eq_of_lt hR2, Nat.add_div_left _ (by omega), Nat.div_eq_of_lt hR2]
      exact ⟨rfl, rfl⟩
  unfold Format.read
  simp only [hw.1, hw.2, hbin, hir, hlp]
  rw [if_neg hge, if_pos hR, hmod, hdiv, he]

theorem fl_eq (z : Int) : fl z = double.nearest (z < 0) z.natAbs 0 := rfl
theorem natAbs_lt {z : Int} (h1 : -(2 ^ 53) < z) (h2 : z < 2 ^ 53) : z.natAbs < 2 ^ 53 := by omega

theorem read_fl (z : Int) (h1 : -(2 ^ 53) < z) (h2 : z < 2 ^ 53) : double.read (fl z) = flDat z := by
  have h := natAbs_lt h1 h2
  rw [fl_eq]
  unfold flDat
  by_cases hz : z = 0
  · subst hz; decide
  · rw [if_neg hz]
    have h0 : z.natAbs ≠ 0 := by omega
    have hn := near_pow (z < 0) z.natAbs 0 h0 h (by omega)
    rw [Nat.pow_zero, Nat.mul_one] at hn
    rw [show (-((0 : Nat) : Int)) = 0 from rfl] at hn
    rw [hn, read_rung _ _ h0 h]

/-- What a datum of a whole number is worth, in units of 2 to the base. -/
theorem signed_fl (neg : Bool) (n : Nat) (base : Int) (h0 : n ≠ 0) (h : n < 2 ^ 53) (hb : base ≤ (n.log2 : Int) - 52) :
    signed neg (n * 2 ^ (52 - n.log2)) (((n.log2 : Int) - 52) - base).toNat = (if neg then -(n : Int) else n) * 2 ^ (-base).toNat := by
  have hl := log_lt h0 h
  unfold signed
  rw [Nat.shiftLeft_eq, Nat.mul_assoc, ← Nat.pow_add, show 52 - n.log2 + (((n.log2 : Int) - 52) - base).toNat = (-base).toNat by omega]
  split
  · rw [Int.natCast_mul, Int.natCast_pow, Int.neg_mul]; rfl
  · rw [Int.natCast_mul, Int.natCast_pow]; rfl

/-- A whole number's sign, magnitude and place. -/
def flM (z : Int) : Nat := if z = 0 then 0 else z.natAbs * 2 ^ (52 - z.natAbs.log2)
def flP (z : Int) : Int := if z = 0 then -1074 else (z.natAbs.log2 : Int) - 52
theorem flDat_eq (z : Int) : flDat z = .number (z < 0) (flM z) (flP z) := by
  unfold flDat flM flP
  split
  · rename_i h; subst h; rfl
  · rfl
theorem flP_bd (z : Int) (h1 : -(2 ^ 53) < z) (h2 : z < 2 ^ 53) : -1074 ≤ flP z ∧ flP z ≤ 0 := by
  unfold flP
  split
  · omega
  · rename_i h0
    have := log_lt (n := z.natAbs) (by omega) (natAbs_lt h1 h2)
    omega
theorem worth (z : Int) (base : Int) (h1 : -(2 ^ 53) < z) (h2 : z < 2 ^ 53) (hb : base ≤ flP z) : signed (z < 0) (flM z) (flP z - base).toNat = z * 2 ^ (-base).toNat := by
  unfold flM flP at *
  by_cases hz : z = 0
  · subst hz; simp [signed]
  · rw [if_neg hz] at hb
    rw [if_neg hz, if_neg hz, signed_fl _ _ _ (by omega) (natAbs_lt h1 h2) hb]
    congr 1
    by_cases hn : z < 0
    · simp only [hn, decide_true, if_true]; omega
    · simp only [hn, decide_false, Bool.false_eq_true, if_false]; omega

theorem near_worth (z : Int) (k : Nat) (hk : k ≤ 1074) (h1 : -(2 ^ 53) < z) (h2 : z < 2 ^ 53) :
    double.nearest (decide (z * 2 ^ k < 0)) (z * 2 ^ k).natAbs (-(k : Int)) = fl z := by
  have hp : (0 : Int) < 2 ^ k := Int.pow_pos (by omega)
  have hs : (z * 2 ^ k < 0) ↔ z < 0 := by
    constructor
    · intro h
      rcases Int.lt_or_le z 0 with h' | h'
      · exact h'
      · have := Int.mul_nonneg h' (Int.le_of_lt hp); omega
    · intro h; exact Int.mul_neg_of_neg_of_pos h hp
  have ha : (z * 2 ^ k).natAbs = z.natAbs * 2 ^ k := by rw [Int.natAbs_mul, Int.natAbs_pow]; rfl
  rw [ha, fl_eq]
  simp only [hs]
  by_cases h0 : z.natAbs = 0
  · rw [h0, Nat.zero_mul, near_zero, near_zero]
  · have e := near_pow (z < 0) z.natAbs 0 h0 (natAbs_lt h1 h2) (by omega)
    rw [Nat.pow_zero, Nat.mul_one, show (-((0 : Nat) : Int)) = 0 from rfl] at e
    rw [e, near_pow _ _ _ h0 (natAbs_lt h1 h2) hk]

theorem fl_order (a b : Int) (ha1 : -(2 ^ 53) < a) (ha2 : a < 2 ^ 53) (hb1 : -(2 ^ 53) < b) (hb2 : b < 2 ^ 53) : double.order (fl a) (fl b) = some (compare a b) := by
  unfold Format.order
  rw [read_fl a ha1 ha2, read_fl b hb1 hb2, flDat_eq, flDat_eq]
  simp only [Datum.order]
  rw [worth a _ ha1 ha2 (by omega), worth b _ hb1 hb2 (by omega)]
  generalize (-(min (flP a) (flP b))).toNat = k
  have hp : (0 : Int) < 2 ^ k := Int.pow_pos (by omega)
  congr 1
  rcases Int.lt_trichotomy a b with h | h | h
  · have h' : a * 2 ^ k < b * 2 ^ k := Int.mul_lt_mul_of_pos_right h hp
    rw [Int.compare_eq_lt.2 h, Int.compare_eq_lt.2 h']
  · subst h; rw [Int.compare_eq_eq.2 rfl, Int.compare_eq_eq.2 rfl]
  · have h' : b * 2 ^ k < a * 2 ^ k := Int.mul_lt_mul_of_pos_right h hp
    rw [Int.compare_eq_gt.2 h, Int.compare_eq_gt.2 h']

theorem sum_units (a b : Int) (k : Nat) : a * 2 ^ k + b * 2 ^ k = (a + b) * 2 ^ k := (Int.add_mul _ _ _).symm

theorem sum_fl (s t : Bool) (m n : Nat) (i j a b : Int) (hi : -1074 ≤ i ∧ i ≤ 0) (hj : -1074 ≤ j ∧ j ≤ 0)
    (ha : signed s m (i - min i j).toNat = a * 2 ^ (-(min i j)).toNat) (hb : signed t n (j - min i j).toNat = b * 2 ^ (-(min i j)).toNat)
    (hz : a + b = 0 → (s && t) = false) (h1 : -(2 ^ 53) < a + b) (h2 : a + b < 2 ^ 53) :
    ((Datum.number s m i).sum (.number t n j)).map double.write = some (fl (a + b)) := by
  simp only [Datum.sum, Option.map_some, Format.write]
  rw [ha, hb]
  generalize hk : (-(min i j)).toNat = k
  have hkk : min i j = -(k : Int) := by omega
  have hk2 : k ≤ 1074 := by omega
  rw [hkk, sum_units]
  have hp : (0 : Int) < 2 ^ k := Int.pow_pos (by omega)
  by_cases h0 : a + b = 0
  · rw [h0, Int.zero_mul, if_pos rfl, hz h0]
    show some (double.nearest false 0 _) = _
    rw [near_zero]; rfl
  · have hne : (a + b) * 2 ^ k ≠ 0 := Int.mul_ne_zero h0 (by omega)
    rw [if_neg hne, near_worth _ _ hk2 h1 h2]

theorem fl_add (a b : Int) (ha1 : -(2 ^ 53) < a) (ha2 : a < 2 ^ 53) (hb1 : -(2 ^ 53) < b) (hb2 : b < 2 ^ 53) (h1 : -(2 ^ 53) < a + b) (h2 : a + b < 2 ^ 53) : double.add (fl a) (fl b) = some (fl (a + b)) := by
  unfold Format.add
  rw [read_fl a ha1 ha2, read_fl b hb1 hb2, flDat_eq, flDat_eq]
  refine sum_fl _ _ _ _ _ _ a b (flP_bd a ha1 ha2) (flP_bd b hb1 hb2) (worth a _ ha1 ha2 (by omega)) (worth b _ hb1 hb2 (by omega)) (fun h => ?_) h1 h2
  rw [Bool.and_eq_false_iff, decide_eq_false_iff_not, decide_eq_false_iff_not]
  omega

theorem signed_not (s : Bool) (m u : Nat) : signed (!s) m u = -signed s m u := by
  unfold signed; cases s <;> simp

theorem fl_sub (a b : Int) (ha1 : -(2 ^ 53) < a) (ha2 : a < 2 ^ 53) (hb1 : -(2 ^ 53) < b) (hb2 : b < 2 ^ 53) (h1 : -(2 ^ 53) < a - b) (h2 : a - b < 2 ^ 53) : double.sub (fl a) (fl b) = some (fl (a - b)) := by
  unfold Format.sub
  rw [read_fl a ha1 ha2, read_fl b hb1 hb2, flDat_eq, flDat_eq]
  simp only [Datum.opposite]
  rw [Int.sub_eq_add_neg]
  refine sum_fl _ _ _ _ _ _ a (-b) (flP_bd a ha1 ha2) (flP_bd b hb1 hb2) (worth a _ ha1 ha2 (by omega)) ?_ (fun h => ?_) (by omega) (by omega)
  · rw [signed_not, worth b _ hb1 hb2 (by omega), Int.neg_mul]
  · have e : a = b := by omega
    subst e
    by_cases h : a < 0 <;> simp [h]

theorem fl_zero : fl 0 = 0 := by decide
end Go.Proofs.Ytghhgjpdpmekhaa
