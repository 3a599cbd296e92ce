/- The plain law of numbers as bytes; no program in sight. -/
import Derived.WalkKit
namespace Go.Proofs.Ytabcbpcfleociaa

def digs : Nat → Nat → List UInt8
  | 0, n => [UInt8.ofNat n]
  | f + 1, n => if n < 128 then [UInt8.ofNat n] else UInt8.ofNat (128 + n % 128) :: digs f (n / 128)
/-- A number's bytes. -/
def dig (n : Nat) : List UInt8 := digs n n
theorem digs_more : ∀ (f g n : Nat), n ≤ f → n ≤ g → digs f n = digs g n := by
  intro f
  induction f with
  | zero =>
    intro g n h1 _
    obtain rfl : n = 0 := by omega
    cases g <;> simp [digs]
  | succ f ih =>
    intro g n h1 h2
    cases g with
    | zero =>
      obtain rfl : n = 0 := by omega
      simp [digs]
    | succ g =>
      simp only [digs]
      split
      · rfl
      · rw [ih g (n / 128) (by omega) (by omega)]
theorem dig_small (n : Nat) (h : n < 128) : dig n = [UInt8.ofNat n] := by
  unfold dig
  cases n with
  | zero => rfl
  | succ n => simp only [digs]; rw [if_pos h]
theorem dig_great (n : Nat) (h : 128 ≤ n) : dig n = UInt8.ofNat (128 + n % 128) :: dig (n / 128) := by
  unfold dig
  obtain ⟨f, rfl⟩ : ∃ f, n = f + 1 := ⟨n - 1, by omega⟩
  rw [digs, if_neg (by omega), digs_more f ((f + 1) / 128) _ (by omega) (Nat.le_refl _)]
theorem dig_ne (n : Nat) : dig n ≠ [] := by
  by_cases h : n < 128
  · rw [dig_small n h]; simp
  · rw [dig_great n (by omega)]; simp
def clampN (n : Int) : Nat := (min (max n 0) 1099511627776).toNat
theorem clampN_le (n : Int) : clampN n ≤ 1099511627776 := by unfold clampN; omega
def numL (n : Int) : List UInt8 := dig (clampN n)

theorem dig_len (k : Nat) : ∀ n : Nat, n < 128 ^ (k + 1) → (dig n).length ≤ k + 1 := by
  induction k with
  | zero => intro n h; rw [dig_small n (by simpa using h)]; simp
  | succ k ih =>
    intro n h
    by_cases h1 : n < 128
    · rw [dig_small n h1]; simp
    · rw [dig_great n (by omega)]
      have : n / 128 < 128 ^ (k + 1) := by rw [Nat.pow_succ] at h; exact Nat.div_lt_of_lt_mul (by rw [Nat.mul_comm]; exact h)
      have := ih _ this
      simp only [List.length_cons]; omega
theorem numL_len (n : Int) : 1 ≤ (numL n).length ∧ (numL n).length ≤ 6 := by
  have h := clampN_le n
  have h2 := dig_len 5 (clampN n) (by omega)
  have h3 := dig_ne (clampN n)
  unfold numL
  constructor
  · rcases hd : dig (clampN n) with _ | ⟨a, t⟩
    · exact absurd hd h3
    · simp
  · exact h2

/-- What a reader finds at the head of some bytes: the number, how many bytes it has, and the error. -/
def nxt : List UInt8 → Nat → Nat → Nat × Nat × Int
  | [], _, _ => (0, 0, 3)
  | c :: cs, k, acc =>
    if 128 ≤ c.toNat ∧ k + 1 < 6 then nxt cs (k + 1) (acc + c.toNat % 128 * 128 ^ k)
    else if 128 ≤ c.toNat ∨ (c.toNat = 0 ∧ 1 < k + 1) then (0, 0, 5)
    else if 1099511627776 < acc + c.toNat % 128 * 128 ^ k then (0, 0, 6)
    else (acc + c.toNat % 128 * 128 ^ k, k + 1, 0)

/-- What was put is read. -/
theorem nxt_dig : ∀ (j k m acc : Nat) (rest : List UInt8), j + k = 5 → m < 128 ^ (j + 1) → (1 ≤ m ∨ k = 0) → acc + m * 128 ^ k ≤ 1099511627776 →
    nxt (dig m ++ rest) k acc = (acc + m * 128 ^ k, k + (dig m).length, 0) := by
  intro j
  induction j with
  | zero =>
    intro k m acc rest hk hm h1 hb
    rw [dig_small m (by simpa using hm)]
    have hm' : m < 128 := by simpa using hm
    have e : (UInt8.ofNat m).toNat = m := by rw [UInt8.toNat_ofNat']; omega
    simp only [List.cons_append, List.nil_append, nxt, e, List.length_singleton]
    rw [if_neg (by omega), if_neg (by omega), Nat.mod_eq_of_lt hm', if_neg (by omega)]
  | succ j ih =>
    intro k m acc rest hk hm h1 hb
    by_cases hs : m < 128
    · rw [dig_small m hs]
      have e : (UInt8.ofNat m).toNat = m := by rw [UInt8.toNat_ofNat']; omega
      simp only [List.cons_append, List.nil_append, nxt, e, List.length_singleton]
      rw [if_neg (by omega), if_neg (by omega), Nat.mod_eq_of_lt hs, if_neg (by omega)]
    · rw [dig_great m (by omega)]
      have e : (UInt8.ofNat (128 + m % 128)).toNat = 128 + m % 128 := by rw [UInt8.toNat_ofNat']; omega
      simp only [List.cons_append, nxt, e, List.length_cons]
      rw [if_pos (by omega), show (128 + m % 128) % 128 = m % 128 by omega]
      have hd : m / 128 < 128 ^ (j + 1) := by rw [Nat.pow_succ] at hm; exact Nat.div_lt_of_lt_mul (by rw [Nat.mul_comm]; exact hm)
      have hsum : acc + m % 128 * 128 ^ k + m / 128 * 128 ^ (k + 1) = acc + m * 128 ^ k := by
        rw [Nat.pow_succ, Nat.add_assoc, ← Nat.mul_assoc, Nat.mul_right_comm, ← Nat.add_mul]
        congr 2
        omega
      rw [ih (k + 1) (m / 128) _ rest (by omega) hd (by omega) (by omega), hsum]
      congr 2
      omega
theorem nxt_put (m : Nat) (rest : List UInt8) (h : m ≤ 1099511627776) : nxt (dig m ++ rest) 0 0 = (m, (dig m).length, 0) := by
  have := nxt_dig 5 0 m 0 rest rfl (by omega) (.inr rfl) (by omega)
  simpa using this
/-- A beginning of what was put is too short. -/
theorem nxt_cut : ∀ (j k m acc t : Nat), j + k = 5 → m < 128 ^ (j + 1) → t < (dig m).length → nxt ((dig m).take t) k acc = (0, 0, 3) := by
  intro j
  induction j with
  | zero =>
    intro k m acc t hk hm ht
    rw [dig_small m (by simpa using hm)] at ht ⊢
    obtain rfl : t = 0 := by simpa using ht
    rfl
  | succ j ih =>
    intro k m acc t hk hm ht
    by_cases hs : m < 128
    · rw [dig_small m hs] at ht ⊢
      obtain rfl : t = 0 := by simpa using ht
      rfl
    · rw [dig_great m (by omega)] at ht ⊢
      cases t with
      | zero => rfl
      | succ t =>
        have e : (UInt8.ofNat (128 + m % 128)).toNat = 128 + m % 128 := by rw [UInt8.toNat_ofNat']; omega
        have hd : m / 128 < 128 ^ (j + 1) := by rw [Nat.pow_succ] at hm; exact Nat.div_lt_of_lt_mul (by rw [Nat.mul_comm]; exact hm)
        simp only [List.length_cons] at ht
        simp only [List.take_succ_cons, nxt, e]
        rw [if_pos (by omega)]
        exact ih (k + 1) (m / 128) _ t (by omega) hd (by omega)
theorem nxt_short (m t : Nat) (h : m ≤ 1099511627776) (ht : t < (dig m).length) : nxt ((dig m).take t) 0 0 = (0, 0, 3) := nxt_cut 5 0 m 0 t rfl (by omega) ht

/-- What is read, put again, is what was read. -/
theorem nxt_form : ∀ (L : List UInt8) (k acc n l : Nat), nxt L k acc = (n, l, 0) → k ≤ 5 →
    ∃ m, n = acc + m * 128 ^ k ∧ l = k + (dig m).length ∧ L.take (dig m).length = dig m ∧ n ≤ 1099511627776 ∧ (1 ≤ m ∨ k = 0) := by
  intro L
  induction L with
  | nil => intro k acc n l h; simp [nxt] at h
  | cons c cs ih =>
    intro k acc n l h hk
    simp only [nxt] at h
    by_cases h1 : 128 ≤ c.toNat ∧ k + 1 < 6
    · rw [if_pos h1] at h
      obtain ⟨m, e1, e2, e3, e4, e5⟩ := ih (k + 1) _ n l h (by omega)
      have hc := c.toNat_lt
      refine ⟨c.toNat % 128 + 128 * m, ?_, ?_, ?_, e4, by omega⟩
      · rw [e1, Nat.pow_succ, Nat.add_assoc, Nat.add_mul]
        congr 2
        rw [Nat.mul_comm (128 ^ k) 128, ← Nat.mul_assoc, Nat.mul_comm m 128]
      · rw [dig_great _ (by omega), List.length_cons, show (c.toNat % 128 + 128 * m) / 128 = m by omega, e2]; omega
      · rw [dig_great _ (by omega), List.length_cons, show (c.toNat % 128 + 128 * m) / 128 = m by omega, List.take_succ_cons, e3]
        congr 1
        rw [show 128 + (c.toNat % 128 + 128 * m) % 128 = c.toNat by omega]
        simp
    · rw [if_neg h1] at h
      by_cases h2 : 128 ≤ c.toNat ∨ (c.toNat = 0 ∧ 1 < k + 1)
      · rw [if_pos h2] at h; simp at h
      · rw [if_neg h2] at h
        by_cases h3 : 1099511627776 < acc + c.toNat % 128 * 128 ^ k
        · rw [if_pos h3] at h; simp at h
        · rw [if_neg h3] at h
          simp only [Prod.mk.injEq, and_true] at h
          have hlt : c.toNat < 128 := by omega
          refine ⟨c.toNat, ?_, ?_, ?_, by omega, by omega⟩
          · rw [← h.1, Nat.mod_eq_of_lt hlt]
          · rw [dig_small _ hlt, ← h.2]; rfl
          · rw [dig_small _ hlt]; simp
theorem nxt_again (L : List UInt8) (n l : Nat) (h : nxt L 0 0 = (n, l, 0)) : L.take l = dig n ∧ l = (dig n).length ∧ n ≤ 1099511627776 := by
  obtain ⟨m, e1, e2, e3, e4, _⟩ := nxt_form L 0 0 n l h (by omega)
  have : n = m := by simpa using e1
  subst this
  rw [show l = (dig n).length by omega]
  exact ⟨e3, rfl, e4⟩
end Go.Proofs.Ytabcbpcfleociaa
