/- The document's numbers: digits to the base 65536, roots, primes, as lists; the tables, by the kernel. No program in sight. -/
import Derived.Test.YtclecmpmohoamaaDoorShaP
namespace Go.Proofs.YtclecmpmohoamaaDoor
open Go
set_option linter.unusedSimpArgs false
set_option linter.unusedVariables false

def mulT (x a b c : Nat) : Nat := ((x + a * b % 18446744073709551616) % 18446744073709551616 + c) % 18446744073709551616
/-- One row of a product: a times the digits b, on the digits o, c being carried. -/
def mrow (a : Nat) : List Nat → Nat → List Nat → List Nat
  | [], _, [] => []
  | [], c, _ :: o => c :: o
  | _ :: _, _, [] => []
  | b :: bs, c, x :: o => mulT x a b c % 65536 :: mrow a bs (mulT x a b c / 65536) o
def mfrom : List Nat → List Nat → List Nat → List Nat
  | [], _, o => o
  | a :: as, b, o => match mrow a b 0 o with
    | [] => []
    | x :: o' => x :: mfrom as b o'
def mulD (a b : List Nat) : List Nat := mfrom a b (List.replicate (a.length + b.length) 0)
def mostD (d : List Nat) (p n : Nat) : Bool :=
  (d.drop (n + 1)).any (decide <| 0 < ·) || (decide (n < d.length) && decide (p ≤ d.getD n 0) && (decide (p < d.getD n 0) || (d.take n).any (decide <| 0 < ·)))
def pow23 (power : Nat) (d : List Nat) : List Nat := if power = 3 then mulD (mulD d d) d else mulD d d
def rstep (p power i step : Nat) (d : List Nat) : List Nat :=
  if mostD (pow23 power (d.set i (d.getD i 0 + step))) p (4 * power) then d else d.set i (d.getD i 0 + step)
def rdig (p power i : Nat) : Nat → List Nat → List Nat
  | 0, d => d
  | n + 1, d => rdig p power i n (rstep p power i (2 ^ n) d)
def rall (p power : Nat) : Nat → List Nat → List Nat
  | 0, d => d
  | i + 1, d => rall p power i (rdig p power i 16 d)
def valD (d : List Nat) : Nat := d.getD 3 0 * 281474976710656 + d.getD 2 0 * 4294967296 + d.getD 1 0 * 65536 + d.getD 0 0
def rootD (p power : Nat) : Nat := valD (rall p power 5 [0, 0, 0, 0, 0])
/-- The primes up to n + 1. -/
def sieve : Nat → List Nat
  | 0 => []
  | n + 1 => if (sieve n).all (fun q => decide ((n + 2) % q ≠ 0)) then sieve n ++ [n + 2] else sieve n
def primesD (n : Nat) : List Nat := (sieve 408).take n
/-- A root's first bits: 64 of them, or 32. -/
def numD (bits power p : Nat) : Nat := if bits = 32 then rootD p power / 4294967296 else rootD p power
def numsD (n power bits : Nat) : List Nat := (primesD n).map (numD bits power)

theorem mrow_step (a : Nat) (b o : List Nat) (k j c : Nat) (hk : k < b.length) (hj : j < o.length) :
    (o.set j (mulT (o.getD j 0) a (b.getD k 0) c % 65536)).take (j + 1) ++ mrow a (b.drop (k + 1)) (mulT (o.getD j 0) a (b.getD k 0) c / 65536) ((o.set j (mulT (o.getD j 0) a (b.getD k 0) c % 65536)).drop (j + 1)) = o.take j ++ mrow a (b.drop k) c (o.drop j) := by
  rw [List.drop_eq_getElem_cons hk, List.drop_eq_getElem_cons hj, mrow]
  have e1 : o.getD j 0 = o[j] := by simp [hj]
  have e2 : b.getD k 0 = b[k] := by simp [hk]
  rw [e1, e2, List.drop_set_of_lt (by omega), List.take_set, List.take_succ_eq_append_getElem hj, List.set_append_right _ _ (by simp; omega)]
  simp [Nat.min_eq_left (Nat.le_of_lt hj)]
theorem mrow_end (a : Nat) (o : List Nat) (j c : Nat) (hj : j < o.length) : o.take j ++ mrow a [] c (o.drop j) = o.set j c := by
  rw [List.drop_eq_getElem_cons hj, mrow, List.set_eq_take_append_cons_drop, if_pos hj]
theorem mrow_length (a : Nat) : ∀ (b : List Nat) (c : Nat) (o : List Nat), b.length ≤ o.length → (mrow a b c o).length = o.length
  | [], _, [], _ => rfl
  | [], _, _ :: _, _ => rfl
  | _ :: _, _, [], h => by simp at h
  | _ :: bs, _, _ :: o, h => by simp only [mrow, List.length_cons]; rw [mrow_length a bs _ o (by simpa using h)]
theorem mfrom_step (a b o T : List Nat) (i : Nat) (hi : i < a.length) (hl : i + b.length < o.length) (hT : T = o.take i ++ mrow (a.getD i 0) b 0 (o.drop i)) :
    T.take (i + 1) ++ mfrom (a.drop (i + 1)) b (T.drop (i + 1)) = o.take i ++ mfrom (a.drop i) b (o.drop i) := by
  have hml := mrow_length (a.getD i 0) b 0 (o.drop i) (by simp; omega)
  rw [List.drop_eq_getElem_cons hi, mfrom]
  have e1 : a.getD i 0 = a[i] := by simp [hi]
  rw [e1] at hT hml
  cases e : mrow a[i] b 0 (o.drop i) with
  | nil => rw [e] at hml; simp at hml; omega
  | cons x o' =>
    rw [e] at hT
    have hil : (o.take i).length = i := by simp; omega
    subst hT
    rw [List.take_append, List.drop_append, hil, List.take_of_length_le (l := o.take i) (by omega), List.drop_of_length_le (l := o.take i) (by omega)]
    simp [show i + 1 - i = 1 by omega]
theorem mfrom_length : ∀ (a b o : List Nat), a.length + b.length ≤ o.length → (mfrom a b o).length = o.length
  | [], _, _, _ => rfl
  | a :: as, b, o, h => by
    have hl := mrow_length a b 0 o (by omega)
    unfold mfrom
    cases e : mrow a b 0 o with
    | nil => rw [e] at hl; simp at hl h; omega
    | cons x o' =>
      rw [e] at hl
      simp only [List.length_cons] at hl h ⊢
      rw [mfrom_length as b o' (by omega)]
      exact hl
theorem mulD_length (a b : List Nat) : (mulD a b).length = a.length + b.length := by
  rw [mulD, mfrom_length _ _ _ (by simp)]; simp
theorem pow23_length (power : Nat) (d : List Nat) : (pow23 power d).length = if power = 3 then 3 * d.length else 2 * d.length := by
  unfold pow23; split <;> simp only [mulD_length] <;> omega
theorem rstep_length (p power i step : Nat) (d : List Nat) : (rstep p power i step d).length = d.length := by
  unfold rstep; split <;> simp
theorem rdig_length (p power i : Nat) : ∀ (n : Nat) (d : List Nat), (rdig p power i n d).length = d.length
  | 0, _ => rfl
  | n + 1, d => by rw [rdig, rdig_length, rstep_length]
theorem rall_length (p power : Nat) : ∀ (n : Nat) (d : List Nat), (rall p power n d).length = d.length
  | 0, _ => rfl
  | n + 1, d => by rw [rall, rall_length, rdig_length]
theorem sieve_prefix (n : Nat) : ∀ k, sieve n <+: sieve (n + k)
  | 0 => List.prefix_refl _
  | k + 1 => by
    refine (sieve_prefix n k).trans ?_
    rw [← Nat.add_assoc, sieve]
    split
    · exact List.prefix_append _ _
    · exact List.prefix_refl _
theorem sieve_bd (n : Nat) : ∀ q ∈ sieve n, 2 ≤ q ∧ q ≤ n + 1 := by
  induction n with
  | zero => intro q h; cases h
  | succ n ih =>
    intro q h
    rw [sieve] at h
    split at h
    · rcases List.mem_append.1 h with h | h
      · have := ih q h; omega
      · simp at h; omega
    · have := ih q h; omega
set_option maxRecDepth 100000 in
theorem sieve_full : (sieve 408).length = 80 := by decide +kernel
theorem sieve_take {n k : Nat} (hk : k ≤ 408) (h : (sieve k).length = n) : sieve k = primesD n := by
  have hp := sieve_prefix k (408 - k)
  rw [show k + (408 - k) = 408 by omega] at hp
  rw [primesD, ← h]
  exact List.prefix_iff_eq_take.1 hp
end Go.Proofs.YtclecmpmohoamaaDoor
