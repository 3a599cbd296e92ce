/- The plain law of padding: on lists of bytes, no program in sight. -/
import Derived.WalkKit
namespace Go.Proofs.Ytghhgjpdpmekhaa

def bSize (n : Int) : Int := if n < 0 then 0 else if n < 64 then 64 else if n < 128 then 128 else if n < 256 then 256 else if n < 512 then 512 else if n < 1024 then 1024 else if n < 2048 then 2048 else if n < 4096 then 4096 else 0
def bErr (n : Int) : Int := if n < 0 then 1 else if n < 4096 then 0 else 2

def padL (l : List UInt8) : List UInt8 := if l.length < 4096 then l ++ (128 :: List.replicate ((bSize l.length).toNat - l.length - 1) 0) else []
def padE (l : List UInt8) : Int := bErr l.length

theorem bSize_gt (n : Nat) (h : n < 4096) : (n : Int) < bSize n ∧ bSize n ≤ 4096 := by
  unfold bSize; (repeat' split) <;> omega
theorem bSize_out (n : Nat) (h : 4096 ≤ n) : bSize n = 0 := by
  unfold bSize; (repeat' split) <;> omega
theorem bErr_ok (n : Nat) (h : n < 4096) : bErr n = 0 := by
  unfold bErr; (repeat' split) <;> omega
theorem bErr_out (n : Nat) (h : 4096 ≤ n) : bErr n = 2 := by
  unfold bErr; (repeat' split) <;> omega
theorem padL_len (l : List UInt8) : (padL l).length = (bSize l.length).toNat := by
  unfold padL
  split
  · rename_i h
    have := bSize_gt _ h
    simp only [List.length_append, List.length_cons, List.length_replicate]; omega
  · rename_i h
    rw [bSize_out _ (by omega)]; rfl

/-- Which beginning of l is padded to l. -/
def unpN (l : List UInt8) : Option Nat := (List.range l.length).find? fun n => decide (n < 4096) && decide (padL (l.take n) = l)
def unpL (l : List UInt8) : List UInt8 := match unpN l with | some n => l.take n | none => []
def unpE (l : List UInt8) : Int := match unpN l with | some _ => 0 | none => 11

theorem padL_at (m l : List UInt8) (hm : m.length < 4096) (h : padL m = l) : l.take m.length = m ∧ l[m.length]? = some 128 ∧ (∀ j, m.length < j → j < l.length → l[j]? = some 0) ∧ m.length < l.length := by
  subst h
  unfold padL
  rw [if_pos hm]
  refine ⟨List.take_left' rfl, by simp, fun j h1 h2 => ?_, by simp⟩
  rw [List.getElem?_append_right (by omega)]
  obtain ⟨k, hk⟩ : ∃ k, j - m.length = k + 1 := ⟨j - m.length - 1, by omega⟩
  rw [hk, List.getElem?_cons_succ]
  simp only [List.length_append, List.length_cons, List.length_replicate] at h2
  rw [List.getElem?_replicate, if_pos (by omega)]

theorem pad_uniq (l : List UInt8) (a b : Nat) (ha : a < l.length) (hb : b < l.length) (ha4 : a < 4096) (hb4 : b < 4096) (h1 : padL (l.take a) = l) (h2 : padL (l.take b) = l) : a = b := by
  have la : (l.take a).length = a := by simp; omega
  have lb : (l.take b).length = b := by simp; omega
  obtain ⟨_, p1, p2, _⟩ := padL_at _ _ (by omega) h1
  obtain ⟨_, q1, q2, _⟩ := padL_at _ _ (by omega) h2
  rw [la] at p1 p2
  rw [lb] at q1 q2
  rcases Nat.lt_trichotomy a b with h | h | h
  · rw [p2 b h hb] at q1; simp at q1
  · exact h
  · rw [q2 a h ha] at p1; simp at p1

theorem unpN_some (l : List UInt8) (n : Nat) (hn : n < l.length) (h4 : n < 4096) (h : padL (l.take n) = l) : unpN l = some n := by
  unfold unpN
  rw [List.find?_range_eq_some]
  refine ⟨by simp [h4, h], by simpa using hn, fun j hj => ?_⟩
  simp only [Bool.not_eq_eq_eq_not, Bool.not_true, Bool.and_eq_false_iff, decide_eq_false_iff_not]
  rcases Nat.lt_or_ge j 4096 with h' | h'
  · right
    intro hp
    have := pad_uniq l j n (by omega) hn h' h4 hp h
    omega
  · left; omega
theorem unpN_none (l : List UInt8) (h : ∀ n, n < l.length → n < 4096 → padL (l.take n) ≠ l) : unpN l = none := by
  unfold unpN
  rw [List.find?_eq_none]
  intro x hx
  have := List.mem_range.1 hx
  rcases Nat.lt_or_ge x 4096 with h' | h'
  · simp [h x this h']
  · simp; intro; omega
theorem unpN_is (l : List UInt8) (n : Nat) (h : unpN l = some n) : n < l.length ∧ n < 4096 ∧ padL (l.take n) = l := by
  unfold unpN at h
  have h1 := List.find?_some h
  have h2 := List.mem_of_find?_eq_some h
  simp only [Bool.and_eq_true, decide_eq_true_eq] at h1
  exact ⟨List.mem_range.1 h2, h1.1, h1.2⟩
theorem unp_pad (l : List UInt8) (h : l.length < 4096) : unpL (padL l) = l ∧ unpE (padL l) = 0 := by
  obtain ⟨h1, _, _, h4⟩ := padL_at l _ h rfl
  have := unpN_some (padL l) l.length h4 h (by rw [h1])
  unfold unpL unpE
  rw [this]
  exact ⟨h1, rfl⟩
theorem pad_unp (l : List UInt8) (h : unpE l = 0) : padL (unpL l) = l ∧ (unpL l).length < 4096 := by
  unfold unpL unpE at *
  cases hn : unpN l with
  | none => rw [hn] at h; simp at h
  | some n =>
    obtain ⟨a, b, c⟩ := unpN_is l n hn
    exact ⟨c, by simp; omega⟩
theorem unp_no (l : List UInt8) (h : unpE l ≠ 0) : unpL l = [] ∧ unpE l = 11 := by
  unfold unpL unpE at *
  cases hn : unpN l with
  | none => simp
  | some n => rw [hn] at h; simp at h
/-- From behind: what stands behind place n are noughts, at n the mark, the bucket is the least. -/
theorem pad_from (l : List UInt8) (n : Nat) (hn : n < l.length) (h4 : n < 4096) (h1 : l[n]? = some 128) (h2 : ∀ j, n < j → j < l.length → l[j]? = some 0) (hs : bSize n = l.length) : padL (l.take n) = l := by
  have hl : (l.take n).length = n := by simp; omega
  unfold padL
  rw [hl, if_pos h4]
  apply List.ext_getElem?
  intro i
  rcases Nat.lt_trichotomy i n with h | h | h
  · rw [List.getElem?_append_left (by omega), List.getElem?_take_of_lt h]
  · subst h
    rw [List.getElem?_append_right (by omega), hl, h1]; simp
  · rw [List.getElem?_append_right (by omega), hl]
    obtain ⟨k, hk⟩ : ∃ k, i - n = k + 1 := ⟨i - n - 1, by omega⟩
    rw [hk, List.getElem?_cons_succ, List.getElem?_replicate]
    split
    · rw [h2 i h (by omega)]
    · rw [List.getElem?_eq_none (by omega)]
theorem unpN_not (l : List UInt8) (n : Nat) (hn : n < l.length) (h2 : ∀ j, n < j → j < l.length → l[j]? = some 0) (hb : ∀ x, l[n]? = some x → x ≠ 0) (h : ¬ (l[n]? = some 128 ∧ n < 4096 ∧ bSize n = l.length)) : unpN l = none := by
  refine unpN_none l fun k hk hk4 hp => ?_
  have hl : (l.take k).length = k := by simp; omega
  obtain ⟨_, p1, p2, _⟩ := padL_at _ _ (by omega) hp
  rw [hl] at p1 p2
  rcases Nat.lt_trichotomy k n with h' | h' | h'
  · exact hb 0 (p2 n h' hn) rfl
  · subst h'
    refine h ⟨p1, hk4, ?_⟩
    have := padL_len (l.take k)
    rw [hp, hl] at this
    have := bSize_gt k hk4
    omega
  · rw [h2 k h' hk] at p1; simp at p1
theorem unpN_zeros (l : List UInt8) (h : ∀ j, j < l.length → l[j]? = some 0) : unpN l = none := by
  refine unpN_none l fun k hk hk4 hp => ?_
  have hl : (l.take k).length = k := by simp; omega
  obtain ⟨_, p1, _, _⟩ := padL_at _ _ (by omega) hp
  rw [hl, h k hk] at p1; simp at p1
end Go.Proofs.Ytghhgjpdpmekhaa
