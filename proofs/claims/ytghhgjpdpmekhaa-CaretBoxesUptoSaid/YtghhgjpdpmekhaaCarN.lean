/- The plain law of the caret at a place. -/
import Derived.Test.YtghhgjpdpmekhaaCarP
namespace Go.Proofs.Ytghhgjpdpmekhaa

/-- The line that counts, after k carets; the best caret, after k carets. -/
def lineTo (L : List Pen) (y : Int) : Nat → Int
  | 0 => 0
  | k + 1 => match L[k]? with
    | some p => if p.2 ≤ y then p.2 else lineTo L y k
    | none => lineTo L y k
def bestTo (L : List Pen) (ln x : Int) : Nat → Int
  | 0 => -1
  | k + 1 => match L[k]? with
    | some p => if p.2 = ln ∧ (bestTo L ln x k < 0 ∨ p.1 ≤ x) then k else bestTo L ln x k
    | none => bestTo L ln x k
def nearI (L : List Pen) (x y : Int) : Int := bestTo L (lineTo L y L.length) x L.length

theorem lineTo_step {L : List Pen} {y : Int} {k : Nat} {p : Pen} (h : L[k]? = some p) : lineTo L y (k + 1) = if p.2 ≤ y then p.2 else lineTo L y k := by
  simp only [lineTo, h]
theorem bestTo_step {L : List Pen} {ln x : Int} {k : Nat} {p : Pen} (h : L[k]? = some p) : bestTo L ln x (k + 1) = if p.2 = ln ∧ (bestTo L ln x k < 0 ∨ p.1 ≤ x) then (k : Int) else bestTo L ln x k := by
  simp only [bestTo, h]
theorem bestTo_bd (L : List Pen) (ln x : Int) (k : Nat) : -1 ≤ bestTo L ln x k ∧ bestTo L ln x k < k ∨ bestTo L ln x k = -1 := by
  induction k with
  | zero => right; rfl
  | succ k ih =>
    simp only [bestTo]
    split
    · split <;> omega
    · omega
theorem lineTo_bd (L : List Pen) (y b : Int) (hb : 0 ≤ b) (h : ∀ q ∈ L, 0 ≤ q.2 ∧ q.2 ≤ b) (k : Nat) : 0 ≤ lineTo L y k ∧ lineTo L y k ≤ b := by
  induction k with
  | zero => simp only [lineTo]; omega
  | succ k ih =>
    simp only [lineTo]
    split
    · rename_i p hp
      have := h p (List.mem_of_getElem? hp)
      split <;> omega
    · exact ih

/-- Carets that never go back: later ones stand lower, or on the same line not more to the left. -/
def Le (p q : Pen) : Prop := p.2 < q.2 ∨ (p.2 = q.2 ∧ p.1 ≤ q.1)
def Mono (L : List Pen) : Prop := ∀ (i j : Nat) (p q : Pen), i ≤ j → L[i]? = some p → L[j]? = some q → Le p q
theorem mono_of_nx {L : List Pen} (h : ∀ (i : Nat) (a b : Pen), L[i]? = some a → L[i + 1]? = some b → Nx a b) : Mono L := by
  intro i j
  induction j with
  | zero =>
    intro p q hij hp hq
    obtain rfl : i = 0 := by omega
    rw [hp] at hq; injection hq with hq; subst hq
    exact .inr ⟨rfl, Int.le_refl _⟩
  | succ j ih =>
    intro p q hij hp hq
    by_cases he : i = j + 1
    · subst he
      rw [hp] at hq; injection hq with hq; subst hq
      exact .inr ⟨rfl, Int.le_refl _⟩
    · have hlt : j + 1 < L.length := by
        rcases Nat.lt_or_ge (j + 1) L.length with h' | h'
        · exact h'
        · rw [List.getElem?_eq_none h'] at hq; cases hq
      have hm : L[j]? = some (L[j]'(by omega)) := List.getElem?_eq_getElem _
      have h1 := ih p _ (by omega) hp hm
      have h2 := h j _ q hm hq
      unfold Le Nx at *
      omega

theorem line_at {L : List Pen} (hm : Mono L) (_h0 : ∀ q ∈ L, 0 ≤ q.2) {i : Nat} {p : Pen} (hi : L[i]? = some p) : ∀ k, i < k → k ≤ L.length → lineTo L p.2 k = p.2 := by
  intro k
  induction k with
  | zero => intro h; omega
  | succ k ih =>
    intro hik hkl
    have hk : L[k]? = some (L[k]'(by omega)) := List.getElem?_eq_getElem _
    rw [lineTo_step hk]
    by_cases he : i = k
    · subst he
      rw [hi] at hk; injection hk with hk; rw [← hk]; simp
    · have hle := hm i k _ _ (by omega) hi hk
      split
      · rename_i h; unfold Le at hle; omega
      · exact ih (by omega) (by omega)
/-- The best caret for a caret's own place is the last one that stands there. -/
theorem best_at {L : List Pen} (hm : Mono L) {i : Nat} {p : Pen} (hi : L[i]? = some p) : ∀ k, i < k → k ≤ L.length →
    ∃ j : Nat, bestTo L p.2 p.1 k = j ∧ i ≤ j ∧ j < k ∧ L[j]? = some p ∧ ∀ m, j < m → m < k → L[m]? ≠ some p := by
  have neg : ∀ k, k ≤ L.length → bestTo L p.2 p.1 k < 0 ∨ ∃ j : Nat, bestTo L p.2 p.1 k = j ∧ j < k := by
    intro k _
    have := bestTo_bd L p.2 p.1 k
    rcases this with h | h
    · rcases Int.lt_or_le (bestTo L p.2 p.1 k) 0 with h' | h'
      · exact .inl h'
      · exact .inr ⟨(bestTo L p.2 p.1 k).toNat, by omega, by omega⟩
    · left; omega
  intro k
  induction k with
  | zero => intro h; omega
  | succ k ih =>
    intro hik hkl
    have hk : L[k]? = some (L[k]'(by omega)) := List.getElem?_eq_getElem _
    rw [bestTo_step hk]
    by_cases he : i = k
    · subst he
      rw [hi] at hk; injection hk with hk
      rw [← hk, if_pos ⟨rfl, .inr (Int.le_refl _)⟩]
      exact ⟨i, rfl, Nat.le_refl _, by omega, hi, fun m h1 h2 => by omega⟩
    · obtain ⟨j, hj, hij, hjk, hpj, hlast⟩ := ih (by omega) (by omega)
      have hle := hm i k _ _ (by omega) hi hk
      by_cases hc : (L[k]'(by omega)).2 = p.2 ∧ (bestTo L p.2 p.1 k < 0 ∨ (L[k]'(by omega)).1 ≤ p.1)
      · rw [if_pos hc]
        have he : (L[k]'(by omega)) = p := by
          obtain ⟨h1, h2⟩ := hc
          unfold Le at hle
          rw [hj] at h2
          exact Prod.ext (by omega) h1
        exact ⟨k, rfl, by omega, by omega, by rw [hk, he], fun m h1 h2 => by omega⟩
      · rw [if_neg hc]
        refine ⟨j, hj, hij, by omega, hpj, fun m h1 h2 => ?_⟩
        by_cases hmk : m = k
        · subst hmk
          intro hp
          rw [hk] at hp; injection hp with hp
          exact hc ⟨by rw [hp], .inr (by rw [hp]; exact Int.le_refl _)⟩
        · exact hlast m h1 (by omega)
theorem near_at {L : List Pen} (hm : Mono L) (h0 : ∀ q ∈ L, 0 ≤ q.2) {i : Nat} {p : Pen} (hi : L[i]? = some p) :
    ∃ j : Nat, nearI L p.1 p.2 = j ∧ i ≤ j ∧ j < L.length ∧ L[j]? = some p ∧ ∀ m, j < m → m < L.length → L[m]? ≠ some p := by
  have hlt : i < L.length := by
    rcases Nat.lt_or_ge i L.length with h' | h'
    · exact h'
    · rw [List.getElem?_eq_none h'] at hi; cases hi
  unfold nearI
  rw [line_at hm h0 hi L.length hlt (Nat.le_refl _)]
  exact best_at hm hi L.length hlt (Nat.le_refl _)

theorem carets_ok (s : ByteArray) (cols : Int) (h2 : 2 ≤ cols) : ∀ q ∈ carets s cols, Ok cols q := placesL_ok cols h2 _ _ ⟨by simp, by simp; omega, by simp⟩
theorem carets_nx (s : ByteArray) (cols : Int) (h2 : 2 ≤ cols) : ∀ (i : Nat) (a b : Pen), (carets s cols)[i]? = some a → (carets s cols)[i + 1]? = some b → Nx a b := placesL_nx cols h2 _ _ ⟨by simp, by simp; omega, by simp⟩
theorem carets_first (s : ByteArray) (cols : Int) (h2 : 2 ≤ cols) : (carets s cols)[0]? = some (0, 0) := by
  obtain ⟨q, t, hq, h⟩ := placesL_head cols h2 (runes s 0) (0, 0) ⟨by simp, by simp; omega, by simp⟩
  unfold carets
  rw [hq]
  rcases h with rfl | ⟨_, h⟩
  · rfl
  · simp at h
/-- A line is not below as many carets as stand above. -/
theorem carets_line (s : ByteArray) (cols : Int) (h2 : 2 ≤ cols) : ∀ (i : Nat) (a : Pen), (carets s cols)[i]? = some a → a.2 ≤ i := by
  intro i
  induction i with
  | zero => intro a h; rw [carets_first s cols h2] at h; injection h with h; subst h; simp
  | succ i ih =>
    intro a h
    have hlt : i + 1 < (carets s cols).length := by
      rcases Nat.lt_or_ge (i + 1) (carets s cols).length with h' | h'
      · exact h'
      · rw [List.getElem?_eq_none h'] at h; cases h
    have hm : (carets s cols)[i]? = some ((carets s cols)[i]'(by omega)) := List.getElem?_eq_getElem _
    have h1 := ih _ hm
    have h3 := carets_nx s cols h2 i _ a hm h
    unfold Nx at h3
    omega
theorem carets_bd (s : ByteArray) (cols : Int) (h2 : 2 ≤ cols) (h3 : cols ≤ 200) (hs : s.size ≤ 1048576) : ∀ q ∈ carets s cols, (0 ≤ q.1 ∧ q.1 ≤ 200) ∧ (0 ≤ q.2 ∧ q.2 ≤ 1048576) := by
  intro q hq
  have ho := carets_ok s cols h2 q hq
  obtain ⟨i, hi, he⟩ := List.getElem_of_mem hq
  have hg : (carets s cols)[i]? = some q := by rw [List.getElem?_eq_getElem hi, he]
  have hl := carets_line s cols h2 i q hg
  have := carets_le s cols
  unfold Ok at ho
  omega
end Go.Proofs.Ytghhgjpdpmekhaa
