/- The plain law of a book's own vector. No program in sight. -/
import Derived.Test.YtabcbpcfleociaaCmB
import Derived.Test.YtabcbpcfleociaaPlE
namespace Go.Proofs.Ytabcbpcfleociaa
set_option linter.unusedSimpArgs false
set_option linter.unusedVariables false
def lastAu (last : Int) (L : List Hd) : Int := (L.getLast?.map (·.au)).getD last
theorem validP_snoc : ∀ (L : List Hd) (last : Int) (h : Hd), validP last (L ++ [h]) = (validP last L && decide (¬ badH (lastAu last L) h))
  | [], last, h => by
    show (if badH last h then false else true) = _
    by_cases hb : badH last h <;> simp [hb, validP, lastAu]
  | x :: t, last, h => by
    show (if badH last x then false else validP x.au (t ++ [h])) = ((if badH last x then false else validP x.au t) && _)
    have e : lastAu last (x :: t) = lastAu x.au t := by
      unfold lastAu
      rcases t with _ | ⟨y, t⟩
      · rfl
      · rw [List.getLast?_cons_cons]
        have : (y :: t).getLast? ≠ none := by simp
        rcases hq : (y :: t).getLast? with _ | z
        · exact absurd hq this
        · rfl
    by_cases hb : badH last x
    · rw [if_pos hb, if_pos hb]; rfl
    · rw [if_neg hb, if_neg hb, validP_snoc t x.au h, e]
theorem lastAu_snoc (last : Int) (L : List Hd) (h : Hd) : lastAu last (L ++ [h]) = h.au := by unfold lastAu; simp
theorem vecP_last (S : Bk) : ∀ i : Nat, lastAu (-1) (vecP S i) < i
  | 0 => by show (-1 : Int) < 0; decide
  | i + 1 => by
    unfold vecP
    split
    · have := vecP_last S i; omega
    · rw [lastAu_snoc]; show (i : Int) < _; omega
theorem last_ok {S : Bk} (hS : S.ok) {a : Int} (h : ofA S a ≠ []) : ∃ k, (ofA S a)[(ofA S a).length - 1]? = some k ∧ lastDg (ofA S a) = k.dg ∧ k.ok := by
  obtain ⟨k, h1, h2⟩ := last_at h
  exact ⟨k, h1, by rw [lastDg, h2]; rfl, hS.of (List.mem_of_getElem? h1)⟩
theorem vecP_valid {S : Bk} (hS : S.ok) (hl : S.length ≤ 1048576) : ∀ i : Nat, i ≤ 5 → validP (-1) (vecP S i) = true
  | 0, _ => rfl
  | i + 1, hi => by
    have ih := vecP_valid hS hl i (by omega)
    unfold vecP
    split
    · exact ih
    · rename_i hz
      rw [validP_snoc, ih, Bool.true_and, decide_eq_true_iff]
      have h1 := vecP_last S i
      obtain ⟨k, _, h3, h4⟩ := last_ok hS hz
      have h5 := ofA_len S i
      have h6 := List.length_pos_iff.2 hz
      have h7 := h4.dg
      unfold badH headL
      simp only
      rw [h3]
      omega
theorem vecL_valid {S : Bk} (hS : S.ok) (hl : S.length ≤ 1048576) : validV (vecL S) = true := vecP_valid hS hl 5 (Nat.le_refl _)
theorem vecP_mem (S : Bk) : ∀ (i : Nat) (h : Hd), h ∈ vecP S i → ∃ a : Nat, a < i ∧ h = headL S a ∧ ofA S a ≠ []
  | 0, h, hm => by cases hm
  | i + 1, h, hm => by
    unfold vecP at hm
    split at hm
    · obtain ⟨a, h1, h2⟩ := vecP_mem S i h hm
      exact ⟨a, by omega, h2⟩
    · rename_i hz
      rcases List.mem_append.1 hm with h1 | h1
      · obtain ⟨a, h1, h2⟩ := vecP_mem S i h h1
        exact ⟨a, by omega, h2⟩
      · simp at h1; exact ⟨i, by omega, h1, hz⟩
theorem kAt_head {S : Bk} (hS : S.ok) {a : Nat} (hz : ofA S a ≠ []) : ∃ k, kAt S (headL S a) = some k ∧ k.dg = (headL S a).dg := by
  obtain ⟨k, h1, h2, _⟩ := last_ok hS hz
  have h6 := List.length_pos_iff.2 hz
  refine ⟨k, ?_, h2.symm⟩
  unfold kAt headL
  simp only
  rw [if_neg (by omega), show (((ofA S (a : Int)).length : Int) - 1).toNat = (ofA S (a : Int)).length - 1 by omega]
  exact h1
theorem ahead_vec {S : Bk} (hS : S.ok) : aheadP S (vecL S) = false := by
  unfold aheadP
  rw [List.any_eq_false]
  intro h hm
  obtain ⟨a, _, rfl, hz⟩ := vecP_mem S 5 h hm
  obtain ⟨k, h1, _⟩ := kAt_head hS hz
  simp [h1]
theorem forks_vec {S : Bk} (hS : S.ok) : forksP S (vecL S) = [] := by
  unfold forksP
  rw [List.filterMap_eq_nil_iff]
  intro h hm
  obtain ⟨a, _, rfl, hz⟩ := vecP_mem S 5 h hm
  obtain ⟨k, h1, h2⟩ := kAt_head hS hz
  unfold forkO
  rw [h1]
  simp [h2]
theorem told_vec (S : Bk) (a : Nat) : ∀ i : Nat, told (vecP S i) a = if a < i then ((ofA S a).length : Int) else 0
  | 0 => rfl
  | i + 1 => by
    have ih := told_vec S a i
    unfold vecP
    split
    · rename_i hz
      rw [ih]
      by_cases h1 : a < i
      · rw [if_pos h1, if_pos (by omega)]
      · rw [if_neg h1]
        by_cases h2 : a = i
        · subst h2; rw [if_pos (by omega), hz]; rfl
        · rw [if_neg (by omega)]
    · rw [told_snoc]
      show (if (i : Int) = (a : Int) then ((ofA S i).length : Int) else _) = _
      by_cases h2 : i = a
      · subst h2; rw [if_pos rfl, if_pos (by omega)]
      · rw [if_neg (by omega), ih]
        by_cases h1 : a < i
        · rw [if_pos h1, if_pos (by omega)]
        · rw [if_neg h1, if_neg (by omega)]
theorem behind_vec (S : Bk) : ∀ i : Nat, i ≤ 5 → behindP S (vecL S) i = false
  | 0, _ => rfl
  | i + 1, hi => by
    show (behindP S (vecL S) i || decide (told (vecL S) i < ((ofA S i).length : Nat))) = false
    rw [behind_vec S i (by omega), show told (vecL S) i = told (vecP S 5) i from rfl, told_vec, if_pos (by omega)]
    simp
theorem behind_nil (S : Bk) : ∀ i : Nat, behindP S [] i = decide (0 < (vecP S i).length)
  | 0 => rfl
  | i + 1 => by
    show (behindP S [] i || decide ((0 : Int) < ((ofA S i).length : Nat))) = decide (0 < (if ofA S i = [] then vecP S i else vecP S i ++ [headL S i]).length)
    rw [behind_nil S i]
    split
    · rename_i hz; rw [hz]; simp
    · rename_i hz
      have h6 := List.length_pos_iff.2 hz
      rw [decide_eq_true (by omega : (0 : Int) < ((ofA S (i : Int)).length : Nat)), Bool.or_true]
      simp
theorem cmp_self {S : Bk} (hS : S.ok) (hl : S.length ≤ 1048576) : cmpB S (vecL S) = false ∧ cmpA S (vecL S) = false ∧ cmpF S (vecL S) = [] ∧ cmpE (vecL S) = 0 := by
  have hv := vecL_valid hS hl
  unfold cmpB cmpA cmpF cmpE
  rw [if_pos hv, if_pos hv, if_pos hv, if_pos hv]
  exact ⟨behind_vec S 5 (Nat.le_refl _), ahead_vec hS, forks_vec hS, rfl⟩
theorem cmp_nil (S : Bk) : cmpB S [] = decide (0 < (vecL S).length) ∧ cmpA S [] = false ∧ cmpF S [] = [] ∧ cmpE [] = 0 := ⟨behind_nil S 5, rfl, rfl, rfl⟩
end Go.Proofs.Ytabcbpcfleociaa
