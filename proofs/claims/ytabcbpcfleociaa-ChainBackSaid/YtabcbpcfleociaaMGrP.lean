/- The plain law of growing; Head clear of blocks; before. -/
import Derived.Test.YtabcbpcfleociaaMFkP
import Derived.Test.YtabcbpcfleociaaMPv
namespace Go.Proofs.Ytabcbpcfleociaa
open Go.RowKit Go.Maps
attribute [local go_sem ↓] Go.wp_at_zero Go.wp_at_succ
set_option linter.unusedSimpArgs false
set_option linter.unusedVariables false
theorem checkE_zero2 {S : Bk} {hs : List (List UInt8)} {l : Ln} (h : checkE S hs l = 0) : lastDg (ofA S l.au) = l.pv ∧ lastEp (ofA S l.au) ≤ l.ep := by
  obtain ⟨hr, hs1⟩ := checkE_zero h
  rw [checkE_next hr hs1] at h
  by_cases h1 : lastDg (ofA S l.au) = l.pv
  · rw [if_pos h1] at h
    by_cases h2 : l.ep < lastEp (ofA S l.au)
    · rw [if_pos h2] at h; cases h
    · exact ⟨h1, by omega⟩
  · rw [if_neg h1] at h; cases h
/-- Epochs never fall. -/
def Mono (S : Bk) : Prop := ∀ (a : Int) (i : Nat) (k k' : Kn), (ofA S a)[i]? = some k → (ofA S a)[i + 1]? = some k' → k.ep ≤ k'.ep
theorem Mono.take {S : Bk} (h : Mono S) (hs : List (List UInt8)) (l : Ln) : Mono (takeS S hs l) := by
  unfold takeS
  split
  · rename_i hE
    intro a i k k' h1 h2
    rw [ofA_app, ofA_one] at h1 h2
    by_cases ha : l.au = a
    · rw [if_pos ha] at h1 h2
      have hl2 : i + 1 < (ofA S a ++ [knL hs l]).length := (List.getElem?_eq_some_iff.1 h2).1
      rw [List.length_append, List.length_singleton] at hl2
      rw [List.getElem?_append_left (by omega)] at h1
      rcases Nat.lt_or_ge (i + 1) (ofA S a).length with h3 | h3
      · rw [List.getElem?_append_left h3] at h2
        exact h a i k k' h1 h2
      · rw [List.getElem?_append_right h3] at h2
        have hz : i + 1 - (ofA S a).length = 0 := by omega
        rw [hz] at h2
        simp at h2
        have he := (checkE_zero2 hE).2
        rw [ha] at he
        have hk : lastEp (ofA S a) = k.ep := by
          unfold lastEp
          rw [List.getLast?_eq_getElem?, show (ofA S a).length - 1 = i by omega, h1]
          rfl
        rw [← h2]
        show k.ep ≤ l.ep
        omega
    · rw [if_neg ha, List.append_nil] at h1 h2
      exact h a i k k' h1 h2
  · exact h
theorem Reach.mono {n : Nat} {S : Bk} {hs : List (List UInt8)} (h : Reach n S hs) : Mono S := by
  induction h with
  | nil => intro a i k k' h1 _; simp [ofA] at h1
  | step l h ih => exact ih.take _ _
theorem checkE_again (S : Bk) (hs : List (List UInt8)) (l : Ln) : checkE S (checkH S hs l) l = checkE S hs l := by
  have e : digL (checkH S hs l) l = digL hs l := by
    unfold checkH
    split
    · rw [digL, digL, note_idx]
    · rfl
  unfold checkE
  rw [e]
theorem checkH_again (S : Bk) (hs : List (List UInt8)) (l : Ln) : checkH S (checkH S hs l) l = checkH S hs l := by
  by_cases h : rightL l ∧ l.sq ≤ (ofA S l.au).length
  · have e1 : checkH S hs l = note hs (bytesL l) := if_pos h
    have e2 : checkH S (note hs (bytesL l)) l = note (note hs (bytesL l)) (bytesL l) := if_pos h
    rw [e1, e2]
    exact if_pos (note_mem _ _)
  · have e1 : checkH S hs l = hs := if_neg h
    rw [e1, e1]
/-- What a step does to an author's links. -/
theorem grow_or (S : Bk) (hs : List (List UInt8)) (l : Ln) (a : Int) : ofA (takeS S (checkH S hs l) l) a = ofA S a ∨ (a = l.au ∧ checkE S hs l = 0 ∧ l.sq = ((ofA S a).length : Int) + 1 ∧ lastDg (ofA S a) = l.pv ∧ ∃ k, ofA (takeS S (checkH S hs l) l) a = ofA S a ++ [k]) := by
  by_cases h : checkE S (checkH S hs l) l = 0
  · have h0 := h
    rw [checkE_again] at h0
    have e : takeS S (checkH S hs l) l = S ++ [(l.au, knL (checkH S hs l) l)] := if_pos h
    rw [e, ofA_app, ofA_one]
    by_cases ha : l.au = a
    · subst ha
      rw [if_pos rfl]
      exact Or.inr ⟨rfl, h0, (checkE_zero h0).2, (checkE_zero2 h0).1, _, rfl⟩
    · rw [if_neg ha, List.append_nil]
      exact Or.inl rfl
  · have e : takeS S (checkH S hs l) l = S := if_neg h
    rw [e]
    exact Or.inl rfl
theorem grow_at (S : Bk) (hs : List (List UInt8)) (l : Ln) (a : Int) {j : Nat} (hj : j < (ofA S a).length) : atK (takeS S (checkH S hs l) l) a ((j + 1 : Nat) : Int) = atK S a ((j + 1 : Nat) : Int) := by
  have hn : ¬ ((j + 1 : Nat) : Int) < 1 := by omega
  have ej : (((j + 1 : Nat) : Int) - 1).toNat = j := by omega
  unfold atK
  rw [if_neg hn, if_neg hn, ej]
  rcases grow_or S hs l a with h | ⟨_, _, _, _, k, h⟩
  · rw [h]
  · rw [h, List.getElem?_append_left hj]
theorem mono_at {S : Bk} (hm : Mono S) (hS : S.ok) (a : Int) {j : Nat} (hj : j + 1 < (ofA S a).length) : atE S a ((j + 1 : Nat) : Int) ≤ atE S a ((j + 1 + 1 : Nat) : Int) := by
  have h1 : (ofA S a)[j]? = some (ofA S a)[j] := List.getElem?_eq_getElem (by omega)
  have h2 : (ofA S a)[j + 1]? = some (ofA S a)[j + 1] := List.getElem?_eq_getElem hj
  have e1 : atE S a ((j + 1 : Nat) : Int) = (ofA S a)[j].ep := by
    unfold atE atK
    rw [if_neg (by omega), show (((j + 1 : Nat) : Int) - 1).toNat = j by omega, h1]; rfl
  have e2 : atE S a ((j + 1 + 1 : Nat) : Int) = (ofA S a)[j + 1].ep := by
    unfold atE atK
    rw [if_neg (by omega), show (((j + 1 + 1 : Nat) : Int) - 1).toNat = j + 1 by omega, h2]; rfl
  rw [e1, e2]
  exact hm a j _ _ h1 h2
theorem head_anyN (g : Nat) (S : Bk) (own R : List Nat) (a : Int) (no : List Nat) (w : World) (hB : BookAt w g S own R) (hno : ∀ k, k ∈ no → k < w.heap.size) :
    Calls Try.prog 18 #[.pointer (some ⟨g, 0, none⟩), .int .i64 a] w fun e w' => ∃ A m c, e = .returned (.agg #[.int .i64 (hau a), .int .i64 (ofA S a).length, .slice A m c]) ∧ RdN no w' 1 A m ((lastDg (ofA S a)).map B8) ∧ Below w.heap.size w w' := by
  by_cases h : 0 ≤ a ∧ a < 5
  · refine (head_in g S own R a w hB h.1 h.2).mono ?_
    rintro e w' ⟨A, m, c, rfl, _, ho, hb⟩
    exact ⟨A, m, c, by rw [hau, if_pos h], ho.rdNo hno, hb⟩
  · refine (head_off _ a w (Or.inr (by omega))).mono ?_
    rintro e w' ⟨rfl, hb⟩
    have hz := hB.ok.out h
    exact ⟨none, 0, 0, by rw [hau, if_neg h, hz]; rfl, by rw [hz]; exact RdN.nil _ _ _, hb⟩
set_option maxHeartbeats 1000000 in
theorem before_ (g : Nat) (S : Bk) (own R : List Nat) (a q q1 : Int) (w : World) (hB : BookAt w g S own R) (ha : inI a) (hq : IntKind.i64.wrap (q - 1) = q1) :
    Calls Try.prog 24 #[.pointer (some ⟨g, 0, none⟩), .int .i64 a, .int .i64 q] w fun e w' => e = .returned (.int .i64 (atE S a q1)) ∧ Below w.heap.size w w' := by
  go_enter Try.func24, Try.ntmps24
  go_wp2_with fail
  refine (at_any g S own R a q1 w hB ha).mono ?_
  rintro e w' ⟨A, m, c, rfl, _, hb⟩
  go_wp2_with fail
  go_ret
  exact ⟨rfl, hb⟩
end Go.Proofs.Ytabcbpcfleociaa
