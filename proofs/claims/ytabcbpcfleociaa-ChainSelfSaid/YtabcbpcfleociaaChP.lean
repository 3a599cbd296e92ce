/- The plain law of chains: links, books, digests; no program in sight. -/
import Derived.Test.YtabcbpcfleociaaWirP
namespace Go.Proofs.Ytabcbpcfleociaa
set_option linter.unusedSimpArgs false
set_option linter.unusedVariables false
/-- A link. -/
structure Ln where
  au : Int
  sq : Int
  ep : Int
  pv : List UInt8
  bd : List UInt8
/-- What is known of a link. -/
structure Kn where
  dg : List UInt8
  bd : List UInt8
  ep : Int
/-- A known link that may be in a book. -/
structure Kn.ok (k : Kn) : Prop where
  dg : k.dg.length = 32
  bd : k.bd.length = 32
  lo : 1 ≤ k.ep
  hi : k.ep ≤ 65536
/-- Links in the order in which they came, with their authors. -/
abbrev Bk := List (Int × Kn)
def ofA (S : Bk) (a : Int) : List Kn := (S.filter fun x => x.1 == a).map (·.2)
theorem ofA_nil (a : Int) : ofA [] a = [] := rfl
theorem ofA_app (S T : Bk) (a : Int) : ofA (S ++ T) a = ofA S a ++ ofA T a := by simp [ofA]
theorem ofA_one (b : Int) (k : Kn) (a : Int) : ofA [(b, k)] a = if b = a then [k] else [] := by
  unfold ofA
  by_cases h : b = a <;> simp [h]
theorem ofA_len (S : Bk) (a : Int) : (ofA S a).length ≤ S.length := by
  unfold ofA
  rw [List.length_map]
  exact List.length_filter_le _ _
theorem mem_ofA {S : Bk} {a : Int} {k : Kn} : k ∈ ofA S a ↔ (a, k) ∈ S := by
  unfold ofA
  constructor
  · intro h
    obtain ⟨x, h1, rfl⟩ := List.mem_map.1 h
    obtain ⟨h2, h3⟩ := List.mem_filter.1 h1
    obtain rfl : x.1 = a := by simpa using h3
    exact h2
  · intro h
    exact List.mem_map.2 ⟨(a, k), List.mem_filter.2 ⟨h, by simp⟩, rfl⟩
/-- A book whose links may all be. -/
structure Bk.ok (S : Bk) : Prop where
  au : ∀ x ∈ S, 0 ≤ x.1 ∧ x.1 < 5
  kn : ∀ x ∈ S, x.2.ok
theorem Bk.ok.nil : Bk.ok [] := ⟨by simp, by simp⟩
theorem Bk.ok.app {S : Bk} (h : Bk.ok S) {a : Int} {k : Kn} (ha : 0 ≤ a ∧ a < 5) (hk : k.ok) : Bk.ok (S ++ [(a, k)]) := by
  constructor
  · intro x hx
    rcases List.mem_append.1 hx with h1 | h1
    · exact h.au x h1
    · obtain rfl : x = (a, k) := by simpa using h1
      exact ha
  · intro x hx
    rcases List.mem_append.1 hx with h1 | h1
    · exact h.kn x h1
    · obtain rfl : x = (a, k) := by simpa using h1
      exact hk
theorem Bk.ok.of {S : Bk} (h : Bk.ok S) {a : Int} {k : Kn} (hk : k ∈ ofA S a) : k.ok := h.kn _ (mem_ofA.1 hk)
theorem Bk.ok.out {S : Bk} (h : Bk.ok S) {a : Int} (ha : ¬ (0 ≤ a ∧ a < 5)) : ofA S a = [] := by
  rcases e : ofA S a with _ | ⟨k, t⟩
  · rfl
  · exact absurd (h.au _ (mem_ofA.1 (by rw [e]; exact List.mem_cons_self))) ha
/-- May a link be? -/
def rightL (l : Ln) : Prop := (0 ≤ l.au ∧ l.au < 5 ∧ 1 ≤ l.sq ∧ l.sq ≤ 1048576 ∧ 1 ≤ l.ep ∧ l.ep ≤ 65536) ∧ l.bd.length = 32 ∧ (l.sq = 1 ∧ l.pv.length = 0 ∨ l.pv.length = 32)
instance (l : Ln) : Decidable (rightL l) := by unfold rightL; infer_instance
end Go.Proofs.Ytabcbpcfleociaa
