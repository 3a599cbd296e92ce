/- A book in memory. -/
import Derived.Test.YtabcbpcfleociaaChB
import Derived.Test.YtabcbpcfleociaaMap
import Derived.Deep.MidRow
namespace Go.Proofs.Ytabcbpcfleociaa
open Go.RowKit Go.Maps
set_option linter.unusedSimpArgs false
set_option linter.unusedVariables false
/-- A known link's cells. -/
def knC (k : Kn) : List Value := k.dg.map B8 ++ k.bd.map B8 ++ [.int .i64 k.ep]
theorem knC_len {k : Kn} (h : k.ok) : (knC k).length = 65 := by simp [knC, h.dg, h.bd]
theorem flat_at {f : Kn → List Value} {s : Nat} : ∀ (L : List Kn), (∀ k ∈ L, (f k).length = s) → ∀ (i : Nat) (k : Kn), L[i]? = some k → ∀ j v, (f k)[j]? = some v → (L.flatMap f)[i * s + j]? = some v := by
  intro L
  induction L with
  | nil => intro _ i k h; simp at h
  | cons a t ih =>
    intro hL i k hi j v hj
    have ha := hL a (by simp)
    rw [List.flatMap_cons]
    rcases i with _ | i
    · simp at hi
      subst hi
      have hjl : j < (f a).length := by
        rcases Nat.lt_or_ge j (f a).length with h | h
        · exact h
        · rw [List.getElem?_eq_none h] at hj; cases hj
      rw [Nat.zero_mul, Nat.zero_add, List.getElem?_append_left hjl]
      exact hj
    · rw [List.getElem?_append_right (by rw [ha, Nat.succ_mul]; omega), ha, show (i + 1) * s + j - s = i * s + j by rw [Nat.succ_mul]; omega]
      exact ih (fun k hk => hL k (by simp [hk])) i k (by simpa using hi) j v hj
theorem flat_len {f : Kn → List Value} {s : Nat} : ∀ (L : List Kn), (∀ k ∈ L, (f k).length = s) → (L.flatMap f).length = L.length * s := by
  intro L
  induction L with
  | nil => intro _; simp
  | cons a t ih => intro h; rw [List.flatMap_cons, List.length_append, h a (by simp), ih (fun k hk => h k (by simp [hk])), List.length_cons, Nat.succ_mul, Nat.add_comm]
/-- The i-th known link's cells. -/
theorem Rd.kn {w : World} {B n : Nat} {A : Option Addr} {L : List Kn} (h : Rd w B 65 A n (L.flatMap knC)) (hok : ∀ k ∈ L, k.ok) (hn : L.length = n) {i : Nat} {k : Kn} (hk : L[i]? = some k) :
    ∃ b o, A = some ⟨b, o, none⟩ ∧ b < B ∧ w.rangeAt b (o + i * 65) (knC k) := by
  have hi : i < L.length := by
    rcases Nat.lt_or_ge i L.length with h | h
    · exact h
    · rw [List.getElem?_eq_none h] at hk; cases hk
  obtain ⟨b, o, e, hb, hc⟩ := h.2 (by omega)
  refine ⟨b, o, e, hb, fun j v hj => ?_⟩
  have := hc (i * 65 + j) v (flat_at L (fun k hk => knC_len (hok k hk)) i k hk j v hj)
  rwa [← Nat.add_assoc] at this
/-- A book at block g: its links in order of their coming. -/
structure BookV (w : World) (g : Nat) (S : Bk) (own R : List Nat) (b n : Nat) (f : Lit → Value) : Prop where
  blk : w.heap[g]? = some (.cells #[.map (some b)] 105 (0, 0))
  map : MapV Try.prog 3 w b n (.slice none 0 0) f
  le : n ≤ S.length
  sm : S.length ≤ 1048576
  rows : ∀ a : Int, ∃ A c, f (.int .i64 a) = .slice A (ofA S a).length c ∧ (ofA S a).length ≤ c ∧ RdN (own ++ R) w 65 A (ofA S a).length ((ofA S a).flatMap knC)
  ok : S.ok
  og : g ∈ own
  ob : b ∈ own
  lt : ∀ k, k ∈ own → k < w.heap.size
def BookAt (w : World) (g : Nat) (S : Bk) (own R : List Nat) : Prop := ∃ b n f, BookV w g S own R b n f
theorem BookV.keep {w w' : World} {g : Nat} {S : Bk} {own R own2 own2' R' : List Nat} {b n : Nat} {f : Lit → Value} (h : BookV w g S own R b n f)
    (hf : Fr own2 w w' own2') (h1 : ∀ k, k ∈ own2 → k ∈ R) (h2 : ∀ k, k ∈ own2 → k ∉ own) (h3 : ∀ k, k ∈ R' → k ∈ R ∨ w.heap.size ≤ k) : BookV w' g S own R' b n f := by
  have hk : ∀ k, k ∈ own → w'.heap[k]? = w.heap[k]? := fun k hm => hf.block k (h.lt k hm) (fun hm2 => h2 k hm2 hm)
  refine ⟨(hk g h.og).trans h.blk, h.map.same (hk b h.ob), h.le, h.sm, fun a => ?_, h.ok, h.og, h.ob, fun k hm => Nat.lt_of_lt_of_le (h.lt k hm) hf.size⟩
  obtain ⟨A, c, e, hc, hr⟩ := h.rows a
  refine ⟨A, c, e, hc, ((hr.less (no' := own ++ R ++ R') fun k hm => ?_).go hf (fun k hm => ?_)).less fun k hm => Or.inl ?_⟩
  · rcases List.mem_append.1 hm with h4 | h4
    · exact Or.inl h4
    · exact (h3 k h4).imp (fun h5 => List.mem_append.2 (Or.inr h5)) id
  · exact List.mem_append.2 (Or.inl (List.mem_append.2 (Or.inr (h1 k hm))))
  · rcases List.mem_append.1 hm with h4 | h4
    · exact List.mem_append.2 (Or.inl (List.mem_append.2 (Or.inl h4)))
    · exact List.mem_append.2 (Or.inr h4)
theorem BookAt.keep {w w' : World} {g : Nat} {S : Bk} {own R own2 own2' R' : List Nat} (h : BookAt w g S own R)
    (hf : Fr own2 w w' own2') (h1 : ∀ k, k ∈ own2 → k ∈ R) (h2 : ∀ k, k ∈ own2 → k ∉ own) (h3 : ∀ k, k ∈ R' → k ∈ R ∨ w.heap.size ≤ k) : BookAt w' g S own R' := by
  obtain ⟨b, n, f, hv⟩ := h
  exact ⟨b, n, f, hv.keep hf h1 h2 h3⟩
theorem BookV.below {w w' : World} {g : Nat} {S : Bk} {own R : List Nat} {b n : Nat} {f : Lit → Value} (h : BookV w g S own R b n f) (hb : Below w.heap.size w w') : BookV w' g S own R b n f :=
  h.keep (own2 := []) (own2' := []) ⟨hb.os, hb.tape, hb.output, hb.size, fun k hk _ => hb.block k hk, fun _ h => absurd h (by simp)⟩ (fun _ h => absurd h (by simp)) (fun _ h => absurd h (by simp)) (fun _ h => Or.inl h)
theorem BookAt.below {w w' : World} {g : Nat} {S : Bk} {own R : List Nat} (h : BookAt w g S own R) (hb : Below w.heap.size w w') : BookAt w' g S own R := by
  obtain ⟨b, n, f, hv⟩ := h
  exact ⟨b, n, f, hv.below hb⟩
theorem BookAt.lt {w : World} {g : Nat} {S : Bk} {own R : List Nat} (h : BookAt w g S own R) : ∀ k, k ∈ own → k < w.heap.size := by
  obtain ⟨b, n, f, hv⟩ := h
  exact hv.lt
theorem BookAt.ok {w : World} {g : Nat} {S : Bk} {own R : List Nat} (h : BookAt w g S own R) : S.ok := by
  obtain ⟨b, n, f, hv⟩ := h
  exact hv.ok
def inI (a : Int) : Prop := -9223372036854775808 ≤ a ∧ a ≤ 9223372036854775807
theorem keyI (a : Int) (h : inI a) : keyOf Try.prog 3 (.int .i64 a) = some (.int .i64 a) := by
  have hw : (Lit.int .i64 a).wf = true := by
    have e1 : IntKind.i64.min = -9223372036854775808 := rfl
    have e2 : IntKind.i64.max = 9223372036854775807 := rfl
    simp only [Lit.wf, Bool.and_eq_true, decide_eq_true_iff, e1, e2]
    exact h
  simp only [keyOf, mapKey, Try.underlying3]
  simp [hw]
theorem keyedI : Keyed Try.prog 3 := int_keyed Try.underlying3
theorem zeroS (w : World) : (zeroValue 102).run Try.prog w = .ok (.slice none 0 0) w := by kernel_rfl
theorem BookV.look {w : World} {g : Nat} {S : Bk} {own R : List Nat} {b n : Nat} {f : Lit → Value} (h : BookV w g S own R b n f) {a : Int} (ha : inI a) {A : Option Addr} {c : Nat} (e : f (.int .i64 a) = .slice A (ofA S a).length c) :
    (Instr.lookup 103 (.map (some b)) (.int .i64 a) false).run Try.prog w = .ok (.slice A (ofA S a).length c) w := by
  have := h.map.look keyedI (t := 103) Try.underlying103 (zeroS w) (keyI a ha)
  rw [e] at this
  exact this
end Go.Proofs.Ytabcbpcfleociaa
