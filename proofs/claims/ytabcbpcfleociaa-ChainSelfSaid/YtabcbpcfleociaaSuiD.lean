/- The ideal suite in memory: its terms, the map of their numbers. -/
import Derived.Test.YtabcbpcfleociaaSuiC
import Derived.Test.YtabcbpcfleociaaMap
namespace Go.Proofs.Ytabcbpcfleociaa
open Go.RowKit Go.Maps
set_option linter.unusedSimpArgs false
set_option linter.unusedVariables false
theorem zeroI (w : World) : (zeroValue 3).run Try.prog w = .ok (.int .i64 0) w := by kernel_rfl
theorem keyS (l : List UInt8) (hl : l.length ≤ maxLen) : keyOf Try.prog 9 (.string (str l)) = some (.string l) := by
  have e : (str l).size = l.length := by simp [str, ByteArray.size]
  simp only [keyOf, mapKey, Try.underlying9]
  rw [if_pos (by rw [e]; exact hl)]
  rfl
/-- A slice of one text: h. -/
def PartAt (no : List Nat) (w : World) (Q : Option Addr) (h : List UInt8) : Prop :=
  ∃ qb qo A c, Q = some ⟨qb, qo, none⟩ ∧ qb ∉ no ∧ w.cell? ⟨qb, qo, none⟩ = some (.slice A h.length c) ∧ RdN no w 1 A h.length (h.map B8) ∧ h.length ≤ c
theorem PartAt.rdl {no : List Nat} {w : World} {Q : Option Addr} {h : List UInt8} (p : PartAt no w Q h) : RdL w w.heap.size Q 1 [h] := by
  obtain ⟨qb, qo, A, c, rfl, _, hc, hr, hl⟩ := p
  refine ⟨rfl, fun i l hi => ?_⟩
  rcases i with _ | i
  · simp at hi
    subst hi
    exact ⟨qb, qo, A, c, rfl, World.block_lt_of_cell? _ _ hc, hc, hr.1, hl⟩
  · simp at hi
theorem PartAt.go {no own own' : List Nat} {w w' : World} {Q : Option Addr} {h : List UInt8} (p : PartAt no w Q h) (hf : Fr own w w' own') (hs : ∀ k, k ∈ own → k ∈ no) : PartAt no w' Q h := by
  obtain ⟨qb, qo, A, c, rfl, hn, hc, hr, hl⟩ := p
  exact ⟨qb, qo, A, c, rfl, hn, (World.cell?_of_block (a := ⟨qb, qo, none⟩) (hf.block qb (World.block_lt_of_cell? _ _ hc) (fun hm => hn (hs qb hm)))).trans hc, hr.go hf hs, hl⟩
theorem PartAt.less {no no' : List Nat} {w : World} {Q : Option Addr} {h : List UInt8} (p : PartAt no w Q h) (s : ∀ k, k ∈ no' → k ∈ no ∨ w.heap.size ≤ k) : PartAt no' w Q h := by
  obtain ⟨qb, qo, A, c, rfl, hn, hc, hr, hl⟩ := p
  refine ⟨qb, qo, A, c, rfl, fun hm => ?_, hc, hr.less s, hl⟩
  have := World.block_lt_of_cell? _ _ hc
  rcases s qb hm with h1 | h1
  · exact hn h1
  · exact absurd h1 (by show ¬ w.heap.size ≤ qb; exact Nat.not_le.2 this)
def termCells (Qs : List (Option Addr × Nat)) : List Value := Qs.flatMap fun q => [.int .u8 104, .slice q.1 1 q.2]
theorem termCells_app (Qs : List (Option Addr × Nat)) (q : Option Addr × Nat) : termCells (Qs ++ [q]) = termCells Qs ++ [.int .u8 104, .slice q.1 1 q.2] := by simp [termCells]
/-- The number of a text's term, or nought. -/
def numb (hs : List (List UInt8)) (l : List UInt8) : Nat := if l ∈ hs then hs.idxOf l + 1 else 0
/-- The terms behind a hash. -/
def note (hs : List (List UInt8)) (l : List UInt8) : List (List UInt8) := if l ∈ hs then hs else hs ++ [l]
/-- The ideal suite at block g: the texts hashed so far, in order. -/
structure IdealV (w : World) (g : Nat) (hs : List (List UInt8)) (own R : List Nat) (A : Option Addr) (c b : Nat) (Qs : List (Option Addr × Nat)) (f : Lit → Value) : Prop where
  blk : w.heap[g]? = some (.cells #[.slice A hs.length c, .map (some b), .int .i64 0] 120 (0, 0))
  map : MapV Try.prog 9 w b hs.length (.int .i64 0) f
  at_ : ∀ l, f (.string (hkeyL l)) = .int .i64 (numb hs l : Nat)
  row : w.ownsRow 0 68 2 (.slice A hs.length c) hs.length (termCells Qs)
  qs : Qs.length = hs.length
  parts : ∀ (i : Nat) (q : Option Addr × Nat) (h : List UInt8), Qs[i]? = some q → hs[i]? = some h → PartAt (own ++ R) w q.1 h
  og : g ∈ own
  ob : b ∈ own
  oA : ∀ t, (Value.slice A hs.length c).ownBlock = some t → t ∈ own
  lt : ∀ k, k ∈ own → k < w.heap.size
def IdealAt (w : World) (g : Nat) (hs : List (List UInt8)) (own R : List Nat) : Prop := ∃ A c b Qs f, IdealV w g hs own R A c b Qs f
/-- Others' changes leave it. -/
theorem IdealV.keep {w w' : World} {g : Nat} {hs : List (List UInt8)} {own R own2 own2' R' : List Nat} {A : Option Addr} {c b : Nat} {Qs : List (Option Addr × Nat)} {f : Lit → Value} (h : IdealV w g hs own R A c b Qs f)
    (hf : Fr own2 w w' own2') (h1 : ∀ k, k ∈ own2 → k ∈ R) (h2 : ∀ k, k ∈ own2 → k ∉ own) (h3 : ∀ k, k ∈ R' → k ∈ R ∨ w.heap.size ≤ k) : IdealV w' g hs own R' A c b Qs f := by
  have hk : ∀ k, k ∈ own → w'.heap[k]? = w.heap[k]? := fun k hm => hf.block k (h.lt k hm) (fun hm2 => h2 k hm2 hm)
  refine ⟨(hk g h.og).trans h.blk, h.map.same (hk b h.ob), h.at_, ?_, h.qs, fun i q l hq hl => ?_, h.og, h.ob, h.oA, fun k hm => Nat.lt_of_lt_of_le (h.lt k hm) hf.size⟩
  · rcases h.row with ⟨e1, e2 | ⟨t, cap, cur, e2, e3, e4, e5⟩⟩
    · exact ⟨e1, .inl e2⟩
    · refine ⟨e1, .inr ⟨t, cap, cur, e2, e3, (hk t (h.oA t ?_)).trans e4, e5⟩⟩
      rw [e2]; rfl
  · refine ((h.parts i q l hq hl).less (no' := own ++ R ++ R') fun k hm => ?_).go hf (fun k hm => ?_) |>.less fun k hm => Or.inl ?_
    · rcases List.mem_append.1 hm with h4 | h4
      · exact Or.inl h4
      · exact (h3 k h4).imp (fun h5 => List.mem_append.2 (Or.inr h5)) id
    · exact List.mem_append.2 (Or.inl (List.mem_append.2 (Or.inr (h1 k hm))))
    · rcases List.mem_append.1 hm with h4 | h4
      · exact List.mem_append.2 (Or.inl (List.mem_append.2 (Or.inl h4)))
      · exact List.mem_append.2 (Or.inr h4)
theorem IdealAt.keep {w w' : World} {g : Nat} {hs : List (List UInt8)} {own R own2 own2' R' : List Nat} (h : IdealAt w g hs own R)
    (hf : Fr own2 w w' own2') (h1 : ∀ k, k ∈ own2 → k ∈ R) (h2 : ∀ k, k ∈ own2 → k ∉ own) (h3 : ∀ k, k ∈ R' → k ∈ R ∨ w.heap.size ≤ k) : IdealAt w' g hs own R' := by
  obtain ⟨A, c, b, Qs, f, hv⟩ := h
  exact ⟨A, c, b, Qs, f, hv.keep hf h1 h2 h3⟩
theorem IdealV.below {w w' : World} {g : Nat} {hs : List (List UInt8)} {own R : List Nat} {A : Option Addr} {c b : Nat} {Qs : List (Option Addr × Nat)} {f : Lit → Value} (h : IdealV w g hs own R A c b Qs f) (hb : Below w.heap.size w w') : IdealV w' g hs own R A c b Qs f :=
  h.keep (own2 := []) (own2' := []) ⟨hb.os, hb.tape, hb.output, hb.size, fun k hk _ => hb.block k hk, fun _ h => absurd h (by simp)⟩ (fun _ h => absurd h (by simp)) (fun _ h => absurd h (by simp)) (fun _ h => Or.inl h)
theorem IdealAt.below {w w' : World} {g : Nat} {hs : List (List UInt8)} {own R : List Nat} (h : IdealAt w g hs own R) (hb : Below w.heap.size w w') : IdealAt w' g hs own R := by
  obtain ⟨A, c, b, Qs, f, hv⟩ := h
  exact ⟨A, c, b, Qs, f, hv.below hb⟩
theorem idxOf_note (hs : List (List UInt8)) (l : List UInt8) : numb (note hs l) l = hs.idxOf l + 1 := by
  unfold note
  split
  · rename_i h; rw [numb, if_pos h]
  · rename_i h; rw [numb, if_pos (by simp), List.idxOf_append, if_neg h, List.idxOf_eq_length h]; simp
theorem numb_note (hs : List (List UInt8)) (l l' : List UInt8) (hl : l ∉ hs) (hne : l' ≠ l) : numb (hs ++ [l]) l' = numb hs l' := by
  unfold numb
  by_cases h : l' ∈ hs
  · rw [if_pos h, if_pos (by simp [h]), List.idxOf_append, if_pos h]
  · rw [if_neg h, if_neg (by simp [h, hne])]
end Go.Proofs.Ytabcbpcfleociaa
