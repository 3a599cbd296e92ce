/- A map as a function of its keys; frames by lists of blocks. No program in sight. -/
import Derived.Test.YtabcbpcfleociaaMLib
import Derived.Maps.OwnOps
import Derived.Maps.OwnSet
import Derived.Maps.Views
namespace Go.Proofs.Ytabcbpcfleociaa
open Go.RowKit Go.Maps
set_option linter.unusedSimpArgs false
set_option linter.unusedVariables false
/-- An element that reads as itself. -/
def heldR (v : Value) : Option (DataW Value × List MemPlace) := some (.held v, [])
/-- Block b is a map of at most n entries: at each key what f says (z where there is none). -/
def MapV (P : Program) (k : TypeId) (w : World) (b n : Nat) (z : Value) (f : Lit → Value) : Prop :=
  ∃ D : DataW Value, w.ownsMap P k heldR b n D ∧ IsMap D ∧ ∀ kl, D.atKey kl (.held z) = .held (f kl)
open Classical in
/-- The map with v at kl. -/
noncomputable def updV (f : Lit → Value) (kl : Lit) (v : Value) (x : Lit) : Value := if x = kl then v else f x
theorem updV_same (f : Lit → Value) (kl : Lit) (v : Value) : updV f kl v kl = v := if_pos rfl
theorem updV_other (f : Lit → Value) {kl x : Lit} (v : Value) (h : x ≠ kl) : updV f kl v x = f x := if_neg h
section
variable {P : Program} {k : TypeId} {w : World} {b n : Nat} {z : Value} {f : Lit → Value}
theorem MapV.made (P : Program) (k : TypeId) (w : World) (z : Value) : MapV P k (w.alloc (.map #[] 0)) w.heap.size 0 z (fun _ => z) :=
  ⟨_, World.ownsMap_made w P k heldR, isMap_empty, fun _ => rfl⟩
theorem MapV.lt (h : MapV P k w b n z f) : b < w.heap.size := by obtain ⟨D, h1, _⟩ := h; exact h1.lt
theorem MapV.mono (h : MapV P k w b n z f) {n' : Nat} (hn : n ≤ n') : MapV P k w b n' z f := by obtain ⟨D, h1, h2⟩ := h; exact ⟨D, h1.mono hn, h2⟩
theorem MapV.same {w' : World} (h : MapV P k w b n z f) (e : w'.heap[b]? = w.heap[b]?) : MapV P k w' b n z f := by
  obtain ⟨D, ⟨es, clock, hb, F, hs, hD⟩, h2⟩ := h
  exact ⟨D, ⟨es, clock, e.trans hb, F, hs, hD⟩, h2⟩
theorem MapV.look {t e : TypeId} (h : MapV P k w b n z f) (K : Keyed P k) (ht : P.underlying t = some (.map k e)) (hz : (zeroValue e).run P w = .ok z w) {key : Value} {kl : Lit} (hkey : keyOf P k key = some kl) :
    (Instr.lookup t (.map (some b)) key false).run P w = .ok (f kl) w := by
  obtain ⟨D, h1, _, h3⟩ := h
  obtain ⟨v, ps, hr, hv⟩ := h1.lookup K ht hz (zd := .held z) (zp := []) rfl hkey
  rw [h3 kl] at hv
  unfold heldR at hv
  injection hv with hv
  injection hv with hv _
  injection hv with hv
  rw [← hv]
  exact hr
theorem MapV.upd {t e : TypeId} (h : MapV P k w b n z f) (K : Keyed P k) (ht : P.underlying t = some (.map k e)) (hn : n < maxLen) {key val : Value} {kl : Lit} (hkey : keyOf P k key = some kl) :
    ∃ w', (Instr.mapUpdate t (.map (some b)) key val).run P w = .ok () w' ∧ MapV P k w' b (n + 1) z (updV f kl val) ∧ w.grownBy w' (some b) := by
  obtain ⟨D, h1, h2, h3⟩ := h
  obtain ⟨w', hr, h4, h5⟩ := h1.update K ht hn hkey (val := val) (d := .held val) (ps := []) rfl
  refine ⟨w', hr, ⟨_, h4, h2.put _ _, fun x => ?_⟩, h5⟩
  by_cases e : x = kl
  · subst e
    rw [updV_same]
    exact atKey_put_same h2 (K.key hkey) _ _
  · rw [updV_other f val e, atKey_put_other e]
    exact h3 x
theorem wpList_lookV {ops : Array Oper} {rest : List Oper} {o : Oper} {a : Act} {Q : Exit → Act → World → Prop}
    (hg : o.guard = none) (m x : Operand) (t : TypeId) (hop : o.op = Op.lookup t m x false)
    (k e : TypeId) (K : Keyed P k) (ht : P.underlying t = some (.map k e)) (z : Value) (hz : (zeroValue e).run P w = .ok z w) (b n : Nat) (f : Lit → Value)
    (hm : a.eval m = .map (some b)) (hown : MapV P k w b n z f) (key : Value) (kl : Lit) (hx : a.eval x = key) (hkey : keyOf P k key = some kl)
    (hK : wpList P ops Q rest (a.put o.dst (f kl)) w) :
    wpList P ops Q (o :: rest) a w := by
  refine wpList_plain hg fun K' hK' => ?_
  have hrun := hown.look K ht hz hkey
  unfold Oper.wp
  simp [execOp, hop, hm, hx, hrun, Result.andThen]
  exact hK' _ _ hK
theorem wpList_updV {ops : Array Oper} {rest : List Oper} {o : Oper} {a : Act} {Q : Exit → Act → World → Prop}
    (hg : o.guard = none) (m x v : Operand) (t : TypeId) (hop : o.op = Op.mapUpdate t m x v)
    (k e : TypeId) (K : Keyed P k) (ht : P.underlying t = some (.map k e)) (z : Value) (b n : Nat) (f : Lit → Value)
    (hm : a.eval m = .map (some b)) (hown : MapV P k w b n z f) (hn : n < maxLen) (key val : Value) (kl : Lit) (hx : a.eval x = key) (hv : a.eval v = val) (hkey : keyOf P k key = some kl)
    (hK : ∀ w', MapV P k w' b (n + 1) z (updV f kl val) → w.grownBy w' (some b) → wpList P ops Q rest (a.put o.dst undef) w') :
    wpList P ops Q (o :: rest) a w := by
  refine wpList_plain hg fun K' hK' => ?_
  obtain ⟨w', hrun, r1, r2⟩ := hown.upd K ht hn (val := val) hkey
  unfold Oper.wp
  simp [execOp, hop, hm, hx, hv, hrun, Result.andThen]
  exact hK' _ _ (hK w' r1 r2)
end
/-- What a call that turns but the blocks 'own' leaves; its new ones are fresh. -/
structure Fr (own : List Nat) (w w' : World) (own' : List Nat) : Prop where
  os : w'.os = w.os
  tape : w'.tape = w.tape
  output : w'.output = w.output
  size : w.heap.size ≤ w'.heap.size
  block : ∀ k, k < w.heap.size → k ∉ own → w'.heap[k]? = w.heap[k]?
  sub : ∀ k, k ∈ own' → k ∈ own ∨ w.heap.size ≤ k
theorem Fr.refl (own : List Nat) (w : World) : Fr own w w own := ⟨rfl, rfl, rfl, Nat.le_refl _, fun _ _ _ => rfl, fun _ h => Or.inl h⟩
theorem Fr.trans {own own' own'' : List Nat} {w w' w'' : World} (h : Fr own w w' own') (h' : Fr own' w' w'' own'') : Fr own w w'' own'' := by
  refine ⟨h'.os.trans h.os, h'.tape.trans h.tape, h'.output.trans h.output, Nat.le_trans h.size h'.size, fun k hk hn => ?_, fun k hk => ?_⟩
  · refine (h'.block k (Nat.lt_of_lt_of_le hk h.size) fun hm => ?_).trans (h.block k hk hn)
    rcases h.sub k hm with h1 | h1
    · exact hn h1
    · omega
  · rcases h'.sub k hk with h1 | h1
    · exact h.sub k h1
    · exact Or.inr (Nat.le_trans h.size h1)
theorem Fr.below {own : List Nat} {w w' : World} (h : Below w.heap.size w w') : Fr own w w' own := ⟨h.os, h.tape, h.output, h.size, fun k hk _ => h.block k hk, fun _ h => Or.inl h⟩
theorem Fr.drop {own own' own'' : List Nat} {w w' : World} (h : Fr own w w' own') (s : ∀ k, k ∈ own'' → k ∈ own' ∨ k ∈ own ∨ w.heap.size ≤ k) : Fr own w w' own'' :=
  ⟨h.os, h.tape, h.output, h.size, h.block, fun k hk => by rcases s k hk with h1 | h1 | h1; exact h.sub k h1; exact Or.inl h1; exact Or.inr h1⟩
theorem Fr.grown {own own' : List Nat} {w w' : World} {row : Option Nat} (h : w.grownBy w' row) (hr : ∀ r, row = some r → r ∈ own ∨ w.heap.size ≤ r) (s : ∀ k, k ∈ own' → k ∈ own ∨ w.heap.size ≤ k) : Fr own w w' own' :=
  ⟨h.os, h.tape, h.output, h.size, fun k hk hn => h.block k hk (fun e => by rcases hr k e.symm with h1 | h1; exact hn h1; omega), s⟩
/-- What was fresh once is so still. -/
theorem Fr.toBelow {own own' : List Nat} {w w' : World} {B : Nat} (h : Fr own w w' own') (hB : ∀ k, k ∈ own → B ≤ k) (hs : B ≤ w.heap.size) : Below B w w' :=
  ⟨h.os, h.tape, h.output, h.size, fun k hk => h.block k (Nat.lt_of_lt_of_le hk hs) (fun hm => absurd (hB k hm) (by omega))⟩
/-- A row of values that lies in none of the blocks 'no'. -/
def RdN (no : List Nat) (w : World) (size : Nat) (A : Option Addr) (n : Nat) (xs : List Value) : Prop :=
  Rd w w.heap.size size A n xs ∧ ∀ b o, 0 < n → A = some ⟨b, o, none⟩ → b ∉ no
theorem Rd.same {w w' : World} {B size n : Nat} {A : Option Addr} {xs : List Value} (h : Rd w B size A n xs) (e : ∀ b o, 0 < n → A = some ⟨b, o, none⟩ → w'.heap[b]? = w.heap[b]?) : Rd w' B size A n xs := by
  refine ⟨h.1, fun h0 => ?_⟩
  obtain ⟨b, o, e1, hb, hc⟩ := h.2 h0
  exact ⟨b, o, e1, hb, fun j u hu => (World.cell?_of_block (a := ⟨b, o + j, none⟩) (e b o h0 e1)).trans (hc j u hu)⟩
theorem RdN.go {no own own' : List Nat} {w w' : World} {size n : Nat} {A : Option Addr} {xs : List Value} (h : RdN no w size A n xs) (hf : Fr own w w' own') (hs : ∀ k, k ∈ own → k ∈ no) : RdN no w' size A n xs := by
  refine ⟨(h.1.same fun b o h0 e => hf.block b ?_ fun hm => h.2 b o h0 e (hs b hm)).more hf.size, h.2⟩
  obtain ⟨b', o', e', hb', _⟩ := h.1.2 h0
  rw [e] at e'
  injection e' with e'
  injection e' with e1
  omega
theorem RdN.less {no no' : List Nat} {w : World} {size n : Nat} {A : Option Addr} {xs : List Value} (h : RdN no w size A n xs) (s : ∀ k, k ∈ no' → k ∈ no ∨ w.heap.size ≤ k) : RdN no' w size A n xs := by
  refine ⟨h.1, fun b o h0 e hm => ?_⟩
  rcases s b hm with h1 | h1
  · exact h.2 b o h0 e h1
  · obtain ⟨b', o', e', hb', _⟩ := h.1.2 h0
    rw [e] at e'
    injection e' with e'
    injection e' with e1
    omega
end Go.Proofs.Ytabcbpcfleociaa
