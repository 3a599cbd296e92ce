/- The plain law of forks. No program in sight. -/
import Derived.Test.YtabcbpcfleociaaMChk
import Derived.Test.YtabcbpcfleociaaMPlc
import Derived.Test.YtabcbpcfleociaaMChb
import Derived.Test.YtabcbpcfleociaaMFrame
import Derived.DeepKeys4
import Derived.Test.YtabcbpcfleociaaMFro
import Derived.Lib.SmallJoins
import Derived.Test.YtabcbpcfleociaaMPlyW
namespace Go.Proofs.Ytabcbpcfleociaa
set_option linter.unusedSimpArgs false
set_option linter.unusedVariables false
theorem note_sub {hs : List (List UInt8)} {b x : List UInt8} (h : x ∈ hs) : x ∈ note hs b := by
  unfold note
  split
  · exact h
  · exact List.mem_append.2 (Or.inl h)
theorem note_mem (hs : List (List UInt8)) (b : List UInt8) : b ∈ note hs b := by
  unfold note
  split
  · assumption
  · simp
theorem note_idx_mem {hs : List (List UInt8)} {b x : List UInt8} (h : x ∈ hs) : (note hs b).idxOf x = hs.idxOf x := by
  unfold note
  split
  · rfl
  · rw [List.idxOf_append, if_pos h]
theorem note_idx (hs : List (List UInt8)) (b : List UInt8) : (note hs b).idxOf b = hs.idxOf b := by
  by_cases h : b ∈ hs
  · exact note_idx_mem h
  · unfold note
    rw [if_neg h, List.idxOf_append, if_neg h, List.idxOf_eq_length h]
    simp
/-- A link that was taken. -/
structure Tk (S : Bk) (hs : List (List UInt8)) (l : Ln) : Prop where
  rt : rightL l
  le : l.sq ≤ (ofA S l.au).length
  mem : bytesL l ∈ hs
  at_ : ∃ k, (ofA S l.au)[(l.sq - 1).toNat]? = some k ∧ k.dg = digL hs l
theorem Tk.note {S : Bk} {hs : List (List UInt8)} {l : Ln} (h : Tk S hs l) (b : List UInt8) : Tk S (note hs b) l := by
  obtain ⟨k, h1, h2⟩ := h.at_
  exact ⟨h.rt, h.le, note_sub h.mem, k, h1, by rw [h2, digL, digL, note_idx_mem h.mem]⟩
theorem Tk.check {S : Bk} {hs : List (List UInt8)} {l : Ln} (h : Tk S hs l) (l' : Ln) : Tk S (checkH S hs l') l := by
  unfold checkH
  split
  · exact h.note _
  · exact h
theorem Tk.app {S : Bk} {hs : List (List UInt8)} {l : Ln} (h : Tk S hs l) (x : Int × Kn) : Tk (S ++ [x]) hs l := by
  obtain ⟨k, h1, h2⟩ := h.at_
  have e : ofA (S ++ [x]) l.au = ofA S l.au ++ ofA [x] l.au := ofA_app S [x] l.au
  refine ⟨h.rt, by rw [e, List.length_append]; have := h.le; omega, h.mem, k, ?_, h2⟩
  rw [e]
  exact (List.getElem?_append_left (List.getElem?_eq_some_iff.1 h1).1).trans h1
theorem Tk.take {S : Bk} {hs : List (List UInt8)} {l : Ln} (h : Tk S hs l) (l' : Ln) : Tk (takeS S hs l') (takeH S hs l') l := by
  unfold takeS takeH
  split
  · exact (h.app _).note _
  · exact h.check l'
theorem Tk.step {S : Bk} {hs : List (List UInt8)} {l : Ln} (h : Tk S hs l) (l' : Ln) : Tk (takeS S (checkH S hs l') l') (takeH S (checkH S hs l') l') l := (h.check l').take l'
theorem checkE_zero {S : Bk} {hs : List (List UInt8)} {l : Ln} (h : checkE S hs l = 0) : rightL l ∧ l.sq = ((ofA S l.au).length : Int) + 1 := by
  have hr := checkE_right h
  refine ⟨hr, ?_⟩
  unfold checkE at h
  rw [if_pos hr] at h
  by_cases h1 : l.sq ≤ (ofA S l.au).length
  · rw [if_pos h1] at h
    split at h <;> cases h
  · rw [if_neg h1] at h
    by_cases h2 : ((ofA S l.au).length : Int) + 1 < l.sq
    · rw [if_pos h2] at h; cases h
    · omega
theorem Tk.new {S : Bk} {hs : List (List UInt8)} {l : Ln} (h : checkE S hs l = 0) : Tk (takeS S hs l) (takeH S hs l) l := by
  obtain ⟨hr, hs1⟩ := checkE_zero h
  have e1 : takeS S hs l = S ++ [(l.au, knL hs l)] := if_pos h
  have e2 : takeH S hs l = Go.Proofs.Ytabcbpcfleociaa.note hs (bytesL l) := if_pos h
  have e3 : ofA (S ++ [(l.au, knL hs l)]) l.au = ofA S l.au ++ [knL hs l] := by rw [ofA_app, ofA_one, if_pos rfl]
  rw [e1, e2]
  refine ⟨hr, by rw [e3, List.length_append, List.length_singleton]; omega, note_mem _ _, knL hs l, ?_, ?_⟩
  · rw [e3, show (l.sq - 1).toNat = (ofA S l.au).length by omega, List.getElem?_append_right (Nat.le_refl _)]
    simp
  · show digL hs l = digL _ l
    rw [digL, digL, note_idx]
/-- A step takes its link just if the author's links become more. -/
theorem grows_iff {S : Bk} {hs : List (List UInt8)} {l : Ln} : (ofA S l.au).length < (ofA (takeS S hs l) l.au).length ↔ checkE S hs l = 0 := by
  unfold takeS
  constructor
  · intro h
    by_cases h1 : checkE S hs l = 0
    · exact h1
    · rw [if_neg h1] at h; omega
  · intro h
    rw [if_pos h, ofA_app, ofA_one, if_pos rfl]
    simp
theorem eightL_inj {n m : Nat} (hn : n < 18446744073709551616) (hm : m < 18446744073709551616) (h : eightL n = eightL m) : n = m := by
  have e : ∀ k : Nat, eightL k = [UInt8.ofNat (k / 1), UInt8.ofNat (k / 256), UInt8.ofNat (k / 65536), UInt8.ofNat (k / 16777216), UInt8.ofNat (k / 4294967296), UInt8.ofNat (k / 1099511627776), UInt8.ofNat (k / 281474976710656), UInt8.ofNat (k / 72057594037927936)] := fun k => rfl
  rw [e, e] at h
  simp only [List.cons.injEq, and_true] at h
  obtain ⟨h0, h1, h2, h3, h4, h5, h6, h7⟩ := h
  have g : ∀ {a b : Nat}, UInt8.ofNat a = UInt8.ofNat b → a % 256 = b % 256 := fun {a b} h => by
    have := congrArg UInt8.toNat h
    rwa [UInt8.toNat_ofNat', UInt8.toNat_ofNat'] at this
  have h0 := g h0
  have h1 := g h1
  have h2 := g h2
  have h3 := g h3
  have h4 := g h4
  have h5 := g h5
  have h6 := g h6
  have h7 := g h7
  omega
theorem hname_inj {n m : Nat} (hn : n < 18446744073709551616) (hm : m < 18446744073709551616) (h : hname n = hname m) : n = m := by
  unfold hname at h
  injection h with _ h
  exact eightL_inj hn hm (List.append_cancel_right h)
theorem bytes_bd {x y : Ln} (h1 : y.au = x.au) (h2 : y.sq = x.sq) (h3 : y.ep = x.ep) (h4 : y.pv = x.pv) (h5 : y.bd.length = x.bd.length) (h : bytesL y = bytesL x) : y.bd = x.bd := by
  unfold bytesL at h
  rw [h1, h2, h3, h4] at h
  have := List.append_cancel_left h
  unfold textL at this
  rw [h5] at this
  exact List.append_cancel_left this
theorem idx_inj {hs : List (List UInt8)} {x y : List UInt8} (hx : x ∈ hs) (h : hs.idxOf y = hs.idxOf x) : y = x := by
  have hl : hs.idxOf x < hs.length := List.idxOf_lt_length_of_mem hx
  have e1 := List.getElem_idxOf hl
  have hl2 : hs.idxOf y < hs.length := by rw [h]; exact hl
  have e2 := List.getElem_idxOf hl2
  rw [← e1, ← e2]
  simp only [h]
/-- Who is shown a link that was taken, or one like it with another body. -/
theorem fork_E {S : Bk} {hs : List (List UInt8)} {x : Ln} (h : Tk S hs x) (hl : hs.length ≤ 1000000) (o : List UInt8) (ho : o.length = 32) : checkE S hs { x with bd := o } = if o = x.bd then 16 else 18 := by
  obtain ⟨k, h1, h2⟩ := h.at_
  have hr : rightL { x with bd := o } := ⟨h.rt.1, ho, h.rt.2.2⟩
  rw [checkE_old hr h.le h1, h2]
  by_cases he : o = x.bd
  · subst he
    rw [if_pos rfl, if_pos rfl]
  · rw [if_neg he, if_neg]
    intro e
    unfold digL at e
    have a1 := List.idxOf_le_length (a := bytesL x) (l := hs)
    have a2 := List.idxOf_le_length (a := bytesL { x with bd := o }) (l := hs)
    have e2 := hname_inj (by omega) (by omega) e
    have e3 := idx_inj h.mem (x := bytesL x) (y := bytesL { x with bd := o }) (by omega)
    exact he (bytes_bd (x := x) (y := { x with bd := o }) rfl rfl rfl rfl (by show o.length = _; rw [ho, h.rt.2.1]) e3)
theorem old_E {S : Bk} {hs : List (List UInt8)} {x : Ln} (h : Tk S hs x) (hl : hs.length ≤ 1000000) : checkE S hs x = 16 := by
  have := fork_E h hl x.bd h.rt.2.1
  rw [if_pos rfl] at this
  exact this
end Go.Proofs.Ytabcbpcfleociaa

/- A map as a function of its keys that tells which are there; keys of two numbers. -/
namespace Go.Proofs.Ytabcbpcfleociaa
open Go.RowKit Go.Maps
set_option linter.unusedSimpArgs false
set_option linter.unusedVariables false
/-- Block b is a map of at most n entries: what f says stands at each key. -/
def MapO (P : Program) (k : TypeId) (w : World) (b n : Nat) (f : Lit → Option Value) : Prop :=
  ∃ D : DataW Value, w.ownsMap P k heldR b n D ∧ IsMap D ∧ ∀ kl, Maps.has D kl = (f kl).isSome ∧ ∀ z, D.atKey kl (.held z) = .held ((f kl).getD z)
open Classical in
noncomputable def updO (f : Lit → Option Value) (kl : Lit) (v : Value) (x : Lit) : Option Value := if x = kl then some v else f x
theorem updO_same (f : Lit → Option Value) (kl : Lit) (v : Value) : updO f kl v kl = some v := if_pos rfl
theorem updO_other (f : Lit → Option Value) {kl x : Lit} (v : Value) (h : x ≠ kl) : updO f kl v x = f x := if_neg h
section
variable {P : Program} {k : TypeId} {w : World} {b n : Nat} {f : Lit → Option Value}
theorem MapO.made (P : Program) (k : TypeId) (w : World) : MapO P k (w.alloc (.map #[] 0)) w.heap.size 0 (fun _ => none) :=
  ⟨_, World.ownsMap_made w P k heldR, isMap_empty, fun _ => ⟨rfl, fun _ => rfl⟩⟩
theorem MapO.lt (h : MapO P k w b n f) : b < w.heap.size := by obtain ⟨D, h1, _⟩ := h; exact h1.lt
theorem MapO.mono (h : MapO P k w b n f) {n' : Nat} (hn : n ≤ n') : MapO P k w b n' f := by obtain ⟨D, h1, h2⟩ := h; exact ⟨D, h1.mono hn, h2⟩
theorem MapO.same {w' : World} (h : MapO P k w b n f) (e : w'.heap[b]? = w.heap[b]?) : MapO P k w' b n f := by
  obtain ⟨D, ⟨es, clock, hb, F, hs, hD⟩, h2⟩ := h
  exact ⟨D, ⟨es, clock, e.trans hb, F, hs, hD⟩, h2⟩
theorem MapO.look {t e : TypeId} {z : Value} (h : MapO P k w b n f) (K : Keyed P k) (ht : P.underlying t = some (.map k e)) (hz : (zeroValue e).run P w = .ok z w) {key : Value} {kl : Lit} (hkey : keyOf P k key = some kl) :
    (Instr.lookup t (.map (some b)) key true).run P w = .ok (.tuple #[(f kl).getD z, .bool (f kl).isSome]) w := by
  obtain ⟨D, h1, _, h3⟩ := h
  obtain ⟨v, ps, hr, hv⟩ := h1.look_ok K ht hz (zd := .held z) (zp := []) rfl hkey
  rw [(h3 kl).2 z] at hv
  unfold heldR at hv
  injection hv with hv
  injection hv with hv _
  injection hv with hv
  rw [← hv, ← (h3 kl).1]
  exact hr
theorem MapO.upd {t e : TypeId} (h : MapO P k w b n f) (K : Keyed P k) (ht : P.underlying t = some (.map k e)) (hn : n < maxLen) {key val : Value} {kl : Lit} (hkey : keyOf P k key = some kl) :
    ∃ w', (Instr.mapUpdate t (.map (some b)) key val).run P w = .ok () w' ∧ MapO P k w' b (n + 1) (updO f kl val) ∧ w.grownBy w' (some b) := by
  obtain ⟨D, h1, h2, h3⟩ := h
  obtain ⟨w', hr, h4, h5⟩ := h1.update K ht hn hkey (val := val) (d := .held val) (ps := []) rfl
  refine ⟨w', hr, ⟨_, h4, h2.put _ _, fun x => ?_⟩, h5⟩
  by_cases e : x = kl
  · subst e
    rw [updO_same]
    exact ⟨has_put_same h2 (K.key hkey) _, fun z => atKey_put_same h2 (K.key hkey) _ _⟩
  · rw [updO_other f val e]
    exact ⟨(has_put_other e _).trans (h3 x).1, fun z => (atKey_put_other e _ _).trans ((h3 x).2 z)⟩
theorem wpList_lookO {ops : Array Oper} {rest : List Oper} {o : Oper} {a : Act} {Q : Exit → Act → World → Prop}
    (hg : o.guard = none) (m x : Operand) (t : TypeId) (hop : o.op = Op.lookup t m x true)
    (k e : TypeId) (K : Keyed P k) (ht : P.underlying t = some (.map k e)) (z : Value) (hz : (zeroValue e).run P w = .ok z w) (b n : Nat) (f : Lit → Option Value)
    (hm : a.eval m = .map (some b)) (hown : MapO P k w b n f) (key : Value) (kl : Lit) (hx : a.eval x = key) (hkey : keyOf P k key = some kl)
    (hK : wpList P ops Q rest (a.put o.dst (.tuple #[(f kl).getD z, .bool (f kl).isSome])) w) :
    wpList P ops Q (o :: rest) a w := by
  refine wpList_plain hg fun K' hK' => ?_
  have hrun := hown.look K ht hz hkey
  unfold Oper.wp
  simp [execOp, hop, hm, hx, hrun, Result.andThen]
  exact hK' _ _ hK
theorem wpList_updO {ops : Array Oper} {rest : List Oper} {o : Oper} {a : Act} {Q : Exit → Act → World → Prop}
    (hg : o.guard = none) (m x v : Operand) (t : TypeId) (hop : o.op = Op.mapUpdate t m x v)
    (k e : TypeId) (K : Keyed P k) (ht : P.underlying t = some (.map k e)) (b n : Nat) (f : Lit → Option Value)
    (hm : a.eval m = .map (some b)) (hown : MapO P k w b n f) (hn : n < maxLen) (key val : Value) (kl : Lit) (hx : a.eval x = key) (hv : a.eval v = val) (hkey : keyOf P k key = some kl)
    (hK : ∀ w', MapO P k w' b (n + 1) (updO f kl val) → w.grownBy w' (some b) → wpList P ops Q rest (a.put o.dst undef) w') :
    wpList P ops Q (o :: rest) a w := by
  refine wpList_plain hg fun K' hK' => ?_
  obtain ⟨w', hrun, r1, r2⟩ := hown.upd K ht hn (val := val) hkey
  unfold Oper.wp
  simp [execOp, hop, hm, hx, hv, hrun, Result.andThen]
  exact hK' _ _ (hK w' r1 r2)
end
theorem keyed2 : Keyed Try.prog 49 := Keyed.of_law (deep_law_laid laidOut (m := 2) (by decide) (by decide +kernel) (by kernel_rfl) (by kernel_rfl))
def pairV (a b : Int) : Value := .agg #[.int .i64 a, .int .i64 b]
theorem inI_wf {a : Int} (h : inI a) : (Lit.int .i64 a).wf = true := by
  have e1 : IntKind.i64.min = -9223372036854775808 := rfl
  have e2 : IntKind.i64.max = 9223372036854775807 := rfl
  simp only [Lit.wf, Bool.and_eq_true, decide_eq_true_iff, e1, e2]
  exact h
theorem key2 (a b : Int) (ha : inI a) (hb : inI b) : ∃ kl, keyOf Try.prog 49 (pairV a b) = some kl := by
  have h1 := inI_wf ha
  have h2 := inI_wf hb
  have hk : Try.prog.keyType 49 = true := by kernel_rfl
  have hc : Try.prog.cellsOf 49 = 2 := by kernel_rfl
  have hc1 : Try.prog.cellsOf 3 = 1 := by kernel_rfl
  obtain ⟨s, hs⟩ : ∃ s, Try.prog.types.size = s + 1 := ⟨Try.prog.types.size - 1, by kernel_rfl⟩
  refine ⟨.string (keyBytes [.int .i64 a, .int .i64 b]), ?_⟩
  unfold keyOf pairV
  rw [Try.underlying49]
  simp only [hk, Value.formed, Try.underlying49, hc, Value.cells, Bool.true_and]
  rw [if_pos (by rfl), hs]
  have hl : Try.prog.keyLits (s + 1 + 1) 49 #[Value.int .i64 a, Value.int .i64 b].toList = some [.int .i64 a, .int .i64 b] := by
    unfold Program.keyLits
    rw [Try.underlying49]
    simp only [hc, hc1]
    unfold Program.keyLits
    simp [Try.underlying3, h1, h2, List.range, List.range.loop]
  rw [hl]
  rfl
theorem key2_inj {a b c d : Int} {kl : Lit} (h : keyOf Try.prog 49 (pairV a b) = some kl) (h' : keyOf Try.prog 49 (pairV c d) = some kl) : a = c ∧ b = d := by
  have := keyed2.inj h h'
  simpa [pairV] using this
end Go.Proofs.Ytabcbpcfleociaa

/- Arguments opened: an array of bytes. No function of the program. -/
namespace Go.Proofs.Ytabcbpcfleociaa
open Go.ChangeShapes Go.WideShapes Go.ChangeAt Go.RowKit
set_option linter.unusedSimpArgs false
set_option linter.unusedVariables false
theorem mapM_at {α β : Type} {f : α → Option β} : ∀ {l : List α} {ys : List β}, l.mapM f = some ys → ∀ (i : Nat) (a : α), l[i]? = some a → ∃ y, f a = some y
  | [], _, _, i, a, h => by simp at h
  | x :: t, ys, h, i, a, hi => by
    rw [List.mapM_cons] at h
    rcases hx : f x with _ | y
    · rw [hx] at h; cases h
    · rcases ht : t.mapM f with _ | zs
      · rw [hx, ht] at h; cases h
      · rcases i with _ | i
        · simp at hi; subst hi; exact ⟨y, hx⟩
        · exact mapM_at ht i a (by simpa using hi)
theorem bytes_of {cs : List Value} : ∀ n, cs.length = n → (∀ i, i < n → ∃ b : UInt8, cs[i]? = some (B8 b)) → ∃ l : List UInt8, l.length = n ∧ cs = l.map B8 := by
  intro n
  induction n generalizing cs with
  | zero => intro h _; exact ⟨[], rfl, List.eq_nil_of_length_eq_zero h⟩
  | succ n ih =>
    intro h hb
    rcases cs with _ | ⟨c, t⟩
    · simp at h
    · obtain ⟨b, h0⟩ := hb 0 (by omega)
      obtain ⟨l, h1, h2⟩ := ih (cs := t) (by simpa using h) (fun i hi => by
        obtain ⟨b', h'⟩ := hb (i + 1) (by omega)
        exact ⟨b', by simpa using h'⟩)
      simp at h0
      exact ⟨b :: l, by simp [h1], by simp [h0, h2]⟩
set_option maxRecDepth 100000 in
theorem open_arr32 {H : Type} {enc : TypeId × Value → H} {w : World} {sp : Nat → Bool} {held : Bool} {r : Go.Reach} {b0 : Nat} {v : Value} {d : DataW H} {p : List MemPlace}
    (hval : Value.okWide Try.prog w r b0 23 v) (h : DataW.Trod enc Try.prog w 0 sp held 23 v d p) : ∃ l : List UInt8, v = .agg (l.map B8).toArray ∧ l.length = 32 := by
  have hC : Try.prog.cellsOf 23 = 32 := by kernel_rfl
  have hc1 : Try.prog.cellsOf 5 = 1 := by kernel_rfl
  simp only [Value.okWide, Try.underlying23] at hval
  obtain ⟨cs, rfl, hs, _⟩ := hval
  rw [hC] at hs
  obtain ⟨fuel, hf⟩ := h
  have hf' : DataW.trod enc Try.prog w 0 sp held fuel 23 cs.toList = some (d, p) := by simpa [Value.cells] using hf
  cases fuel with
  | zero => simp [DataW.trod] at hf'
  | succ k =>
    unfold DataW.trod at hf'
    rw [Try.underlying23] at hf'
    simp only [hc1, Nat.mul_one] at hf'
    split at hf'
    · rcases hm : (List.range 32).mapM (fun i => DataW.trod enc Try.prog w 0 sp held k 5 (List.take 1 (List.drop i cs.toList))) with _ | ys
      · rw [hm] at hf'; simp at hf'
      · obtain ⟨l, h1, h2⟩ := bytes_of (cs := cs.toList) 32 (by simpa using hs) (fun i hi => by
          obtain ⟨y, hy⟩ := mapM_at hm i i (by simp [hi])
          have hil : i < cs.toList.length := by simpa using (by omega : i < cs.size)
          rw [List.drop_eq_getElem_cons hil, List.take_succ_cons, List.take_zero] at hy
          obtain ⟨z, e0, _, w0⟩ := DataW.trod_int Try.underlying5 hy
          simp at e0
          have hb := bounds_u8 w0
          refine ⟨UInt8.ofNat z.toNat, ?_⟩
          rw [List.getElem?_eq_getElem hil]
          simp only [Array.getElem_toList, e0, B8, UInt8.toNat_ofNat', Option.some.injEq, Value.int.injEq, true_and]
          omega)
        refine ⟨l, ?_, h1⟩
        rw [← h2]
    · cases hf'
end Go.Proofs.Ytabcbpcfleociaa

/- The law ChainForks, walked: the loop. (Printed by gen_frk.py.) -/
namespace Go.Proofs.Ytabcbpcfleociaa
open Go.RowKit
attribute [local go_sem ↓] Go.wp_at_zero Go.wp_at_succ
set_option linter.unusedSimpArgs false
set_option linter.unusedVariables false
/-- What the map of the links that were taken tells at one key. -/
def Held (no : List Nat) (w : World) (S : Bk) (hs : List (List UInt8)) (xa xq : Int) (v : Value) : Prop :=
  ∃ (l : Ln) (A : Option Addr) (n c : Nat) (B : Option Addr) (m d : Nat), v = lnV l A n c B m d ∧ RdN no w 1 A n (l.pv.map B8) ∧ RdN no w 1 B m (l.bd.map B8) ∧ Tk S hs l
theorem Held.fr {no no' own own' : List Nat} {w w' : World} {S S' : Bk} {hs hs' : List (List UInt8)} {xa xq : Int} {v : Value} (h : Held no w S hs xa xq v) (hf : Fr own w w' own') (h1 : ∀ k, k ∈ own → k ∈ no) (h2 : ∀ k, k ∈ no' → k ∈ no ∨ w.heap.size ≤ k) (ht : ∀ l, Tk S hs l → Tk S' hs' l) : Held no' w' S' hs' xa xq v := by
  obtain ⟨l, A, n, c, B, m, d, e, r1, r2, r3⟩ := h
  exact ⟨l, A, n, c, B, m, d, e, r1.fr hf h1 h2, r2.fr hf h1 h2, ht l r3⟩
set_option maxRecDepth 20000 in
set_option maxHeartbeats 16000000 in
theorem chainForks_walk (A : Option Addr) (n c : Nat) (ls : List Dn) (xa xq : Int) (ot : List UInt8) (w : World) (hr : RdD w w.heap.size A n ls) (hc : n ≤ c) (hq : n ≤ 140737488351232 ∧ Reaches w A n) (hxa : (Lit.int .i64 xa).wf = true) (hxq : (Lit.int .i64 xq).wf = true) (hot : ot.length = 32) :
    Calls Try.prog 3 #[.slice A n c, .int .i64 xa, .int .i64 xq, .agg (ot.map B8).toArray] w fun e w' => e = .returned (.bool true) ∧ Below w.heap.size w w' := by
  obtain ⟨W, hW⟩ : ∃ W, Hid (W = w.alloc (.cells (ot.map B8).toArray 23)) := ⟨_, Lib.hid rfl⟩
  obtain ⟨G7, hG7⟩ : ∃ g, Hid (g = w.heap.size) := ⟨_, Lib.hid rfl⟩
  have BW : Hid (Below w.heap.size w W) := by rw [hW.out]; exact (Below.refl _ _).alloc (Nat.le_refl _) _
  have RW : Hid (W.heap[G7]? = some (.cells (ot.map B8).toArray 23 (0, 0))) := by unfold Hid; rw [hW.out, hG7.out]; exact heap_alloc_new _ _
  have HR0 : Hid (RdD W W.heap.size A n ls) := (hr.to BW.out).more BW.out.size
  have HQ : Hid (n ≤ 140737488351232 ∧ Reaches W A n) := ⟨hq.1, hq.2.to hr BW.out⟩
  have HXA := Lib.hid (wf_inI hxa)
  have HXQ := Lib.hid (wf_inI hxq)
  have HOT := Lib.hid hot
  obtain ⟨kl, hkl⟩ := key2 xa xq HXA.out HXQ.out
  have HKL := Lib.hid hkl
  clear hr hq hxa hxq hot hkl
  go_enter Try.func3, Try.ntmps3
  go_wp2_with fail
  rw [← hW.out, ← hG7.out]
  refine (small_ A n c ls W HR0.out HQ.out.1).mono ?_
  rintro e w1 ⟨⟨b, rfl, hb40⟩, b1⟩
  have B1 := Lib.hid b1
  have R17 : Hid (w1.heap[G7]? = some (.cells (ot.map B8).toArray 23 (0, 0))) := (b1.block G7 (lt_of_blk RW.out)).trans RW.out
  clear b1
  have Bw1 : Hid (Below w.heap.size w w1) := BW.out.trans (B1.out.mono BW.out.size)
  rcases b with _ | _
  · clear hb40
    go_wp2_with fail
    refine (awake_ w1).mono ?_
    rintro e w2 ⟨rfl, b2⟩
    have B2 := Lib.hid b2
    clear b2
    go_wp2_with fail
    go_ret
    exact ⟨rfl, Bw1.out.trans (B2.out.mono Bw1.out.size)⟩
  · have HN : Hid (n ≤ 40) := hb40 rfl
    have HR : Hid (RdD w1 w1.heap.size A n ls) := (HR0.out.to B1.out).more B1.out.size
    have HRE : Hid (Reaches w1 A n) := (HQ.out.2).to HR0.out B1.out
    clear hb40
    have hmm := @run_makeMap Try.prog
    go_wp2_with fail
    refine (begun_ [] w1 (fun k hk => absurd hk (by simp))).mono ?_
    rintro e u ⟨p, rfl, hp, bu⟩
    have P0 := Lib.hid hp
    have BU := Lib.hid bu
    clear hp bu
    unfold plV
    go_wp2_with fail
    obtain ⟨GM, hGM⟩ : ∃ g, Hid (g = u.heap.size) := ⟨_, Lib.hid rfl⟩
    have hms : (u.alloc (.map #[] 0)).heap.size = u.heap.size + 1 := szAlloc _ _
    obtain ⟨U, hU⟩ : ∃ U, Hid (U = (u.alloc (.map #[] 0)).alloc (.cells #[.pointer (some ⟨p.gb, 0, none⟩), .pointer (some ⟨p.gi, 0, none⟩), .slice p.A p.n p.c, .slice p.V p.vn p.vc, .int .i64 0] 35)) := ⟨_, Lib.hid rfl⟩
    rw [← hU.out, ← hGM.out]
    have BU1 : Below u.heap.size u U := by rw [hU.out]; exact ((Below.refl _ _).alloc (Nat.le_refl _) _).alloc (by rw [hms]; omega) _
    have RU : Hid (U.heap[GM + 1]? = some (.cells (plC p).toArray 35 (0, 0))) := by unfold Hid; rw [hU.out, hGM.out, ← hms]; exact heap_alloc_new _ _
    have MU : Hid (∃ f, MapO Try.prog 49 U GM 0 f ∧ ∀ v, f kl = some v → Held (p.ob ++ p.oi ++ [GM + 1, GM]) U [] [] xa xq v) := by
      rw [hU.out, hGM.out]
      exact ⟨_, (MapO.made Try.prog 49 u).same (heap_alloc_old _ _ (by rw [hms]; omega)), fun v h => by cases h⟩
    have hUs : Hid (U.heap.size = GM + 2) := by unfold Hid; rw [hU.out, szAlloc, hms, hGM.out]
    have P1 : Hid (Play U w1.heap.size p [] [] [GM + 1, GM]) := P0.out.keep (Fr.below (own := []) BU1) (fun _ h => absurd h (by simp)) (fun k hk => by simp at hk; exact Or.inr (by have := hGM.out; omega)) (fun k hk => by simp at hk; have := hUs.out; omega)
    have BU1w : Hid (Below w1.heap.size w1 U) := BU.out.trans (BU1.mono BU.out.size)
    have hGMw : Hid (w1.heap.size ≤ GM) := by rw [hGM.out]; exact BU.out.size
    clear BU1 hU P0 BU hms hmm
    go_loopw [27] (fun x27 wr => ∃ (i : Nat) (q : Pl) (S : Bk) (hs : List (List UInt8)), x27 = .int .i64 i ∧ i ≤ n ∧ Hid (Play wr w1.heap.size q S hs [GM + 1, GM]) ∧ Hid (Reach i S hs) ∧ Hid (wr.heap[GM + 1]? = some (.cells (plC q).toArray 35 (0, 0))) ∧ Hid (∃ f, MapO Try.prog 49 wr GM i f ∧ ∀ v, f kl = some v → Held (q.ob ++ q.oi ++ [GM + 1, GM]) wr S hs xa xq v) ∧ Hid (Below w1.heap.size w1 wr)) (fun x27 _ => n - (intOf x27).toNat)
    case atStart => exact ⟨0, p, [], [], rfl, by omega, P1, Reach.nil, RU, MU, BU1w⟩
    case round =>
      obtain ⟨i, q, S, hs, rfl, hi, HP, HRe, R9, HM, hb⟩ := hrel
      by_cases hin : i < n
      · have hin' : (i : Int) < (n : Int) := by omega
        have hi0 : (0 : Int) ≤ (i : Int) := by omega
        have e8 : IntKind.i64.wrap ((i : Int) + 1) = ((i + 1 : Nat) : Int) := by have := HN.out; rw [IntWalk.i64_in _ (by omega)]; omega
        obtain ⟨x, hx⟩ : ∃ x, ls[i]? = some x := ⟨_, List.getElem?_eq_getElem (by rw [HR.out.1]; exact hin)⟩
        obtain ⟨b, o, Ap, np, cp, Ab, nb, cb, rfl, hB, hrg, hia, _, _, rp, _, rb, _⟩ := HR.out.2 i x hx
        have hww : ∀ j v, (lnC x.l Ap np cp Ab nb cb ++ [Value.bool x.nx])[j]? = some v → wr.cell? ⟨b, o + i * 6 + j, none⟩ = some v := fun j v hj => (World.cell?_of_block (a := ⟨b, o + i * 6 + j, none⟩) (hb.out.block b hB)).trans (hrg j v hj)
        have hle := Lib.hid (HRE.out i b o Ap np cp Ab nb cb hin rfl (hrg 3 _ rfl) (hrg 4 _ rfl))
        have HIA := Lib.hid hia
        have c0 : wr.cell? ⟨b, o + i * 6, none⟩ = some (.int .i64 x.l.au) := hww 0 _ rfl
        have c1 : wr.cell? ⟨b, o + i * 6 + 1, none⟩ = some (.int .i64 x.l.sq) := hww 1 _ rfl
        have c2 : wr.cell? ⟨b, o + i * 6 + 2, none⟩ = some (.int .i64 x.l.ep) := hww 2 _ rfl
        have c3 : wr.cell? ⟨b, o + i * 6 + 3, none⟩ = some (.slice Ap np cp) := hww 3 _ rfl
        have c4 : wr.cell? ⟨b, o + i * 6 + 4, none⟩ = some (.slice Ab nb cb) := hww 4 _ rfl
        have c5 : wr.cell? ⟨b, o + i * 6 + 5, none⟩ = some (.bool x.nx) := hww 5 _ rfl
        have RP := Lib.hid rp
        have RB := Lib.hid rb
        clear hx hB hrg rp rb hww hia
        obtain ⟨V, hV⟩ : ∃ V, Hid (V = wr.alloc (.cells #[.int .i64 x.l.au, .int .i64 x.l.sq, .int .i64 x.l.ep, .slice Ap np cp, .slice Ab nb cb, .bool x.nx] 42)) := ⟨_, Lib.hid rfl⟩
        obtain ⟨G12, hG12⟩ : ∃ g, Hid (g = wr.heap.size) := ⟨_, Lib.hid rfl⟩
        have BV : Hid (Below wr.heap.size wr V) := by rw [hV.out]; exact (Below.refl _ _).alloc (Nat.le_refl _) _
        have V9 : Hid (V.heap[GM + 1]? = some (.cells (plC q).toArray 35 (0, 0))) := (BV.out.block (GM + 1) (lt_of_blk R9.out)).trans R9.out
        have V12 : Hid (V.heap[G12]? = some (.cells #[.int .i64 x.l.au, .int .i64 x.l.sq, .int .i64 x.l.ep, .slice Ap np cp, .slice Ab nb cb, .bool x.nx] 42 (0, 0))) := by unfold Hid; rw [hV.out, hG12.out]; exact heap_alloc_new _ _
        have d0 : V.cell? ⟨GM + 1, 0, none⟩ = some (.pointer (some ⟨q.gb, 0, none⟩)) := cell_blk V9.out 0 rfl
        have d1 : V.cell? ⟨GM + 1, 1, none⟩ = some (.pointer (some ⟨q.gi, 0, none⟩)) := cell_blk V9.out 1 rfl
        have d2 : V.cell? ⟨GM + 1, 2, none⟩ = some (.slice q.A q.n q.c) := cell_blk V9.out 2 rfl
        have d3 : V.cell? ⟨GM + 1, 3, none⟩ = some (.slice q.V q.vn q.vc) := cell_blk V9.out 3 rfl
        have d4 : V.cell? ⟨GM + 1, 4, none⟩ = some (.int .i64 0) := cell_blk V9.out 4 rfl
        rw [hV.out] at d0 d1 d2 d3 d4
        go_wp2_with fail
        clear c0 c1 c2 c3 c4 c5 d0 d1 d2 d3 d4
        rw [← hV.out, ← hG12.out]
        have HPV : Hid (Play V w1.heap.size q S hs [G12, GM + 1, GM]) := HP.out.keep (Fr.below (own := []) BV.out) (fun _ h => absurd h (by simp)) (fun k hk => by simp at hk; rcases hk with h | h | h; exact Or.inr (by rw [h, hG12.out]; exact Nat.le_refl _); exact Or.inl (by simp [h]); exact Or.inl (by simp [h])) (fun k hk => by simp at hk; rcases hk with h | h | h; rw [h]; exact lt_of_blk V12.out; rw [h]; exact lt_of_blk V9.out; rw [h]; exact Nat.lt_of_succ_lt (lt_of_blk V9.out))
        have hlow : Hid (∀ k, k ∈ q.ob ++ q.oi ++ [G12, GM + 1, GM] → w1.heap.size ≤ k) := fun k hk => by
          have h9 := hGMw.out
          rcases List.mem_append.1 hk with h | h
          · exact HPV.out.lo k h
          · simp at h; rcases h with h | h | h
            · rw [h, hG12.out]; exact hb.out.size
            · omega
            · omega
        have BwV : Hid (Below w1.heap.size w1 V) := hb.out.trans (BV.out.mono hb.out.size)
        have hqn : Hid (q.n ≤ 1000) := by have h1 := HPV.out.rk.len; have h2 := HRe.out.len; have h3 := HN.out; unfold Hid; omega
        refine (link_ q S x.l x.nx Ap np cp Ab nb cb _ V HPV.out.rk HRe.out.ok ((RP.out.below BwV.out).lowN BwV.out.size hlow.out) ((RB.out.below BwV.out).lowN BwV.out.size hlow.out) (by have := hqn.out; omega) hle.out.1 hle.out.2 HPV.out.lt).mono ?_
        rintro e v ⟨A1, n1, c1, A2, c2, rfl, hn1, hn2, hr1, hr2, bv⟩
        obtain ⟨l2, hl2⟩ : ∃ l, Hid (linkL S x.l x.nx = l) := ⟨_, Lib.hid rfl⟩
        rw [hl2.out] at hr1 hr2
        rw [hl2.out]
        have hl2a : Hid (l2.au = x.l.au) := by rw [← hl2.out]; exact linkL_au _ _ _
        unfold lnV
        obtain ⟨Y, hY⟩ : ∃ Y, Hid (Y = v.alloc (.cells #[.int .i64 l2.au, .int .i64 l2.sq, .int .i64 l2.ep, .slice A1 n1 c1, .slice A2 nb c2] 40)) := ⟨_, Lib.hid rfl⟩
        obtain ⟨G13, hG13⟩ : ∃ g, Hid (g = v.heap.size) := ⟨_, Lib.hid rfl⟩
        have bvY : Below v.heap.size v Y := by rw [hY.out]; exact (Below.refl _ _).alloc (Nat.le_refl _) _
        have BVY : Hid (Below V.heap.size V Y) := bv.trans (bvY.mono bv.size)
        have hG13n : Hid (G13 ≠ GM + 1) := by have h1 := lt_of_blk V9.out; have h2 := hG13.out; have h3 := bv.size; unfold Hid; omega
        have hvs : Hid (V.heap.size ≤ v.heap.size) := bv.size
        have Y9 : Hid (Y.heap[GM + 1]? = some (.cells (plC q).toArray 35 (0, 0))) := (BVY.out.block (GM + 1) (lt_of_blk V9.out)).trans V9.out
        have Y12 : Hid (Y.heap[G12]? = some (.cells #[.int .i64 x.l.au, .int .i64 x.l.sq, .int .i64 x.l.ep, .slice Ap np cp, .slice Ab nb cb, .bool x.nx] 42 (0, 0))) := (BVY.out.block G12 (lt_of_blk V12.out)).trans V12.out
        have Y13 : Hid (Y.heap[G13]? = some (.cells #[.int .i64 l2.au, .int .i64 l2.sq, .int .i64 l2.ep, .slice A1 n1 c1, .slice A2 nb c2] 40 (0, 0))) := by unfold Hid; rw [hY.out, hG13.out]; exact heap_alloc_new _ _
        have HPY : Hid (Play Y w1.heap.size q S hs [G13, G12, GM + 1, GM]) := (HPV.out.below bv).keep (Fr.below (own := []) bvY) (fun _ h => absurd h (by simp)) (fun k hk => by rcases List.mem_cons.1 hk with h | h; exact Or.inr (by rw [h, hG13.out]; exact Nat.le_refl _); exact Or.inl h) (fun k hk => by rcases List.mem_cons.1 hk with h | h; rw [h]; exact lt_of_blk Y13.out; exact Nat.lt_of_lt_of_le (HPV.out.pr.xl k h) BVY.out.size)
        have up : ∀ k, k ∈ q.ob ++ q.oi ++ [G13, G12, GM + 1, GM] → k ∈ q.ob ++ q.oi ++ [G12, GM + 1, GM] ∨ v.heap.size ≤ k := fun k hk => by
          rcases List.mem_append.1 hk with h | h
          · exact Or.inl (List.mem_append.2 (Or.inl h))
          · rcases List.mem_cons.1 h with h | h
            · exact Or.inr (by rw [h, hG13.out]; exact Nat.le_refl _)
            · exact Or.inl (List.mem_append.2 (Or.inr h))
        have HR1 := Lib.hid (hr1.fr (own := []) (own' := []) (Fr.below bvY) (fun _ h => absurd h (by simp)) up)
        have HR2 := Lib.hid (hr2.fr (own := []) (own' := []) (Fr.below bvY) (fun _ h => absurd h (by simp)) up)
        have BwY : Hid (Below w1.heap.size w1 Y) := BwV.out.trans (BVY.out.mono BwV.out.size)
        have BrY : Hid (Below wr.heap.size wr Y) := BV.out.trans (BVY.out.mono BV.out.size)
        have d0 : Y.cell? ⟨GM + 1, 0, none⟩ = some (.pointer (some ⟨q.gb, 0, none⟩)) := cell_blk Y9.out 0 rfl
        have d1 : Y.cell? ⟨G13, 0, none⟩ = some (.int .i64 l2.au) := cell_blk Y13.out 0 rfl
        rw [hY.out] at d0
        clear bv bvY hr1 hr2 up
        go_wp2_with fail
        rw [← hY.out, ← hG13.out]
        clear d0 d1
        refine (head_any q.gb S q.ob _ l2.au Y HPY.out.pr.bk).mono ?_
        rintro e v3 ⟨Ha, hm, hcc, rfl, hd1, b3⟩
        obtain ⟨L, hL⟩ : ∃ L, Hid ((ofA S l2.au).length = L) := ⟨_, Lib.hid rfl⟩
        rw [hL.out]
        have hfd := field_sq (.int .i64 (hau l2.au)) (L : Int) (.slice Ha hm hcc) v3
        have P3 := Lib.hid (HPY.out.below b3)
        have Z9 : Hid (v3.heap[GM + 1]? = some (.cells (plC q).toArray 35 (0, 0))) := (b3.block (GM + 1) (lt_of_blk Y9.out)).trans Y9.out
        have Z12 : Hid (v3.heap[G12]? = some (.cells #[.int .i64 x.l.au, .int .i64 x.l.sq, .int .i64 x.l.ep, .slice Ap np cp, .slice Ab nb cb, .bool x.nx] 42 (0, 0))) := (b3.block G12 (lt_of_blk Y12.out)).trans Y12.out
        have Z13 : Hid (v3.heap[G13]? = some (.cells #[.int .i64 l2.au, .int .i64 l2.sq, .int .i64 l2.ep, .slice A1 n1 c1, .slice A2 nb c2] 40 (0, 0))) := (b3.block G13 (lt_of_blk Y13.out)).trans Y13.out
        have HR13 := Lib.hid (HR1.out.fr (own := []) (own' := []) (Fr.below b3) (fun _ h => absurd h (by simp)) (fun _ h => Or.inl h))
        have HR23 := Lib.hid (HR2.out.fr (own := []) (own' := []) (Fr.below b3) (fun _ h => absurd h (by simp)) (fun _ h => Or.inl h))
        have Bw3 : Hid (Below w1.heap.size w1 v3) := BwY.out.trans (b3.mono BwY.out.size)
        have Br3 : Hid (Below wr.heap.size wr v3) := BrY.out.trans (b3.mono BrY.out.size)
        have hlow3 : Hid (∀ k, k ∈ q.ob ++ q.oi ++ [G13, G12, GM + 1, GM] → w1.heap.size ≤ k) := fun k hk => by
          rcases List.mem_append.1 hk with h | h
          · exact P3.out.lo k h
          · rcases List.mem_cons.1 h with h | h
            · rw [h, hG13.out]; exact Nat.le_trans BwV.out.size hvs.out
            · exact hlow.out k (List.mem_append.2 (Or.inr h))
        have d0 : v3.cell? ⟨GM + 1, 0, none⟩ = some (.pointer (some ⟨q.gb, 0, none⟩)) := cell_blk Z9.out 0 rfl
        have d1 : v3.cell? ⟨GM + 1, 1, none⟩ = some (.pointer (some ⟨q.gi, 0, none⟩)) := cell_blk Z9.out 1 rfl
        have d2 : v3.cell? ⟨GM + 1, 2, none⟩ = some (.slice q.A q.n q.c) := cell_blk Z9.out 2 rfl
        have d3 : v3.cell? ⟨GM + 1, 3, none⟩ = some (.slice q.V q.vn q.vc) := cell_blk Z9.out 3 rfl
        have d4 : v3.cell? ⟨GM + 1, 4, none⟩ = some (.int .i64 0) := cell_blk Z9.out 4 rfl
        have f0 : v3.cell? ⟨G12, 0, none⟩ = some (.int .i64 x.l.au) := cell_blk Z12.out 0 rfl
        have f1 : v3.cell? ⟨G12, 1, none⟩ = some (.int .i64 x.l.sq) := cell_blk Z12.out 1 rfl
        have f2 : v3.cell? ⟨G12, 2, none⟩ = some (.int .i64 x.l.ep) := cell_blk Z12.out 2 rfl
        have f3 : v3.cell? ⟨G12, 3, none⟩ = some (.slice Ap np cp) := cell_blk Z12.out 3 rfl
        have f4 : v3.cell? ⟨G12, 4, none⟩ = some (.slice Ab nb cb) := cell_blk Z12.out 4 rfl
        have f5 : v3.cell? ⟨G12, 5, none⟩ = some (.bool x.nx) := cell_blk Z12.out 5 rfl
        clear b3 hd1
        go_wp2_with fail
        clear hfd
        clear d0 d1 d2 d3 d4 f0 f1 f2 f3 f4 f5
        refine (does_ w1.heap.size q S hs [G13, G12, GM + 1, GM] x.l x.nx Ap np cp Ab nb cb v3 P3.out HRe.out.ok P3.out.base ((RP.out.below Bw3.out).lowN Bw3.out.size hlow3.out) ((RB.out.below Bw3.out).lowN Bw3.out.size hlow3.out) (by have := hqn.out; omega) (by have h1 := P3.out.vt.len; have h2 := HRe.out.len; have h3 := HN.out; omega) hle.out.1 hle.out.2).mono ?_
        rintro e v4 ⟨q', rfl, hp', hgb, hgi, hf'⟩
        clear hgb hgi
        rw [hl2.out] at hp'
        have HP' := Lib.hid hp'
        have F' := Lib.hid hf'
        have X9 : Hid (v4.heap[GM + 1]? = some (.cells (plC q).toArray 35 (0, 0))) := (hf'.block (GM + 1) (lt_of_blk Z9.out) (P3.out.out (by simp))).trans Z9.out
        have X13 : Hid (v4.heap[G13]? = some (.cells #[.int .i64 l2.au, .int .i64 l2.sq, .int .i64 l2.ep, .slice A1 n1 c1, .slice A2 nb c2] 40 (0, 0))) := (hf'.block G13 (lt_of_blk Z13.out) (P3.out.out (by simp))).trans Z13.out
        have sub4 : ∀ k, k ∈ q'.ob ++ q'.oi ++ [G13, G12, GM + 1, GM] → k ∈ q.ob ++ q.oi ++ [G13, G12, GM + 1, GM] ∨ v3.heap.size ≤ k := fun k hk => by
          rcases List.mem_append.1 hk with h | h
          · exact (hf'.sub k h).imp (fun h1 => List.mem_append.2 (Or.inl h1)) id
          · exact Or.inl (List.mem_append.2 (Or.inr h))
        have HR14 := Lib.hid (HR13.out.fr hf' (fun k hk => List.mem_append.2 (Or.inl hk)) sub4)
        have HR24 := Lib.hid (HR23.out.fr hf' (fun k hk => List.mem_append.2 (Or.inl hk)) sub4)
        have subM : ∀ k, k ∈ q'.ob ++ q'.oi ++ [GM + 1, GM] → k ∈ q.ob ++ q.oi ++ [GM + 1, GM] ∨ v3.heap.size ≤ k := fun k hk => by
          rcases List.mem_append.1 hk with h | h
          · exact (hf'.sub k h).imp (fun h1 => List.mem_append.2 (Or.inl h1)) id
          · exact Or.inl (List.mem_append.2 (Or.inr h))
        have HM4 : Hid (∃ f, MapO Try.prog 49 v4 GM i f ∧ ∀ v, f kl = some v → Held (q'.ob ++ q'.oi ++ [GM + 1, GM]) v4 (takeS S (checkH S hs l2) l2) (takeH S (checkH S hs l2) l2) xa xq v) := by
          obtain ⟨f, h1, h2⟩ := HM.out
          refine ⟨f, (h1.same (Br3.out.block GM h1.lt)).same (hf'.block GM (Nat.lt_of_lt_of_le h1.lt Br3.out.size) (P3.out.out (by simp))), fun v hv => ?_⟩
          exact ((h2 v hv).fr (own := []) (own' := []) (no' := q.ob ++ q.oi ++ [GM + 1, GM]) (Fr.below Br3.out) (fun _ h => absurd h (by simp)) (fun _ h => Or.inl h) (fun l h => h)).fr hf' (fun k hk => List.mem_append.2 (Or.inl hk)) subM (fun l h => h.step l2)
        have Bw4 : Hid (Below w1.heap.size w1 v4) := Bw3.out.trans (hf'.toBelow (fun k hk => P3.out.lo k hk) Bw3.out.size)
        clear hp' hf' sub4 subM
        unfold plV
        have y4 := X9.out
        go_wp2_with (refine wpList_store_row rfl 35 (.tmp 9) (.tmp 44) rfl (GM + 1) (plC q').toArray rfl (by first | rfl | kernel_rfl) _ _ y4 (by kernel_rfl) rfl (by kernel_rfl) ?_
                     have zz0 : (v4.setRow (GM + 1) (plC q').toArray).cell? ⟨GM + 1, 0, none⟩ = some (.pointer (some ⟨q'.gb, 0, none⟩)) := cell_blk (setRow_heap _ _ _ _ _ _ y4) 0 rfl
                     have zz1 : (v4.setRow (GM + 1) (plC q').toArray).cell? ⟨G13, 0, none⟩ = some (.int .i64 l2.au) := (cell_setRow_other _ _ _ _ hG13n.out).trans (cell_blk X13.out 0 rfl))
        clear zz0 zz1
        obtain ⟨S', hS'⟩ : ∃ S', Hid (takeS S (checkH S hs l2) l2 = S') := ⟨_, Lib.hid rfl⟩
        obtain ⟨hs', hhs'⟩ : ∃ hs', Hid (takeH S (checkH S hs l2) l2 = hs') := ⟨_, Lib.hid rfl⟩
        have HRe' : Hid (Reach (i + 1) S' hs') := by rw [← hS'.out, ← hhs'.out]; exact HRe.out.step _
        have hgr : Hid (L < (ofA S' l2.au).length ↔ checkE S (checkH S hs l2) l2 = 0) := by rw [← hL.out, ← hS'.out]; exact grows_iff
        rw [hS'.out, hhs'.out] at HP' HM4
        obtain ⟨Z, hZ⟩ : ∃ Z, Hid (Z = v4.setRow (GM + 1) (plC q').toArray) := ⟨_, Lib.hid rfl⟩
        rw [← hZ.out]
        have FZ : Hid (Fr [GM + 1] v4 Z [GM + 1]) := by rw [hZ.out]; exact setRow_fr _ _ _
        have z9 : Hid (Z.heap[GM + 1]? = some (.cells (plC q').toArray 35 (0, 0))) := by unfold Hid; rw [hZ.out]; exact setRow_heap _ _ _ _ _ _ X9.out
        have z13 : Hid (Z.heap[G13]? = some (.cells #[.int .i64 l2.au, .int .i64 l2.sq, .int .i64 l2.ep, .slice A1 n1 c1, .slice A2 nb c2] 40 (0, 0))) := (FZ.out.block G13 (lt_of_blk X13.out) (by have := hG13n.out; simp [this])).trans X13.out
        have PZ : Hid (Play Z w1.heap.size q' S' hs' [GM + 1, GM]) := HP'.out.keep FZ.out (fun k hk => by simp at hk; simp [hk]) (fun k hk => Or.inl (by simp at hk; rcases hk with h | h <;> simp [h])) (fun k hk => Nat.lt_of_lt_of_le (HP'.out.pr.xl k (by simp at hk; rcases hk with h | h <;> simp [h])) FZ.out.size)
        have sZ : ∀ k, k ∈ [GM + 1] → k ∈ q'.ob ++ q'.oi ++ [G13, G12, GM + 1, GM] := fun k hk => by simp at hk; simp [hk]
        have tZ : ∀ k, k ∈ q'.ob ++ q'.oi ++ [GM + 1, GM] → k ∈ q'.ob ++ q'.oi ++ [G13, G12, GM + 1, GM] ∨ v4.heap.size ≤ k := fun k hk => Or.inl (by
          rcases List.mem_append.1 hk with h | h
          · exact List.mem_append.2 (Or.inl h)
          · exact List.mem_append.2 (Or.inr (by simp at h; rcases h with h | h <;> simp [h])))
        have HR1Z := Lib.hid (HR14.out.fr FZ.out sZ tZ)
        have HR2Z := Lib.hid (HR24.out.fr FZ.out sZ tZ)
        have HMZ : Hid (∃ f, MapO Try.prog 49 Z GM i f ∧ ∀ v, f kl = some v → Held (q'.ob ++ q'.oi ++ [GM + 1, GM]) Z S' hs' xa xq v) := by
          obtain ⟨f, h1, h2⟩ := HM4.out
          exact ⟨f, h1.same (FZ.out.block GM h1.lt (by simp)), fun v hv => (h2 v hv).fr FZ.out (fun k hk => by simp at hk; simp [hk]) (fun _ h => Or.inl h) (fun l h => h)⟩
        have BwZ : Hid (Below w1.heap.size w1 Z) := Bw4.out.trans (FZ.out.toBelow (fun k hk => by simp at hk; have := hGMw.out; omega) Bw4.out.size)
        clear sZ tZ
        refine (head_any q'.gb S' q'.ob _ l2.au Z PZ.out.pr.bk).mono ?_
        rintro e v6 ⟨Ha2, hm2, hcc2, rfl, hd2, b6⟩
        obtain ⟨L', hL'⟩ : ∃ L, Hid ((ofA S' l2.au).length = L) := ⟨_, Lib.hid rfl⟩
        rw [hL'.out] at hgr
        rw [hL'.out]
        have hfd := field_sq (.int .i64 (hau l2.au)) (L' : Int) (.slice Ha2 hm2 hcc2) v6
        have P6 := Lib.hid (PZ.out.below b6)
        have y9 : Hid (v6.heap[GM + 1]? = some (.cells (plC q').toArray 35 (0, 0))) := (b6.block (GM + 1) (lt_of_blk z9.out)).trans z9.out
        have y13 : Hid (v6.heap[G13]? = some (.cells #[.int .i64 l2.au, .int .i64 l2.sq, .int .i64 l2.ep, .slice A1 n1 c1, .slice A2 nb c2] 40 (0, 0))) := (b6.block G13 (lt_of_blk z13.out)).trans z13.out
        have HR16 := Lib.hid (HR1Z.out.fr (own := []) (own' := []) (Fr.below b6) (fun _ h => absurd h (by simp)) (fun _ h => Or.inl h))
        have HR26 := Lib.hid (HR2Z.out.fr (own := []) (own' := []) (Fr.below b6) (fun _ h => absurd h (by simp)) (fun _ h => Or.inl h))
        have HM6 : Hid (∃ f, MapO Try.prog 49 v6 GM i f ∧ ∀ v, f kl = some v → Held (q'.ob ++ q'.oi ++ [GM + 1, GM]) v6 S' hs' xa xq v) := by
          obtain ⟨f, h1, h2⟩ := HMZ.out
          exact ⟨f, h1.same (b6.block GM h1.lt), fun v hv => (h2 v hv).fr (own := []) (own' := []) (Fr.below b6) (fun _ h => absurd h (by simp)) (fun _ h => Or.inl h) (fun l h => h)⟩
        have Bw6 : Hid (Below w1.heap.size w1 v6) := BwZ.out.trans (b6.mono BwZ.out.size)
        clear b6 hd2
        by_cases htk : L < L'
        · have htk' : (L : Int) < (L' : Int) := by omega
          have hE := Lib.hid (hgr.out.1 htk)
          have hLb : Hid (L ≤ 1000) := by have h1 := ofA_len S l2.au; have h2 := HRe.out.len; have h3 := HN.out; have h4 := hL.out; unfold Hid; omega
          have hw1 : IntKind.i64.wrap ((L : Int) + 1) = (L : Int) + 1 := by have := hLb.out; rw [IntWalk.i64_in _ (by omega)]
          have hl2i : Hid (inI l2.au) := by rw [hl2a.out]; exact HIA.out
          obtain ⟨kl2, hkl2⟩ := key2 l2.au ((L : Int) + 1) hl2i.out ⟨by omega, by have := hLb.out; omega⟩
          have HKL2 := Lib.hid hkl2
          clear hkl2
          have g0 : v6.cell? ⟨G13, 0, none⟩ = some (.int .i64 l2.au) := cell_blk y13.out 0 rfl
          have g1 : v6.cell? ⟨G13, 1, none⟩ = some (.int .i64 l2.sq) := cell_blk y13.out 1 rfl
          have g2 : v6.cell? ⟨G13, 2, none⟩ = some (.int .i64 l2.ep) := cell_blk y13.out 2 rfl
          have g3 : v6.cell? ⟨G13, 3, none⟩ = some (.slice A1 n1 c1) := cell_blk y13.out 3 rfl
          have g4 : v6.cell? ⟨G13, 4, none⟩ = some (.slice A2 nb c2) := cell_blk y13.out 4 rfl
          obtain ⟨f, hf1, hf2⟩ := HM6.out
          have HF1 := Lib.hid hf1
          have HF2 := Lib.hid hf2
          clear hf1 hf2
          go_wp2_with (refine wpList_updO rfl (.tmp 54) (.tmp 59) (.tmp 60) 37 rfl 49 40 keyed2 Try.underlying37 GM i f rfl HF1.out (by have := HN.out; simp only [maxLen]; omega) (pairV l2.au ((L : Int) + 1)) (lnV l2 A1 n1 c1 A2 nb c2) kl2 rfl rfl HKL2.out ?_
                       intro w7 mK gK
                       have MK := Lib.hid mK
                       have F7 : Hid (Fr [GM] v6 w7 [GM]) := Fr.grown gK (fun r e => Or.inl (by injection e with e; simp [e])) (fun k hk => Or.inl hk)
                       clear mK gK)
          have P7 : Hid (Play w7 w1.heap.size q' S' hs' [GM + 1, GM]) := P6.out.keep F7.out (fun k hk => by simp at hk; simp [hk]) (fun k hk => Or.inl hk) (fun k hk => Nat.lt_of_lt_of_le (P6.out.pr.xl k hk) F7.out.size)
          have x9 : Hid (w7.heap[GM + 1]? = some (.cells (plC q').toArray 35 (0, 0))) := (F7.out.block (GM + 1) (lt_of_blk y9.out) (by simp)).trans y9.out
          have s7 : ∀ k, k ∈ [GM] → k ∈ q'.ob ++ q'.oi ++ [GM + 1, GM] := fun k hk => by simp at hk; simp [hk]
          have HM7 : Hid (∃ f, MapO Try.prog 49 w7 GM (i + 1) f ∧ ∀ v, f kl = some v → Held (q'.ob ++ q'.oi ++ [GM + 1, GM]) w7 S' hs' xa xq v) := by
            refine ⟨_, MK.out, fun v hv => ?_⟩
            by_cases hk : kl = kl2
            · subst hk
              rw [updO_same] at hv
              injection hv with hv
              subst hv
              refine ⟨l2, A1, n1, c1, A2, nb, c2, rfl, HR16.out.fr F7.out s7 (fun _ h => Or.inl h), HR26.out.fr F7.out s7 (fun _ h => Or.inl h), ?_⟩
              rw [← hS'.out, ← hhs'.out]
              exact Tk.new hE.out
            · rw [updO_other _ _ hk] at hv
              exact (HF2.out v hv).fr F7.out s7 (fun _ h => Or.inl h) (fun l h => h)
          have Bw7 : Hid (Below w1.heap.size w1 w7) := Bw6.out.trans (F7.out.toBelow (fun k hk => by simp at hk; rw [hk]; exact hGMw.out) Bw6.out.size)
          go_wp2_with fail
          go_roundw
          case rel => exact ⟨i + 1, q', S', hs', by go_num, hin, P7, HRe', x9, HM7, Bw7⟩
          case measure => simp only [intOf]; omega
        · have htk' : ¬ (L : Int) < (L' : Int) := by omega
          have HM7 : Hid (∃ f, MapO Try.prog 49 v6 GM (i + 1) f ∧ ∀ v, f kl = some v → Held (q'.ob ++ q'.oi ++ [GM + 1, GM]) v6 S' hs' xa xq v) := by
            obtain ⟨f, h1, h2⟩ := HM6.out
            exact ⟨f, h1.mono (Nat.le_succ _), h2⟩
          go_wp2_with fail
          go_roundw
          case rel => exact ⟨i + 1, q', S', hs', by go_num, hin, P6, HRe', y9, HM7, Bw6⟩
          case measure => simp only [intOf]; omega
      · have hiS : Hid (i = n) := (by omega : i = n)
        have hin' : ¬ (i : Int) < (n : Int) := by omega
        obtain ⟨f, hf1, hf2⟩ := HM.out
        have HF1 := Lib.hid hf1
        have HF2 := Lib.hid hf2
        have hG7w : Hid (G7 < w1.heap.size) := lt_of_blk R17.out
        clear hf1 hf2
        rcases hfk : f kl with _ | v
        · have hz : ∀ w', (zeroValue 40).run Try.prog w' = .ok (.agg #[.int .i64 0, .int .i64 0, .int .i64 0, .slice none 0 0, .slice none 0 0]) w' := fun w' => by kernel_rfl
          have BX := Lib.hid (hb.out.alloc hb.out.size (.cells #[.int .i64 0, .int .i64 0, .int .i64 0, .slice none 0 0, .slice none 0 0] 40))
          go_wp2_with (refine wpList_lookO rfl (.tmp 63) (.tmp 66) 37 rfl 49 40 keyed2 Try.underlying37 _ (hz _) GM i f rfl HF1.out (pairV xa xq) kl rfl HKL.out ?_
                       rw [hfk]
                       simp only [Option.getD_none, Option.isSome_none])
          refine (awake_ _).mono ?_
          rintro e w2 ⟨rfl, b2⟩
          have B2 := Lib.hid (BX.out.trans (b2.mono BX.out.size))
          clear b2
          go_wp2_with fail
          go_ret
          exact ⟨rfl, Bw1.out.trans (B2.out.mono Bw1.out.size)⟩
        · obtain ⟨x, xA, xn, xc, xB, xm, xd, rfl, rx1, rx2, htk⟩ := HF2.out v hfk
          have hz : ∀ w', (zeroValue 40).run Try.prog w' = .ok (.agg #[.int .i64 0, .int .i64 0, .int .i64 0, .slice none 0 0, .slice none 0 0]) w' := fun w' => by kernel_rfl
          have HX1 := Lib.hid rx1
          have HX2 := Lib.hid rx2
          have HTK := Lib.hid htk
          clear rx1 rx2 htk
          go_wp2_with (refine wpList_lookO rfl (.tmp 63) (.tmp 66) 37 rfl 49 40 keyed2 Try.underlying37 _ (hz _) GM i f rfl HF1.out (pairV xa xq) kl rfl HKL.out ?_
                       rw [hfk]
                       simp only [Option.getD_some, Option.isSome_some]
                       unfold lnV)
          obtain ⟨D, hD⟩ : ∃ D, Hid (D = (wr.alloc (.cells #[.int .i64 x.au, .int .i64 x.sq, .int .i64 x.ep, .slice xA xn xc, .slice xB xm xd] 40)).alloc (.cells #[.int .i64 x.au, .int .i64 x.sq, .int .i64 x.ep, .slice xA xn xc, .slice (some ⟨G7, 0, none⟩) 32 32] 40)) := ⟨_, Lib.hid rfl⟩
          obtain ⟨G15, hG15⟩ : ∃ g, Hid (g = wr.heap.size) := ⟨_, Lib.hid rfl⟩
          obtain ⟨G17, hG17⟩ : ∃ g, Hid (g = wr.heap.size + 1) := ⟨_, Lib.hid rfl⟩
          have hds : (wr.alloc (.cells #[.int .i64 x.au, .int .i64 x.sq, .int .i64 x.ep, .slice xA xn xc, .slice xB xm xd] 40)).heap.size = wr.heap.size + 1 := szAlloc _ _
          rw [← hD.out, ← hG15.out]
          rw [show G15 + 1 = G17 from by rw [hG17.out, hG15.out]]
          obtain ⟨X, hX⟩ : ∃ W, Hid (W = D.drew) := ⟨_, Lib.hid rfl⟩
          have bD : Below wr.heap.size wr D := by rw [hD.out]; exact ((Below.refl _ _).alloc (Nat.le_refl _) _).alloc (by rw [hds]; omega) _
          have dX : Below D.heap.size D X := by rw [hX.out]; exact below_drew (Below.refl _ _)
          have BrX : Hid (Below wr.heap.size wr X) := bD.trans (dX.mono bD.size)
          have Da : D.heap[G15]? = some (.cells #[.int .i64 x.au, .int .i64 x.sq, .int .i64 x.ep, .slice xA xn xc, .slice xB xm xd] 40 (0, 0)) := by rw [hD.out, hG15.out]; exact (heap_alloc_old _ _ (by rw [hds]; omega)).trans (heap_alloc_new _ _)
          have Db : D.heap[G17]? = some (.cells #[.int .i64 x.au, .int .i64 x.sq, .int .i64 x.ep, .slice xA xn xc, .slice (some ⟨G7, 0, none⟩) 32 32] 40 (0, 0)) := by rw [hD.out, hG17.out, ← hds]; exact heap_alloc_new _ _
          have Xa : Hid (X.heap[G15]? = some (.cells #[.int .i64 x.au, .int .i64 x.sq, .int .i64 x.ep, .slice xA xn xc, .slice xB xm xd] 40 (0, 0))) := (dX.block G15 (lt_of_blk Da)).trans Da
          have Xb : Hid (X.heap[G17]? = some (.cells #[.int .i64 x.au, .int .i64 x.sq, .int .i64 x.ep, .slice xA xn xc, .slice (some ⟨G7, 0, none⟩) 32 32] 40 (0, 0))) := (dX.block G17 (lt_of_blk Db)).trans Db
          have X9 : Hid (X.heap[GM + 1]? = some (.cells (plC q).toArray 35 (0, 0))) := (BrX.out.block (GM + 1) (lt_of_blk R9.out)).trans R9.out
          have hGs : Hid (GM + 1 < wr.heap.size) := lt_of_blk R9.out
          have PX : Hid (Play X w1.heap.size q S hs [G17, G15, GM + 1]) := HP.out.keep (Fr.below (own := []) BrX.out) (fun _ h => absurd h (by simp)) (fun k hk => by simp at hk; rcases hk with h | h | h; exact Or.inr (by have := hG17.out; omega); exact Or.inr (by have := hG15.out; omega); exact Or.inl (by simp [h])) (fun k hk => by simp at hk; rcases hk with h | h | h; rw [h]; exact lt_of_blk Xb.out; rw [h]; exact lt_of_blk Xa.out; rw [h]; exact lt_of_blk X9.out)
          have Bw1X : Hid (Below w1.heap.size w1 X) := hb.out.trans (BrX.out.mono hb.out.size)
          have RO : Hid (Rd w1 w1.heap.size 1 (some ⟨G7, 0, none⟩) 32 (ot.map B8)) := ⟨by simp [HOT.out], fun _ => ⟨G7, 0, rfl, hG7w.out, fun j u hj => cell_blk R17.out (0 + j) (by simpa using hj)⟩⟩
          have hup : ∀ k, k ∈ q.ob ++ q.oi ++ [G17, G15, GM + 1] → k ∈ q.ob ++ q.oi ++ [GM + 1, GM] ∨ wr.heap.size ≤ k := fun k hk => by
            rcases List.mem_append.1 hk with h | h
            · exact Or.inl (List.mem_append.2 (Or.inl h))
            · simp at h; rcases h with h | h | h
              · exact Or.inr (by have := hG17.out; omega)
              · exact Or.inr (by have := hG15.out; omega)
              · exact Or.inl (List.mem_append.2 (Or.inr (by simp [h])))
          have XR1 := Lib.hid (HX1.out.fr (own := []) (own' := []) (Fr.below BrX.out) (fun _ h => absurd h (by simp)) hup)
          have XR2 := Lib.hid (HX2.out.fr (own := []) (own' := []) (Fr.below BrX.out) (fun _ h => absurd h (by simp)) hup)
          have ROX : Hid (Rd X X.heap.size 1 (some ⟨G7, 0, none⟩) 32 (ot.map B8)) := (RO.out.below Bw1X.out).more Bw1X.out.size
          have hXC : Hid (∀ w', Below X.heap.size X w' → w'.cell? ⟨G15, 4, none⟩ = some (.slice xB xm xd)) := fun w' h' => cell_blk ((h'.block G15 (lt_of_blk Xa.out)).trans Xa.out) 4 rfl
          have hhl : Hid (hs.length ≤ 1000) := by have h2 := HRe.out.len; have h3 := HN.out; unfold Hid; omega
          have hSl : Hid (S.length ≤ 1000) := by have h2 := HRe.out.len; have h3 := HN.out; unfold Hid; omega
          obtain ⟨y, hy⟩ : ∃ y : Ln, Hid ({ x with bd := ot } = y) := ⟨_, Lib.hid rfl⟩
          have hy1 : Hid (y.pv = x.pv ∧ y.bd = ot ∧ y.au = x.au ∧ y.sq = x.sq ∧ y.ep = x.ep) := by rw [← hy.out]; exact ⟨rfl, rfl, rfl, rfl, rfl⟩
          clear bD dX Da Db hds hup
          by_cases hbo : x.bd = ot
          · have heq : ((str x.bd).toList == (str ot).toList) = true := by rw [eq_str]; exact decide_eq_true hbo
            have hif : Hid ((if ot = x.bd then (16 : Int) else 18) = 16) := if_pos hbo.symm
            clear hbo
            refine wp_region_noPanic ?_
            refine wp_region_held_drew (S := fun w' => Below X.heap.size X w') (by kernel_rfl) (by rw [← hX.out]; exact Below.refl _ _) (fun hS => ?_)
            rw [← hX.out]
            clear hS
            have hS : Below X.heap.size X X := Below.refl _ _
            refine wpAnyH_take (i := 0) (v := ?vpt0) rfl (by kernel_rfl) (by kernel_rfl) (by kernel_rfl) (fun _ _ _ h => h) (Or.inl ⟨by rfl, ?hypt0⟩) hS ?restpt0
            case hypt0 => (intro w' hSw; go_simp; first | done | with_reducible rfl)
            try simp only [Act.put, List.getElem_toArray, List.getElem_cons_zero, List.getElem_cons_succ, List.setIfInBounds_toArray, List.set_cons_zero, List.set_cons_succ]
            refine wpAnyH_take (i := 1) (v := .slice xB xm xd) rfl (by kernel_rfl) (by kernel_rfl) (by kernel_rfl) (fun _ _ _ h => h) (Or.inl ⟨by rfl, ?hypt1⟩) hS ?restpt1
            case hypt1 => (intro w' hSw; have c0 := hXC.out w' hSw; go_simp; first | done | with_reducible rfl)
            try simp only [Act.put, List.getElem_toArray, List.getElem_cons_zero, List.getElem_cons_succ, List.setIfInBounds_toArray, List.set_cons_zero, List.set_cons_succ]
            refine wpAnyH_take (i := 2) (v := .string (str x.bd)) rfl (by kernel_rfl) (by kernel_rfl) (by kernel_rfl) (fun _ _ _ h => h) (Or.inl ⟨by rfl, ?hypt2⟩) hS ?restpt2
            case hypt2 => (intro w' hSw; have hc := conv8 w' xB xm xd _ (XR2.out.1.to hSw); go_simp; first | done | with_reducible rfl)
            try simp only [Act.put, List.getElem_toArray, List.getElem_cons_zero, List.getElem_cons_succ, List.setIfInBounds_toArray, List.set_cons_zero, List.set_cons_succ]
            refine wpAnyH_take (i := 3) (v := .slice (some ⟨G7, 0, none⟩) 32 32) rfl (by kernel_rfl) (by kernel_rfl) (by kernel_rfl) (fun _ _ _ h => h) (Or.inl ⟨by rfl, ?hypt3⟩) hS ?restpt3
            case hypt3 => (intro w' hSw; go_simp; first | done | with_reducible rfl)
            try simp only [Act.put, List.getElem_toArray, List.getElem_cons_zero, List.getElem_cons_succ, List.setIfInBounds_toArray, List.set_cons_zero, List.set_cons_succ]
            refine wpAnyH_take (i := 4) (v := .string (str ot)) rfl (by kernel_rfl) (by kernel_rfl) (by kernel_rfl) (fun _ _ _ h => h) (Or.inl ⟨by rfl, ?hypt4⟩) hS ?restpt4
            case hypt4 => (intro w' hSw; have hc := conv8 w' (some ⟨G7, 0, none⟩) 32 32 _ (ROX.out.to hSw); go_simp; first | done | with_reducible rfl)
            try simp only [Act.put, List.getElem_toArray, List.getElem_cons_zero, List.getElem_cons_succ, List.setIfInBounds_toArray, List.set_cons_zero, List.set_cons_succ]
            refine wpAnyH_take (i := 5) (v := .bool true) rfl (by kernel_rfl) (by kernel_rfl) (by kernel_rfl) (fun _ _ _ h => h) (Or.inl ⟨by rfl, ?hypt5⟩) hS ?restpt5
            case hypt5 => (intro w' hSw; have h := heq; go_simp; first | done | with_reducible rfl)
            try simp only [Act.put, List.getElem_toArray, List.getElem_cons_zero, List.getElem_cons_succ, List.setIfInBounds_toArray, List.set_cons_zero, List.set_cons_succ]
            refine wpAnyH_done (by kernel_rfl) (NoPanic.normal ?_) _
            have hE1 := Lib.hid (old_E HTK.out (by have := hhl.out; omega))
            have d0 : X.cell? ⟨GM + 1, 0, none⟩ = some (.pointer (some ⟨q.gb, 0, none⟩)) := cell_blk X9.out 0 rfl
            have d1 : X.cell? ⟨GM + 1, 1, none⟩ = some (.pointer (some ⟨q.gi, 0, none⟩)) := cell_blk X9.out 1 rfl
            have f0 : X.cell? ⟨G15, 0, none⟩ = some (.int .i64 x.au) := cell_blk Xa.out 0 rfl
            have f1 : X.cell? ⟨G15, 1, none⟩ = some (.int .i64 x.sq) := cell_blk Xa.out 1 rfl
            have f2 : X.cell? ⟨G15, 2, none⟩ = some (.int .i64 x.ep) := cell_blk Xa.out 2 rfl
            have f3 : X.cell? ⟨G15, 3, none⟩ = some (.slice xA xn xc) := cell_blk Xa.out 3 rfl
            have f4 : X.cell? ⟨G15, 4, none⟩ = some (.slice xB xm xd) := cell_blk Xa.out 4 rfl
            go_wp2_with fail
            clear d0 d1 f0 f1 f2 f3 f4
            refine (PX.out.pr.check x xA xn xc xB xm xd XR1.out.1 XR2.out.1 (by have := hhl.out; omega)).mono ?_
            rintro e w5 ⟨o5, rfl, p5, f5⟩
            rw [hE1.out]
            have P5 := Lib.hid p5
            have T5 := Lib.hid (HTK.out.check x)
            have hh5 := Lib.hid (checkH_len S hs x)
            obtain ⟨h5, hh5'⟩ : ∃ h, Hid (checkH S hs x = h) := ⟨_, Lib.hid rfl⟩
            rw [hh5'.out] at P5 T5 hh5
            have nx5 : ∀ k, k ∈ [G17, G15, GM + 1] → k ∉ q.oi := fun k hk => (PX.out.pr.xd k hk).2
            have w59 : Hid (w5.heap[GM + 1]? = some (.cells (plC q).toArray 35 (0, 0))) := (f5.block (GM + 1) (lt_of_blk X9.out) (nx5 (GM + 1) (by simp))).trans X9.out
            have w5a : Hid (w5.heap[G15]? = some (.cells #[.int .i64 x.au, .int .i64 x.sq, .int .i64 x.ep, .slice xA xn xc, .slice xB xm xd] 40 (0, 0))) := (f5.block (G15) (lt_of_blk Xa.out) (nx5 (G15) (by simp))).trans Xa.out
            have w5b : Hid (w5.heap[G17]? = some (.cells #[.int .i64 x.au, .int .i64 x.sq, .int .i64 x.ep, .slice xA xn xc, .slice (some ⟨G7, 0, none⟩) 32 32] 40 (0, 0))) := (f5.block (G17) (lt_of_blk Xb.out) (nx5 (G17) (by simp))).trans Xb.out
            have B15 : Hid (Below w1.heap.size w1 w5) := Bw1X.out.trans (f5.toBelow (fun k hk => PX.out.lo k (List.mem_append.2 (Or.inr hk))) Bw1X.out.size)
            have sub5 : ∀ k, k ∈ q.ob ++ o5 ++ [G17, G15, GM + 1] → k ∈ q.ob ++ q.oi ++ [G17, G15, GM + 1] ∨ X.heap.size ≤ k := fun k hk => by
              rcases List.mem_append.1 hk with h | h
              · rcases List.mem_append.1 h with h1 | h1
                · exact Or.inl (List.mem_append.2 (Or.inl (List.mem_append.2 (Or.inl h1))))
                · exact (f5.sub k h1).imp (fun h2 => List.mem_append.2 (Or.inl (List.mem_append.2 (Or.inr h2)))) id
              · exact Or.inl (List.mem_append.2 (Or.inr h))
            have YR1 := Lib.hid (XR1.out.fr f5 (fun k hk => List.mem_append.2 (Or.inl (List.mem_append.2 (Or.inr hk)))) sub5)
            have ROY : Hid (Rd w5 w5.heap.size 1 (some ⟨G7, 0, none⟩) 32 (ot.map B8)) := (RO.out.below B15.out).more B15.out.size
            have lo5 : Hid (∀ k, k ∈ q.ob ++ o5 → w1.heap.size ≤ k) := fun k hk => by
              rcases List.mem_append.1 hk with h | h
              · exact PX.out.lo k (List.mem_append.2 (Or.inl h))
              · rcases f5.sub k h with h1 | h1
                · exact PX.out.lo k (List.mem_append.2 (Or.inr h1))
                · exact Nat.le_trans Bw1X.out.size h1
            have hE2 : Hid (checkE S h5 y = 16) := by rw [← hy.out]; exact (fork_E T5.out (by have := hh5.out; have := hhl.out; omega) ot HOT.out).trans hif.out
            clear p5 f5 nx5 sub5
            have d0 : w5.cell? ⟨GM + 1, 0, none⟩ = some (.pointer (some ⟨q.gb, 0, none⟩)) := cell_blk w59.out 0 rfl
            have d1 : w5.cell? ⟨GM + 1, 1, none⟩ = some (.pointer (some ⟨q.gi, 0, none⟩)) := cell_blk w59.out 1 rfl
            have f0 : w5.cell? ⟨G17, 0, none⟩ = some (.int .i64 x.au) := cell_blk w5b.out 0 rfl
            have f1 : w5.cell? ⟨G17, 1, none⟩ = some (.int .i64 x.sq) := cell_blk w5b.out 1 rfl
            have f2 : w5.cell? ⟨G17, 2, none⟩ = some (.int .i64 x.ep) := cell_blk w5b.out 2 rfl
            have f3 : w5.cell? ⟨G17, 3, none⟩ = some (.slice xA xn xc) := cell_blk w5b.out 3 rfl
            have f4 : w5.cell? ⟨G17, 4, none⟩ = some (.slice (some ⟨G7, 0, none⟩) 32 32) := cell_blk w5b.out 4 rfl
            go_wp2_with fail
            clear d0 d1 f0 f1 f2 f3 f4
            have hck := P5.out.check y xA xn xc (some ⟨G7, 0, none⟩) 32 32 (by rw [hy1.out.1]; exact YR1.out.1) (by rw [hy1.out.2.1]; exact ROY.out) (by have := hh5.out; have := hhl.out; omega)
            rw [show lnV y xA xn xc (some ⟨G7, 0, none⟩) 32 32 = .agg #[.int .i64 x.au, .int .i64 x.sq, .int .i64 x.ep, .slice xA xn xc, .slice (some ⟨G7, 0, none⟩) 32 32] from by unfold lnV; rw [hy1.out.2.2.1, hy1.out.2.2.2.1, hy1.out.2.2.2.2]] at hck
            refine hck.mono ?_
            clear hck
            rintro e w6 ⟨o6, rfl, p6, f6⟩
            rw [hE2.out]
            have P6 := Lib.hid p6
            have T6 := Lib.hid (T5.out.check y)
            have hh6 := Lib.hid (checkH_len S h5 y)
            obtain ⟨h6, hh6'⟩ : ∃ h, Hid (checkH S h5 y = h) := ⟨_, Lib.hid rfl⟩
            rw [hh6'.out] at P6 T6 hh6
            have nx6 : ∀ k, k ∈ [G17, G15, GM + 1] → k ∉ o5 := fun k hk => (P5.out.xd k hk).2
            have w69 : Hid (w6.heap[GM + 1]? = some (.cells (plC q).toArray 35 (0, 0))) := (f6.block (GM + 1) (lt_of_blk w59.out) (nx6 (GM + 1) (by simp))).trans w59.out
            have w6a : Hid (w6.heap[G15]? = some (.cells #[.int .i64 x.au, .int .i64 x.sq, .int .i64 x.ep, .slice xA xn xc, .slice xB xm xd] 40 (0, 0))) := (f6.block (G15) (lt_of_blk w5a.out) (nx6 (G15) (by simp))).trans w5a.out
            have w6b : Hid (w6.heap[G17]? = some (.cells #[.int .i64 x.au, .int .i64 x.sq, .int .i64 x.ep, .slice xA xn xc, .slice (some ⟨G7, 0, none⟩) 32 32] 40 (0, 0))) := (f6.block (G17) (lt_of_blk w5b.out) (nx6 (G17) (by simp))).trans w5b.out
            have B16 : Hid (Below w1.heap.size w1 w6) := B15.out.trans (f6.toBelow (fun k hk => lo5.out k (List.mem_append.2 (Or.inr hk))) B15.out.size)
            have sub6 : ∀ k, k ∈ o6 → k ∈ q.ob ++ o5 ++ [G17, G15, GM + 1] ∨ w5.heap.size ≤ k := fun k hk => (f6.sub k hk).imp (fun h2 => List.mem_append.2 (Or.inl (List.mem_append.2 (Or.inr h2)))) id
            have ZR1 := Lib.hid (YR1.out.fr f6 (fun k hk => List.mem_append.2 (Or.inl (List.mem_append.2 (Or.inr hk)))) sub6)
            have lo6 : Hid (∀ k, k ∈ q.ob ++ o6 → w1.heap.size ≤ k) := fun k hk => by
              rcases List.mem_append.1 hk with h | h
              · exact lo5.out k (List.mem_append.2 (Or.inl h))
              · rcases f6.sub k h with h1 | h1
                · exact lo5.out k (List.mem_append.2 (Or.inr h1))
                · exact Nat.le_trans B15.out.size h1
            have ROZ : Hid (RdN o6 w6 1 (some ⟨G7, 0, none⟩) 32 (ot.map B8)) := (RO.out.below B16.out).lowN B16.out.size (fun k hk => lo6.out k (List.mem_append.2 (Or.inr hk)))
            have hE3 : Hid (checkE S h6 y = 16) := by rw [← hy.out]; exact (fork_E T6.out (by have := hh6.out; have := hh5.out; have := hhl.out; omega) ot HOT.out).trans hif.out
            clear p6 f6 nx6 sub6
            have d0 : w6.cell? ⟨GM + 1, 0, none⟩ = some (.pointer (some ⟨q.gb, 0, none⟩)) := cell_blk w69.out 0 rfl
            have d1 : w6.cell? ⟨GM + 1, 1, none⟩ = some (.pointer (some ⟨q.gi, 0, none⟩)) := cell_blk w69.out 1 rfl
            have f0 : w6.cell? ⟨G17, 0, none⟩ = some (.int .i64 x.au) := cell_blk w6b.out 0 rfl
            have f1 : w6.cell? ⟨G17, 1, none⟩ = some (.int .i64 x.sq) := cell_blk w6b.out 1 rfl
            have f2 : w6.cell? ⟨G17, 2, none⟩ = some (.int .i64 x.ep) := cell_blk w6b.out 2 rfl
            have f3 : w6.cell? ⟨G17, 3, none⟩ = some (.slice xA xn xc) := cell_blk w6b.out 3 rfl
            have f4 : w6.cell? ⟨G17, 4, none⟩ = some (.slice (some ⟨G7, 0, none⟩) 32 32) := cell_blk w6b.out 4 rfl
            go_wp2_with fail
            clear d0 d1 f0 f1 f2 f3 f4
            have htk := P6.out.take y xA xn xc (some ⟨G7, 0, none⟩) 32 32 (by rw [hy1.out.1]; exact ZR1.out) (by rw [hy1.out.2.1]; exact ROZ.out) (by have := hh6.out; have := hh5.out; have := hhl.out; omega) (by have := hSl.out; omega)
            rw [show lnV y xA xn xc (some ⟨G7, 0, none⟩) 32 32 = .agg #[.int .i64 x.au, .int .i64 x.sq, .int .i64 x.ep, .slice xA xn xc, .slice (some ⟨G7, 0, none⟩) 32 32] from by unfold lnV; rw [hy1.out.2.2.1, hy1.out.2.2.2.1, hy1.out.2.2.2.2]] at htk
            refine htk.mono ?_
            clear htk
            rintro e w8 ⟨o8, rfl, p8, f8⟩
            rw [hE3.out]
            have B18 : Hid (Below w1.heap.size w1 w8) := B16.out.trans (f8.toBelow (fun k hk => lo6.out k hk) B16.out.size)
            clear p8 f8
            go_wp2_with fail
            refine (awake_ w8).mono ?_
            rintro e w9 ⟨rfl, b9⟩
            have B19 := Lib.hid (B18.out.trans (b9.mono B18.out.size))
            clear b9
            go_wp2_with fail
            go_ret
            exact ⟨rfl, Bw1.out.trans (B19.out.mono Bw1.out.size)⟩
          · have heq : ((str x.bd).toList == (str ot).toList) = false := by rw [eq_str]; exact decide_eq_false hbo
            have hif : Hid ((if ot = x.bd then (16 : Int) else 18) = 18) := if_neg (fun h => hbo h.symm)
            clear hbo
            refine wp_region_noPanic ?_
            refine wp_region_held_drew (S := fun w' => Below X.heap.size X w') (by kernel_rfl) (by rw [← hX.out]; exact Below.refl _ _) (fun hS => ?_)
            rw [← hX.out]
            clear hS
            have hS : Below X.heap.size X X := Below.refl _ _
            refine wpAnyH_take (i := 0) (v := ?vpf0) rfl (by kernel_rfl) (by kernel_rfl) (by kernel_rfl) (fun _ _ _ h => h) (Or.inl ⟨by rfl, ?hypf0⟩) hS ?restpf0
            case hypf0 => (intro w' hSw; go_simp; first | done | with_reducible rfl)
            try simp only [Act.put, List.getElem_toArray, List.getElem_cons_zero, List.getElem_cons_succ, List.setIfInBounds_toArray, List.set_cons_zero, List.set_cons_succ]
            refine wpAnyH_take (i := 1) (v := .slice xB xm xd) rfl (by kernel_rfl) (by kernel_rfl) (by kernel_rfl) (fun _ _ _ h => h) (Or.inl ⟨by rfl, ?hypf1⟩) hS ?restpf1
            case hypf1 => (intro w' hSw; have c0 := hXC.out w' hSw; go_simp; first | done | with_reducible rfl)
            try simp only [Act.put, List.getElem_toArray, List.getElem_cons_zero, List.getElem_cons_succ, List.setIfInBounds_toArray, List.set_cons_zero, List.set_cons_succ]
            refine wpAnyH_take (i := 2) (v := .string (str x.bd)) rfl (by kernel_rfl) (by kernel_rfl) (by kernel_rfl) (fun _ _ _ h => h) (Or.inl ⟨by rfl, ?hypf2⟩) hS ?restpf2
            case hypf2 => (intro w' hSw; have hc := conv8 w' xB xm xd _ (XR2.out.1.to hSw); go_simp; first | done | with_reducible rfl)
            try simp only [Act.put, List.getElem_toArray, List.getElem_cons_zero, List.getElem_cons_succ, List.setIfInBounds_toArray, List.set_cons_zero, List.set_cons_succ]
            refine wpAnyH_take (i := 3) (v := .slice (some ⟨G7, 0, none⟩) 32 32) rfl (by kernel_rfl) (by kernel_rfl) (by kernel_rfl) (fun _ _ _ h => h) (Or.inl ⟨by rfl, ?hypf3⟩) hS ?restpf3
            case hypf3 => (intro w' hSw; go_simp; first | done | with_reducible rfl)
            try simp only [Act.put, List.getElem_toArray, List.getElem_cons_zero, List.getElem_cons_succ, List.setIfInBounds_toArray, List.set_cons_zero, List.set_cons_succ]
            refine wpAnyH_take (i := 4) (v := .string (str ot)) rfl (by kernel_rfl) (by kernel_rfl) (by kernel_rfl) (fun _ _ _ h => h) (Or.inl ⟨by rfl, ?hypf4⟩) hS ?restpf4
            case hypf4 => (intro w' hSw; have hc := conv8 w' (some ⟨G7, 0, none⟩) 32 32 _ (ROX.out.to hSw); go_simp; first | done | with_reducible rfl)
            try simp only [Act.put, List.getElem_toArray, List.getElem_cons_zero, List.getElem_cons_succ, List.setIfInBounds_toArray, List.set_cons_zero, List.set_cons_succ]
            refine wpAnyH_take (i := 5) (v := .bool false) rfl (by kernel_rfl) (by kernel_rfl) (by kernel_rfl) (fun _ _ _ h => h) (Or.inl ⟨by rfl, ?hypf5⟩) hS ?restpf5
            case hypf5 => (intro w' hSw; have h := heq; go_simp; first | done | with_reducible rfl)
            try simp only [Act.put, List.getElem_toArray, List.getElem_cons_zero, List.getElem_cons_succ, List.setIfInBounds_toArray, List.set_cons_zero, List.set_cons_succ]
            refine wpAnyH_done (by kernel_rfl) (NoPanic.normal ?_) _
            have hE1 := Lib.hid (old_E HTK.out (by have := hhl.out; omega))
            have d0 : X.cell? ⟨GM + 1, 0, none⟩ = some (.pointer (some ⟨q.gb, 0, none⟩)) := cell_blk X9.out 0 rfl
            have d1 : X.cell? ⟨GM + 1, 1, none⟩ = some (.pointer (some ⟨q.gi, 0, none⟩)) := cell_blk X9.out 1 rfl
            have f0 : X.cell? ⟨G15, 0, none⟩ = some (.int .i64 x.au) := cell_blk Xa.out 0 rfl
            have f1 : X.cell? ⟨G15, 1, none⟩ = some (.int .i64 x.sq) := cell_blk Xa.out 1 rfl
            have f2 : X.cell? ⟨G15, 2, none⟩ = some (.int .i64 x.ep) := cell_blk Xa.out 2 rfl
            have f3 : X.cell? ⟨G15, 3, none⟩ = some (.slice xA xn xc) := cell_blk Xa.out 3 rfl
            have f4 : X.cell? ⟨G15, 4, none⟩ = some (.slice xB xm xd) := cell_blk Xa.out 4 rfl
            go_wp2_with fail
            clear d0 d1 f0 f1 f2 f3 f4
            refine (PX.out.pr.check x xA xn xc xB xm xd XR1.out.1 XR2.out.1 (by have := hhl.out; omega)).mono ?_
            rintro e w5 ⟨o5, rfl, p5, f5⟩
            rw [hE1.out]
            have P5 := Lib.hid p5
            have T5 := Lib.hid (HTK.out.check x)
            have hh5 := Lib.hid (checkH_len S hs x)
            obtain ⟨h5, hh5'⟩ : ∃ h, Hid (checkH S hs x = h) := ⟨_, Lib.hid rfl⟩
            rw [hh5'.out] at P5 T5 hh5
            have nx5 : ∀ k, k ∈ [G17, G15, GM + 1] → k ∉ q.oi := fun k hk => (PX.out.pr.xd k hk).2
            have w59 : Hid (w5.heap[GM + 1]? = some (.cells (plC q).toArray 35 (0, 0))) := (f5.block (GM + 1) (lt_of_blk X9.out) (nx5 (GM + 1) (by simp))).trans X9.out
            have w5a : Hid (w5.heap[G15]? = some (.cells #[.int .i64 x.au, .int .i64 x.sq, .int .i64 x.ep, .slice xA xn xc, .slice xB xm xd] 40 (0, 0))) := (f5.block (G15) (lt_of_blk Xa.out) (nx5 (G15) (by simp))).trans Xa.out
            have w5b : Hid (w5.heap[G17]? = some (.cells #[.int .i64 x.au, .int .i64 x.sq, .int .i64 x.ep, .slice xA xn xc, .slice (some ⟨G7, 0, none⟩) 32 32] 40 (0, 0))) := (f5.block (G17) (lt_of_blk Xb.out) (nx5 (G17) (by simp))).trans Xb.out
            have B15 : Hid (Below w1.heap.size w1 w5) := Bw1X.out.trans (f5.toBelow (fun k hk => PX.out.lo k (List.mem_append.2 (Or.inr hk))) Bw1X.out.size)
            have sub5 : ∀ k, k ∈ q.ob ++ o5 ++ [G17, G15, GM + 1] → k ∈ q.ob ++ q.oi ++ [G17, G15, GM + 1] ∨ X.heap.size ≤ k := fun k hk => by
              rcases List.mem_append.1 hk with h | h
              · rcases List.mem_append.1 h with h1 | h1
                · exact Or.inl (List.mem_append.2 (Or.inl (List.mem_append.2 (Or.inl h1))))
                · exact (f5.sub k h1).imp (fun h2 => List.mem_append.2 (Or.inl (List.mem_append.2 (Or.inr h2)))) id
              · exact Or.inl (List.mem_append.2 (Or.inr h))
            have YR1 := Lib.hid (XR1.out.fr f5 (fun k hk => List.mem_append.2 (Or.inl (List.mem_append.2 (Or.inr hk)))) sub5)
            have ROY : Hid (Rd w5 w5.heap.size 1 (some ⟨G7, 0, none⟩) 32 (ot.map B8)) := (RO.out.below B15.out).more B15.out.size
            have lo5 : Hid (∀ k, k ∈ q.ob ++ o5 → w1.heap.size ≤ k) := fun k hk => by
              rcases List.mem_append.1 hk with h | h
              · exact PX.out.lo k (List.mem_append.2 (Or.inl h))
              · rcases f5.sub k h with h1 | h1
                · exact PX.out.lo k (List.mem_append.2 (Or.inr h1))
                · exact Nat.le_trans Bw1X.out.size h1
            have hE2 : Hid (checkE S h5 y = 18) := by rw [← hy.out]; exact (fork_E T5.out (by have := hh5.out; have := hhl.out; omega) ot HOT.out).trans hif.out
            clear p5 f5 nx5 sub5
            have d0 : w5.cell? ⟨GM + 1, 0, none⟩ = some (.pointer (some ⟨q.gb, 0, none⟩)) := cell_blk w59.out 0 rfl
            have d1 : w5.cell? ⟨GM + 1, 1, none⟩ = some (.pointer (some ⟨q.gi, 0, none⟩)) := cell_blk w59.out 1 rfl
            have f0 : w5.cell? ⟨G17, 0, none⟩ = some (.int .i64 x.au) := cell_blk w5b.out 0 rfl
            have f1 : w5.cell? ⟨G17, 1, none⟩ = some (.int .i64 x.sq) := cell_blk w5b.out 1 rfl
            have f2 : w5.cell? ⟨G17, 2, none⟩ = some (.int .i64 x.ep) := cell_blk w5b.out 2 rfl
            have f3 : w5.cell? ⟨G17, 3, none⟩ = some (.slice xA xn xc) := cell_blk w5b.out 3 rfl
            have f4 : w5.cell? ⟨G17, 4, none⟩ = some (.slice (some ⟨G7, 0, none⟩) 32 32) := cell_blk w5b.out 4 rfl
            go_wp2_with fail
            clear d0 d1 f0 f1 f2 f3 f4
            have hck := P5.out.check y xA xn xc (some ⟨G7, 0, none⟩) 32 32 (by rw [hy1.out.1]; exact YR1.out.1) (by rw [hy1.out.2.1]; exact ROY.out) (by have := hh5.out; have := hhl.out; omega)
            rw [show lnV y xA xn xc (some ⟨G7, 0, none⟩) 32 32 = .agg #[.int .i64 x.au, .int .i64 x.sq, .int .i64 x.ep, .slice xA xn xc, .slice (some ⟨G7, 0, none⟩) 32 32] from by unfold lnV; rw [hy1.out.2.2.1, hy1.out.2.2.2.1, hy1.out.2.2.2.2]] at hck
            refine hck.mono ?_
            clear hck
            rintro e w6 ⟨o6, rfl, p6, f6⟩
            rw [hE2.out]
            have P6 := Lib.hid p6
            have T6 := Lib.hid (T5.out.check y)
            have hh6 := Lib.hid (checkH_len S h5 y)
            obtain ⟨h6, hh6'⟩ : ∃ h, Hid (checkH S h5 y = h) := ⟨_, Lib.hid rfl⟩
            rw [hh6'.out] at P6 T6 hh6
            have nx6 : ∀ k, k ∈ [G17, G15, GM + 1] → k ∉ o5 := fun k hk => (P5.out.xd k hk).2
            have w69 : Hid (w6.heap[GM + 1]? = some (.cells (plC q).toArray 35 (0, 0))) := (f6.block (GM + 1) (lt_of_blk w59.out) (nx6 (GM + 1) (by simp))).trans w59.out
            have w6a : Hid (w6.heap[G15]? = some (.cells #[.int .i64 x.au, .int .i64 x.sq, .int .i64 x.ep, .slice xA xn xc, .slice xB xm xd] 40 (0, 0))) := (f6.block (G15) (lt_of_blk w5a.out) (nx6 (G15) (by simp))).trans w5a.out
            have w6b : Hid (w6.heap[G17]? = some (.cells #[.int .i64 x.au, .int .i64 x.sq, .int .i64 x.ep, .slice xA xn xc, .slice (some ⟨G7, 0, none⟩) 32 32] 40 (0, 0))) := (f6.block (G17) (lt_of_blk w5b.out) (nx6 (G17) (by simp))).trans w5b.out
            have B16 : Hid (Below w1.heap.size w1 w6) := B15.out.trans (f6.toBelow (fun k hk => lo5.out k (List.mem_append.2 (Or.inr hk))) B15.out.size)
            have sub6 : ∀ k, k ∈ o6 → k ∈ q.ob ++ o5 ++ [G17, G15, GM + 1] ∨ w5.heap.size ≤ k := fun k hk => (f6.sub k hk).imp (fun h2 => List.mem_append.2 (Or.inl (List.mem_append.2 (Or.inr h2)))) id
            have ZR1 := Lib.hid (YR1.out.fr f6 (fun k hk => List.mem_append.2 (Or.inl (List.mem_append.2 (Or.inr hk)))) sub6)
            have lo6 : Hid (∀ k, k ∈ q.ob ++ o6 → w1.heap.size ≤ k) := fun k hk => by
              rcases List.mem_append.1 hk with h | h
              · exact lo5.out k (List.mem_append.2 (Or.inl h))
              · rcases f6.sub k h with h1 | h1
                · exact lo5.out k (List.mem_append.2 (Or.inr h1))
                · exact Nat.le_trans B15.out.size h1
            have ROZ : Hid (RdN o6 w6 1 (some ⟨G7, 0, none⟩) 32 (ot.map B8)) := (RO.out.below B16.out).lowN B16.out.size (fun k hk => lo6.out k (List.mem_append.2 (Or.inr hk)))
            have hE3 : Hid (checkE S h6 y = 18) := by rw [← hy.out]; exact (fork_E T6.out (by have := hh6.out; have := hh5.out; have := hhl.out; omega) ot HOT.out).trans hif.out
            clear p6 f6 nx6 sub6
            have d0 : w6.cell? ⟨GM + 1, 0, none⟩ = some (.pointer (some ⟨q.gb, 0, none⟩)) := cell_blk w69.out 0 rfl
            have d1 : w6.cell? ⟨GM + 1, 1, none⟩ = some (.pointer (some ⟨q.gi, 0, none⟩)) := cell_blk w69.out 1 rfl
            have f0 : w6.cell? ⟨G17, 0, none⟩ = some (.int .i64 x.au) := cell_blk w6b.out 0 rfl
            have f1 : w6.cell? ⟨G17, 1, none⟩ = some (.int .i64 x.sq) := cell_blk w6b.out 1 rfl
            have f2 : w6.cell? ⟨G17, 2, none⟩ = some (.int .i64 x.ep) := cell_blk w6b.out 2 rfl
            have f3 : w6.cell? ⟨G17, 3, none⟩ = some (.slice xA xn xc) := cell_blk w6b.out 3 rfl
            have f4 : w6.cell? ⟨G17, 4, none⟩ = some (.slice (some ⟨G7, 0, none⟩) 32 32) := cell_blk w6b.out 4 rfl
            go_wp2_with fail
            clear d0 d1 f0 f1 f2 f3 f4
            have htk := P6.out.take y xA xn xc (some ⟨G7, 0, none⟩) 32 32 (by rw [hy1.out.1]; exact ZR1.out) (by rw [hy1.out.2.1]; exact ROZ.out) (by have := hh6.out; have := hh5.out; have := hhl.out; omega) (by have := hSl.out; omega)
            rw [show lnV y xA xn xc (some ⟨G7, 0, none⟩) 32 32 = .agg #[.int .i64 x.au, .int .i64 x.sq, .int .i64 x.ep, .slice xA xn xc, .slice (some ⟨G7, 0, none⟩) 32 32] from by unfold lnV; rw [hy1.out.2.2.1, hy1.out.2.2.2.1, hy1.out.2.2.2.2]] at htk
            refine htk.mono ?_
            clear htk
            rintro e w8 ⟨o8, rfl, p8, f8⟩
            rw [hE3.out]
            have B18 : Hid (Below w1.heap.size w1 w8) := B16.out.trans (f8.toBelow (fun k hk => lo6.out k hk) B16.out.size)
            clear p8 f8
            go_wp2_with fail
            refine (awake_ w8).mono ?_
            rintro e w9 ⟨rfl, b9⟩
            have B19 := Lib.hid (B18.out.trans (b9.mono B18.out.size))
            clear b9
            go_wp2_with fail
            go_ret
            exact ⟨rfl, Bw1.out.trans (B19.out.mono Bw1.out.size)⟩
end Go.Proofs.Ytabcbpcfleociaa
