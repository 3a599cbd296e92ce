/- The plain law of forks. No program in sight. -/
import Derived.Test.YtabcbpcfleociaaMChk
import Derived.Test.YtabcbpcfleociaaMPlc
namespace Go.Proofs.Ytabcbpcfleociaa
set_option linter.unusedSimpArgs false
set_option linter.unusedVariables false
theorem note_sub {hs : List (List UInt8)} {b x : List UInt8} (h : x ∈ hs) : x ∈ note hs b := by
  unfold note
  split
  · exact h
  · exact List.mem_append.2 (Or.inl h)
theorem note_mem (hs : List (List UInt8)) (b : List UInt8) : b ∈ note hs b := by
  unfold note
  split
  · assumption
  · simp
theorem note_idx_mem {hs : List (List UInt8)} {b x : List UInt8} (h : x ∈ hs) : (note hs b).idxOf x = hs.idxOf x := by
  unfold note
  split
  · rfl
  · rw [List.idxOf_append, if_pos h]
theorem note_idx (hs : List (List UInt8)) (b : List UInt8) : (note hs b).idxOf b = hs.idxOf b := by
  by_cases h : b ∈ hs
  · exact note_idx_mem h
  · unfold note
    rw [if_neg h, List.idxOf_append, if_neg h, List.idxOf_eq_length h]
    simp
/-- A link that was taken. -/
structure Tk (S : Bk) (hs : List (List UInt8)) (l : Ln) : Prop where
  rt : rightL l
  le : l.sq ≤ (ofA S l.au).length
  mem : bytesL l ∈ hs
  at_ : ∃ k, (ofA S l.au)[(l.sq - 1).toNat]? = some k ∧ k.dg = digL hs l
theorem Tk.note {S : Bk} {hs : List (List UInt8)} {l : Ln} (h : Tk S hs l) (b : List UInt8) : Tk S (note hs b) l := by
  obtain ⟨k, h1, h2⟩ := h.at_
  exact ⟨h.rt, h.le, note_sub h.mem, k, h1, by rw [h2, digL, digL, note_idx_mem h.mem]⟩
theorem Tk.check {S : Bk} {hs : List (List UInt8)} {l : Ln} (h : Tk S hs l) (l' : Ln) : Tk S (checkH S hs l') l := by
  unfold checkH
  split
  · exact h.note _
  · exact h
theorem Tk.app {S : Bk} {hs : List (List UInt8)} {l : Ln} (h : Tk S hs l) (x : Int × Kn) : Tk (S ++ [x]) hs l := by
  obtain ⟨k, h1, h2⟩ := h.at_
  have e : ofA (S ++ [x]) l.au = ofA S l.au ++ ofA [x] l.au := ofA_app S [x] l.au
  refine ⟨h.rt, by rw [e, List.length_append]; have := h.le; omega, h.mem, k, ?_, h2⟩
  rw [e]
  exact (List.getElem?_append_left (List.getElem?_eq_some_iff.1 h1).1).trans h1
theorem Tk.take {S : Bk} {hs : List (List UInt8)} {l : Ln} (h : Tk S hs l) (l' : Ln) : Tk (takeS S hs l') (takeH S hs l') l := by
  unfold takeS takeH
  split
  · exact (h.app _).note _
  · exact h.check l'
theorem Tk.step {S : Bk} {hs : List (List UInt8)} {l : Ln} (h : Tk S hs l) (l' : Ln) : Tk (takeS S (checkH S hs l') l') (takeH S (checkH S hs l') l') l := (h.check l').take l'
theorem checkE_zero {S : Bk} {hs : List (List UInt8)} {l : Ln} (h : checkE S hs l = 0) : rightL l ∧ l.sq = ((ofA S l.au).length : Int) + 1 := by
  have hr := checkE_right h
  refine ⟨hr, ?_⟩
  unfold checkE at h
  rw [if_pos hr] at h
  by_cases h1 : l.sq ≤ (ofA S l.au).length
  · rw [if_pos h1] at h
    split at h <;> cases h
  · rw [if_neg h1] at h
    by_cases h2 : ((ofA S l.au).length : Int) + 1 < l.sq
    · rw [if_pos h2] at h; cases h
    · omega
theorem Tk.new {S : Bk} {hs : List (List UInt8)} {l : Ln} (h : checkE S hs l = 0) : Tk (takeS S hs l) (takeH S hs l) l := by
  obtain ⟨hr, hs1⟩ := checkE_zero h
  have e1 : takeS S hs l = S ++ [(l.au, knL hs l)] := if_pos h
  have e2 : takeH S hs l = Go.Proofs.Ytabcbpcfleociaa.note hs (bytesL l) := if_pos h
  have e3 : ofA (S ++ [(l.au, knL hs l)]) l.au = ofA S l.au ++ [knL hs l] := by rw [ofA_app, ofA_one, if_pos rfl]
  rw [e1, e2]
  refine ⟨hr, by rw [e3, List.length_append, List.length_singleton]; omega, note_mem _ _, knL hs l, ?_, ?_⟩
  · rw [e3, show (l.sq - 1).toNat = (ofA S l.au).length by omega, List.getElem?_append_right (Nat.le_refl _)]
    simp
  · show digL hs l = digL _ l
    rw [digL, digL, note_idx]
/-- A step takes its link just if the author's links become more. -/
theorem grows_iff {S : Bk} {hs : List (List UInt8)} {l : Ln} : (ofA S l.au).length < (ofA (takeS S hs l) l.au).length ↔ checkE S hs l = 0 := by
  unfold takeS
  constructor
  · intro h
    by_cases h1 : checkE S hs l = 0
    · exact h1
    · rw [if_neg h1] at h; omega
  · intro h
    rw [if_pos h, ofA_app, ofA_one, if_pos rfl]
    simp
theorem eightL_inj {n m : Nat} (hn : n < 18446744073709551616) (hm : m < 18446744073709551616) (h : eightL n = eightL m) : n = m := by
  have e : ∀ k : Nat, eightL k = [UInt8.ofNat (k / 1), UInt8.ofNat (k / 256), UInt8.ofNat (k / 65536), UInt8.ofNat (k / 16777216), UInt8.ofNat (k / 4294967296), UInt8.ofNat (k / 1099511627776), UInt8.ofNat (k / 281474976710656), UInt8.ofNat (k / 72057594037927936)] := fun k => rfl
  rw [e, e] at h
  simp only [List.cons.injEq, and_true] at h
  obtain ⟨h0, h1, h2, h3, h4, h5, h6, h7⟩ := h
  have g : ∀ {a b : Nat}, UInt8.ofNat a = UInt8.ofNat b → a % 256 = b % 256 := fun {a b} h => by
    have := congrArg UInt8.toNat h
    rwa [UInt8.toNat_ofNat', UInt8.toNat_ofNat'] at this
  have h0 := g h0
  have h1 := g h1
  have h2 := g h2
  have h3 := g h3
  have h4 := g h4
  have h5 := g h5
  have h6 := g h6
  have h7 := g h7
  omega
theorem hname_inj {n m : Nat} (hn : n < 18446744073709551616) (hm : m < 18446744073709551616) (h : hname n = hname m) : n = m := by
  unfold hname at h
  injection h with _ h
  exact eightL_inj hn hm (List.append_cancel_right h)
theorem bytes_bd {x y : Ln} (h1 : y.au = x.au) (h2 : y.sq = x.sq) (h3 : y.ep = x.ep) (h4 : y.pv = x.pv) (h5 : y.bd.length = x.bd.length) (h : bytesL y = bytesL x) : y.bd = x.bd := by
  unfold bytesL at h
  rw [h1, h2, h3, h4] at h
  have := List.append_cancel_left h
  unfold textL at this
  rw [h5] at this
  exact List.append_cancel_left this
theorem idx_inj {hs : List (List UInt8)} {x y : List UInt8} (hx : x ∈ hs) (h : hs.idxOf y = hs.idxOf x) : y = x := by
  have hl : hs.idxOf x < hs.length := List.idxOf_lt_length_of_mem hx
  have e1 := List.getElem_idxOf hl
  have hl2 : hs.idxOf y < hs.length := by rw [h]; exact hl
  have e2 := List.getElem_idxOf hl2
  rw [← e1, ← e2]
  simp only [h]
/-- Who is shown a link that was taken, or one like it with another body. -/
theorem fork_E {S : Bk} {hs : List (List UInt8)} {x : Ln} (h : Tk S hs x) (hl : hs.length ≤ 1000000) (o : List UInt8) (ho : o.length = 32) : checkE S hs { x with bd := o } = if o = x.bd then 16 else 18 := by
  obtain ⟨k, h1, h2⟩ := h.at_
  have hr : rightL { x with bd := o } := ⟨h.rt.1, ho, h.rt.2.2⟩
  rw [checkE_old hr h.le h1, h2]
  by_cases he : o = x.bd
  · subst he
    rw [if_pos rfl, if_pos rfl]
  · rw [if_neg he, if_neg]
    intro e
    unfold digL at e
    have a1 := List.idxOf_le_length (a := bytesL x) (l := hs)
    have a2 := List.idxOf_le_length (a := bytesL { x with bd := o }) (l := hs)
    have e2 := hname_inj (by omega) (by omega) e
    have e3 := idx_inj h.mem (x := bytesL x) (y := bytesL { x with bd := o }) (by omega)
    exact he (bytes_bd (x := x) (y := { x with bd := o }) rfl rfl rfl rfl (by show o.length = _; rw [ho, h.rt.2.1]) e3)
theorem old_E {S : Bk} {hs : List (List UInt8)} {x : Ln} (h : Tk S hs x) (hl : hs.length ≤ 1000000) : checkE S hs x = 16 := by
  have := fork_E h hl x.bd h.rt.2.1
  rw [if_pos rfl] at this
  exact this
end Go.Proofs.Ytabcbpcfleociaa
