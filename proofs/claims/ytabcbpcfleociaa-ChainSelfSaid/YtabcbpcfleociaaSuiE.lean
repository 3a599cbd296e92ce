/- The number of a hash's term. (Printed by gen_sue.py.) -/
import Derived.Test.YtabcbpcfleociaaSuiD
import Derived.Test.YtabcbpcfleociaaReg
namespace Go.Proofs.Ytabcbpcfleociaa
open Go.RowKit Go.Maps
attribute [local go_sem ↓] Go.wp_at_zero Go.wp_at_succ
set_option linter.unusedSimpArgs false
set_option linter.unusedVariables false
theorem one_any (w : World) (v : Value) (T : TypeId) : Rd (w.alloc (.cells #[v] T)) (w.alloc (.cells #[v] T)).heap.size 1 (some ⟨w.heap.size, 0, none⟩) 1 [v] := by
  refine ⟨rfl, fun _ => ⟨w.heap.size, 0, rfl, by simp, fun j u hu => cell_blk (heap_alloc_new w _) _ ?_⟩⟩
  rw [Nat.zero_add, ← hu]
  rcases j with _ | j <;> rfl
theorem two_any (w : World) (v v' : Value) (T : TypeId) : Rd (w.alloc (.cells #[v, v'] T)) (w.alloc (.cells #[v, v'] T)).heap.size 2 (some ⟨w.heap.size, 0, none⟩) 1 [v, v'] := by
  refine ⟨rfl, fun _ => ⟨w.heap.size, 0, rfl, by simp, fun j u hu => cell_blk (heap_alloc_new w _) _ ?_⟩⟩
  rw [Nat.zero_add, ← hu]
  simp
theorem OwnS.rdN {w : World} {base n c : Nat} {A : Option Addr} {xs : List Value} (h : OwnS w base A n c xs) : RdN (List.range base) w 1 A n xs := by
  refine ⟨h.rd, fun b o h0 e hm => ?_⟩
  obtain ⟨g, o', e', hb, _⟩ := h.mem (Nat.lt_of_lt_of_le h0 h.le)
  rw [e] at e'
  injection e' with e'
  injection e' with e1
  have := List.mem_range.1 hm
  omega
theorem part_of {w : World} {base n c1 c2 : Nat} {A1 A2 : Option Addr} {h : List UInt8} (o1 : OwnS w base A1 1 c1 [.slice A2 n c2]) (o2 : OwnS w base A2 n c2 (h.map B8)) (hn : h.length = n) : PartAt (List.range base) w A1 h := by
  subst hn
  obtain ⟨g, o, e, hb, hc, _⟩ := o1.mem (Nat.lt_of_lt_of_le Nat.zero_lt_one o1.le)
  refine ⟨g, o, A2, c2, e, fun hm => ?_, hc 0 _ rfl, o2.rdN, o2.le⟩
  have := List.mem_range.1 hm
  omega
theorem grown_set (w : World) (g j : Nat) (v : Value) : w.grownBy (w.setCell ⟨g, j, none⟩ v) (some g) :=
  ⟨World.os_setCells w g j [v], (heap_of_setCells w g j [v]).1, World.output_setCells w g j [v], Nat.le_of_eq (heap_of_setCells w g j [v]).2.symm, fun k hk hne => World.heap_setCells_other w g j [v] hk (fun e => hne (by rw [e]))⟩
theorem map_ne_cells {P : Program} {k : TypeId} {w : World} {b n : Nat} {z : Value} {f : Lit → Value} (h : MapV P k w b n z f) {cs : Array Value} {T : TypeId} {fr : Nat × Nat} (e : w.heap[b]? = some (.cells cs T fr)) : False := by
  obtain ⟨D, ⟨es, clock, hb, _⟩, _⟩ := h
  rw [e] at hb
  cases hb
/-- What the new term's row is, behind the append. -/
theorem new_row {V u' : World} {g : Nat} {hs : List (List UInt8)} {own R : List Nat} {A : Option Addr} {c b : Nat} {Qs : List (Option Addr × Nat)} {f : Lit → Value} (I : IdealV V g hs own R A c b Qs f)
    {A' : Option Addr} {c' : Nat} {xs : List Value} (o' : u'.ownsRow 0 68 2 (.slice A' (hs.length + 1) c') (hs.length + 1) xs) (g' : V.grownBy u' (Value.slice A hs.length c).ownBlock)
    (hor : (Value.slice A' (hs.length + 1) c').ownBlock = (Value.slice A hs.length c).ownBlock ∨ (Value.slice A' (hs.length + 1) c').ownBlock = some V.heap.size) :
    ∃ t, A' = some ⟨t, 0, none⟩ ∧ MapV Try.prog 9 u' b hs.length (.int .i64 0) f ∧ u'.heap[g]? = some (.cells #[.slice A hs.length c, .map (some b), .int .i64 0] 120 (0, 0)) ∧ (t ∈ own ∨ t = V.heap.size) ∧ t < u'.heap.size ∧ t ≠ g ∧ t ≠ b := by
  rcases o'.2 with ⟨e, h0⟩ | ⟨t, cap, cur, e, _, hb, _⟩
  · omega
  injection e with e1 e2 e3
  subst e1
  have hrow : ∀ s, (Value.slice A hs.length c).ownBlock = some s → s ≠ g ∧ s ≠ b := by
    intro s hs'
    rcases I.row.2 with ⟨e, _⟩ | ⟨s', _, cur', e, _, hb', _⟩
    · rw [e] at hs'; cases hs'
    · rw [e] at hs'
      injection hs' with hs'
      subst hs'
      refine ⟨fun e2 => ?_, fun e2 => ?_⟩
      · have e2 : s' = g := e2; rw [e2, I.blk] at hb'; injection hb' with hb'; injection hb' with _ hb'; revert hb'; decide
      · have e2 : s' = b := e2; rw [e2] at hb'; exact map_ne_cells I.map hb'
  have hg : u'.heap[g]? = some (.cells #[.slice A hs.length c, .map (some b), .int .i64 0] 120 (0, 0)) := (g'.block g (I.lt g I.og) (fun e => (hrow g e.symm).1 rfl)).trans I.blk
  have hm : MapV Try.prog 9 u' b hs.length (.int .i64 0) f := I.map.same (g'.block b (I.lt b I.ob) (fun e => (hrow b e.symm).2 rfl))
  refine ⟨t, rfl, hm, hg, ?_, (Array.getElem?_eq_some_iff.1 hb).1, fun e2 => ?_, fun e2 => ?_⟩
  · rcases hor with h1 | h1
    · exact Or.inl (I.oA t h1.symm)
    · right; injection h1
  · rw [e2, hg] at hb; injection hb with hb; injection hb with _ hb; revert hb; decide
  · rw [e2] at hb; exact map_ne_cells hm hb
theorem new_done {w V u' Z w9 : World} {B g : Nat} {hs : List (List UInt8)} {own R : List Nat} {A : Option Addr} {c b : Nat} {Qs : List (Option Addr × Nat)} {f : Lit → Value} {P : Option Addr} {pc c' t : Nat} {h : List UInt8} (hm : h ∉ hs)
    (hO : ∀ k, k ∈ own → k < w.heap.size) (hR : ∀ k, k ∈ R → k < w.heap.size) (hb : Below w.heap.size w V) (I : IdealV V g hs own R A c b Qs f) (p : PartAt (List.range B) V P h) (hB : w.heap.size ≤ B) 
    (o' : u'.ownsRow 0 68 2 (.slice (some ⟨t, 0, none⟩) (hs.length + 1) c') (hs.length + 1) (termCells Qs ++ [.int .u8 104, .slice P 1 pc])) (g' : V.grownBy u' (Value.slice A hs.length c).ownBlock)
    (eu : u'.heap[g]? = some (.cells #[.slice A hs.length c, .map (some b), .int .i64 0] 120 (0, 0))) (ht : t ∈ own ∨ t = V.heap.size) (gZ : u'.grownBy Z (some g))
    (eZ : Z.heap[g]? = some (.cells #[.slice (some ⟨t, 0, none⟩) (hs.length + 1) c', .map (some b), .int .i64 0] 120 (0, 0))) (mu : MapV Try.prog 9 u' b hs.length (.int .i64 0) f)
    (m9 : MapV Try.prog 9 w9 b (hs.length + 1) (.int .i64 0) (updV f (.string (hkeyL h)) (.int .i64 ((hs.length + 1 : Nat) : Int)))) (g9 : Z.grownBy w9 (some b)) (tn : t < u'.heap.size ∧ t ≠ g ∧ t ≠ b) :
    ∃ own', IdealAt w9 g (hs ++ [h]) own' R ∧ Fr own w w9 own' := by
  have F1 : Fr own w V own := Fr.below hb
  have F2 : Fr own V u' (own ++ [t]) := Fr.grown g' (fun r e => Or.inl (I.oA r e)) (fun k hk => by
    rcases List.mem_append.1 hk with h1 | h1
    · exact Or.inl h1
    · rcases List.mem_singleton.1 h1 with rfl
      exact ht.imp id (fun e => Nat.le_of_eq e.symm))
  have F3 : Fr (own ++ [t]) u' Z (own ++ [t]) := Fr.grown gZ (fun r e => by injection e with e; subst e; exact Or.inl (List.mem_append.2 (Or.inl I.og))) (fun _ h => Or.inl h)
  have F4 : Fr (own ++ [t]) Z w9 (own ++ [t]) := Fr.grown g9 (fun r e => by injection e with e; subst e; exact Or.inl (List.mem_append.2 (Or.inl I.ob))) (fun _ h => Or.inl h)
  have FV := F2.trans (F3.trans F4)
  have hgb : g ≠ b := fun e => by subst e; exact map_ne_cells mu eu
  have hlt : ∀ k, k ∈ own ++ [t] → k < w9.heap.size := fun k hk => by
    refine Nat.lt_of_lt_of_le ?_ (Nat.le_trans gZ.size g9.size)
    rcases List.mem_append.1 hk with h1 | h1
    · exact Nat.lt_of_lt_of_le (I.lt k h1) g'.size
    · rcases List.mem_singleton.1 h1 with rfl; exact tn.1
  refine ⟨own ++ [t], ⟨some ⟨t, 0, none⟩, c', b, Qs ++ [(P, pc)], updV f (.string (hkeyL h)) (.int .i64 ((hs.length + 1 : Nat) : Int)), ?_⟩, F1.trans FV⟩
  have hl : (hs ++ [h]).length = hs.length + 1 := by simp
  refine ⟨?_, by rw [hl]; exact m9, fun l => ?_, ?_, by simp [I.qs], fun i q l hq hl' => ?_, List.mem_append.2 (Or.inl I.og), List.mem_append.2 (Or.inl I.ob), fun s hs' => ?_, hlt⟩
  · rw [hl]; exact (g9.block g (Nat.lt_of_lt_of_le (Nat.lt_of_lt_of_le (I.lt g I.og) g'.size) gZ.size) (fun e => hgb (by injection e))).trans eZ
  · by_cases e : l = h
    · subst e
      rw [updV_same]
      have := idxOf_note hs l
      rw [note, if_neg hm, List.idxOf_eq_length hm] at this
      rw [this]
    · rw [updV_other _ _ (fun e2 => e (hkeyL_inj (by injection e2))), I.at_ l, numb_note hs h l hm e]
  · rw [hl, termCells_app]
    refine (o'.kept gZ ?_).kept g9 ?_
    · refine Or.inr ?_; intro e; injection e with e; exact tn.2.1 e
    · refine Or.inr ?_; intro e; injection e with e; exact tn.2.2 e
  · by_cases hi : i < hs.length
    · rw [List.getElem?_append_left (by rw [I.qs]; exact hi)] at hq
      rw [List.getElem?_append_left hi] at hl'
      refine (((I.parts i q l hq hl').less (no' := own ++ R ++ [t]) fun k hk => ?_).go FV fun k hk => ?_).less fun k hk => Or.inl ?_
      · rcases List.mem_append.1 hk with h1 | h1
        · exact Or.inl h1
        · rcases List.mem_singleton.1 h1 with rfl
          exact ht.imp (fun h2 => List.mem_append.2 (Or.inl h2)) (fun e => Nat.le_of_eq e.symm)
      · exact List.mem_append.2 (Or.inl (List.mem_append.2 (Or.inl hk)))
      · rcases List.mem_append.1 hk with h1 | h1
        · rcases List.mem_append.1 h1 with h2 | h2
          · exact List.mem_append.2 (Or.inl (List.mem_append.2 (Or.inl h2)))
          · exact List.mem_append.2 (Or.inr h2)
        · exact List.mem_append.2 (Or.inl (List.mem_append.2 (Or.inr h1)))
    · rw [List.getElem?_append_right (by rw [I.qs]; omega), I.qs] at hq
      rw [List.getElem?_append_right (by omega)] at hl'
      obtain ⟨e0, rfl⟩ : i - hs.length = 0 ∧ l = h := by
        cases hx : i - hs.length with
        | zero => rw [hx] at hl'; simp at hl'; exact ⟨rfl, hl'.symm⟩
        | succ j => rw [hx] at hl'; simp at hl'
      rw [e0] at hq
      simp at hq
      subst hq
      refine ((p.less (no' := List.range B ++ [t] ++ R) fun k hk => ?_).go FV fun k hk => ?_).less fun k hk => Or.inl ?_
      · rcases List.mem_append.1 hk with h1 | h1
        · rcases List.mem_append.1 h1 with h2 | h2
          · exact Or.inl h2
          · rcases List.mem_singleton.1 h2 with rfl
            rcases ht with h3 | h3
            · exact Or.inl (List.mem_range.2 (Nat.lt_of_lt_of_le (hO k h3) hB))
            · exact Or.inr (Nat.le_of_eq h3.symm)
        · exact Or.inl (List.mem_range.2 (Nat.lt_of_lt_of_le (hR k h1) hB))
      · exact List.mem_append.2 (Or.inl (List.mem_append.2 (Or.inl (List.mem_range.2 (Nat.lt_of_lt_of_le (hO k hk) hB)))))
      · rcases List.mem_append.1 hk with h1 | h1
        · rcases List.mem_append.1 h1 with h2 | h2
          · exact List.mem_append.2 (Or.inl (List.mem_append.2 (Or.inl (List.mem_range.2 (Nat.lt_of_lt_of_le (hO k h2) hB)))))
          · exact List.mem_append.2 (Or.inl (List.mem_append.2 (Or.inr h2)))
        · exact List.mem_append.2 (Or.inr h1)
  · injection hs' with hs'
    subst hs'
    exact List.mem_append.2 (Or.inr (List.mem_singleton.2 rfl))
set_option maxRecDepth 20000 in
set_option maxHeartbeats 1000000 in
theorem number_hit (g : Nat) (hs : List (List UInt8)) (own R : List Nat) (A : Option Addr) (c b : Nat) (Qs : List (Option Addr × Nat)) (f : Lit → Value) (Q : Option Addr) (qc : Nat) (h : List UInt8) (w : World) (hI : IdealV w g hs own R A c b Qs f) (hp : RdL w w.heap.size Q 1 [h]) (hh : h.length ≤ 1000000) (hm : h ∈ hs) :
    Calls Try.prog 65 #[.pointer (some ⟨g, 0, none⟩), .agg #[.int .u8 104, .slice Q 1 qc]] w fun e w' => e = .returned (.int .i64 ((hs.idxOf h + 1 : Nat) : Int)) ∧ Below w.heap.size w w' := by
  obtain ⟨Y, hY⟩ : ∃ Y, Hid (Y = w.alloc (.cells #[.int .u8 104, .slice Q 1 qc] 68)) := ⟨_, Lib.hid rfl⟩
  have HB0 : Hid (Below w.heap.size w Y) := by rw [hY.out]; exact (Below.refl _ _).alloc (Nat.le_refl _) _
  have hsY : Y.heap.size = w.heap.size + 1 := by rw [hY.out]; exact szAlloc _ _
  obtain ⟨G, hG⟩ : ∃ g, Hid (g = w.heap.size) := ⟨_, Lib.hid rfl⟩
  have HRG : Hid (Y.rangeAt G 0 [.int .u8 104, .slice Q 1 qc]) := by
    rw [hY.out, hG.out]
    intro j v hj
    refine cell_blk (heap_alloc_new w _) _ ?_
    rw [Nat.zero_add, ← hj]; simp
  have hGY : Hid (G < Y.heap.size) := by unfold Hid; rw [hG.out, hsY]; exact Nat.lt_succ_self _
  have hpY : RdL Y Y.heap.size Q 1 [h] := by
    refine ⟨hp.1, fun i l hl => ?_⟩
    obtain ⟨b, o, Ai, ci, e, hb, hc, hr, hci⟩ := (hp.to HB0.out).2 i l hl
    exact ⟨b, o, Ai, ci, e, by omega, hc, hr.more (by omega), hci⟩
  have IY := Lib.hid (hI.below HB0.out)
  have HP := Lib.hid hpY
  clear hpY hsY hI hp
  have hc0 := HRG.out 0 _ rfl
  have hc1 := HRG.out 1 _ rfl
  go_enter Try.func65, Try.ntmps65
  go_wp2_with fail
  rw [← hY.out, ← hG.out]
  go_wp2_with fail
  refine (key_ Q qc h Y HP.out hh).mono ?_
  rintro e w1 ⟨rfl, hb1⟩
  have I1 := Lib.hid (IY.out.below hb1)
  have HB1 := Lib.hid (HB0.out.trans (hb1.mono HB0.out.size))
  have RG1 := Lib.hid (range_keep HRG.out hb1 hGY.out)
  have hg1 : w1.cell? ⟨g, 1, none⟩ = some (.map (some b)) := cell_blk I1.out.blk 1 rfl
  have hkl : (hkeyL h).length ≤ maxLen := by simp only [hkeyL, List.length_cons, List.length_append, eightL_len, maxLen]; omega
  have HKL := Lib.hid hkl
  obtain ⟨d, hd⟩ : ∃ d : Nat, Hid (numb hs h = d) := ⟨_, Lib.hid rfl⟩
  have HAT : Hid (f (.string (hkeyL h)) = .int .i64 (d : Nat)) := by unfold Hid; rw [I1.out.at_ h, hd.out]
  clear hc0 hc1 hkl
  have hd0 : ¬ ((d : Nat) : Int) = 0 := by have := hd.out; rw [numb, if_pos hm] at this; omega
  have hdd := Lib.hid (show hs.idxOf h + 1 = d by have := hd.out; rw [numb, if_pos hm] at this; exact this)
  go_wp2_with (at_lookup
               refine wpList_lookV rfl _ _ 116 rfl 9 3 (string_keyed Try.underlying9) Try.underlying116 (.int .i64 0) (zeroI _) b hs.length f rfl I1.out.map _ (.string (hkeyL h)) rfl (keyS _ HKL.out) ?_
               rw [HAT.out])
  go_ret
  exact ⟨by rw [hdd.out]; rfl, HB1.out⟩
set_option maxRecDepth 20000 in
set_option maxHeartbeats 4000000 in
theorem number_new (g : Nat) (hs : List (List UInt8)) (own R : List Nat) (A : Option Addr) (c b : Nat) (Qs : List (Option Addr × Nat)) (f : Lit → Value) (Q : Option Addr) (qc : Nat) (h : List UInt8) (w : World) (hI : IdealV w g hs own R A c b Qs f) (hp : RdL w w.heap.size Q 1 [h]) (hh : h.length ≤ 1000000) (hm : h ∉ hs)
    (hn : hs.length ≤ 1000000) (hR : ∀ k, k ∈ R → k < w.heap.size) :
    Calls Try.prog 65 #[.pointer (some ⟨g, 0, none⟩), .agg #[.int .u8 104, .slice Q 1 qc]] w fun e w' => ∃ own', e = .returned (.int .i64 ((hs.length + 1 : Nat) : Int)) ∧ IdealAt w' g (hs ++ [h]) own' R ∧ Fr own w w' own' := by
  have HRl := Lib.hid hR
  have hI0 := Lib.hid hI.lt
  clear hR
  obtain ⟨Y, hY⟩ : ∃ Y, Hid (Y = w.alloc (.cells #[.int .u8 104, .slice Q 1 qc] 68)) := ⟨_, Lib.hid rfl⟩
  have HB0 : Hid (Below w.heap.size w Y) := by rw [hY.out]; exact (Below.refl _ _).alloc (Nat.le_refl _) _
  have hsY : Y.heap.size = w.heap.size + 1 := by rw [hY.out]; exact szAlloc _ _
  obtain ⟨G, hG⟩ : ∃ g, Hid (g = w.heap.size) := ⟨_, Lib.hid rfl⟩
  have HRG : Hid (Y.rangeAt G 0 [.int .u8 104, .slice Q 1 qc]) := by
    rw [hY.out, hG.out]
    intro j v hj
    refine cell_blk (heap_alloc_new w _) _ ?_
    rw [Nat.zero_add, ← hj]; simp
  have hGY : Hid (G < Y.heap.size) := by unfold Hid; rw [hG.out, hsY]; exact Nat.lt_succ_self _
  have hpY : RdL Y Y.heap.size Q 1 [h] := by
    refine ⟨hp.1, fun i l hl => ?_⟩
    obtain ⟨b, o, Ai, ci, e, hb, hc, hr, hci⟩ := (hp.to HB0.out).2 i l hl
    exact ⟨b, o, Ai, ci, e, by omega, hc, hr.more (by omega), hci⟩
  have IY := Lib.hid (hI.below HB0.out)
  have HP := Lib.hid hpY
  clear hpY hsY hI hp
  have hc0 := HRG.out 0 _ rfl
  have hc1 := HRG.out 1 _ rfl
  go_enter Try.func65, Try.ntmps65
  go_wp2_with fail
  rw [← hY.out, ← hG.out]
  go_wp2_with fail
  refine (key_ Q qc h Y HP.out hh).mono ?_
  rintro e w1 ⟨rfl, hb1⟩
  have I1 := Lib.hid (IY.out.below hb1)
  have HB1 := Lib.hid (HB0.out.trans (hb1.mono HB0.out.size))
  have RG1 := Lib.hid (range_keep HRG.out hb1 hGY.out)
  have hg1 : w1.cell? ⟨g, 1, none⟩ = some (.map (some b)) := cell_blk I1.out.blk 1 rfl
  have hkl : (hkeyL h).length ≤ maxLen := by simp only [hkeyL, List.length_cons, List.length_append, eightL_len, maxLen]; omega
  have HKL := Lib.hid hkl
  obtain ⟨d, hd⟩ : ∃ d : Nat, Hid (numb hs h = d) := ⟨_, Lib.hid rfl⟩
  have HAT : Hid (f (.string (hkeyL h)) = .int .i64 (d : Nat)) := by unfold Hid; rw [I1.out.at_ h, hd.out]
  clear hc0 hc1 hkl
  have hd0 : d = 0 := by have := hd.out; rw [numb, if_neg hm] at this; exact this.symm
  subst hd0
  have hc1 := RG1.out 1 _ rfl
  obtain ⟨n, hnn⟩ : ∃ n : Nat, Hid (h.length = n) := ⟨_, Lib.hid rfl⟩
  obtain ⟨qb, qo, Ah, ch, hQ, hqb, hcq, hra, hac⟩ := HP.out.2 0 h rfl
  subst hQ
  rw [hnn.out] at hcq hra
  have hnb : n ≤ 1000000 := by rw [← hnn.out]; exact hh
  have hsz1 := hb1.size
  have HCQ := Lib.hid ((World.cell?_of_block (a := ⟨qb, qo, none⟩) (hb1.block qb (Nat.lt_of_lt_of_le hqb (Nat.le_refl _)))).trans hcq)
  have HRA := Lib.hid (hra.at0 hb1 hsz1)
  have hqb1 := Lib.hid (Nat.lt_of_lt_of_le hqb hsz1)
  have hob := Lib.hid (oneB h)
  clear hcq hra hqb hac HP hh
  go_wp2_with (at_lookup
               refine wpList_lookV rfl _ _ 116 rfl 9 3 (string_keyed Try.underlying9) Try.underlying116 (.int .i64 0) (zeroI _) b hs.length f rfl I1.out.map _ (.string (hkeyL h)) rfl (keyS _ HKL.out) ?_
               rw [HAT.out])
  go_loopw [7, 9, 23] (fun x7 _ x23 wr => ∃ (i : Nat) (P : Option Addr) (pc : Nat), x7 = .slice P i pc ∧ x23 = .int .i64 i ∧ i ≤ 1 ∧ Hid (i = 0 → P = none ∧ pc = 0) ∧ Hid (i = 1 → PartAt (List.range w1.heap.size) wr P h) ∧ Hid (Below w1.heap.size w1 wr)) (fun _ _ x23 _ => 1 - (intOf x23).toNat)
  case atStart => exact ⟨0, none, 0, rfl, rfl, by omega, fun _ => ⟨rfl, rfl⟩, fun h => absurd h (by decide), Below.refl _ _⟩
  case round =>
    obtain ⟨i, P, pc, rfl, rfl, hi, hP0, hP1, hbr⟩ := hrel
    by_cases hi0 : i = 0
    · subst hi0
      obtain ⟨rfl, rfl⟩ := hP0.out rfl
      have hsr := hbr.out.size
      have hcq0 : wr.cell? ⟨qb, qo, none⟩ = some (.slice Ah n ch) := (World.cell?_of_block (a := ⟨qb, qo + 0, none⟩) (hbr.out.block qb hqb1.out)).trans HCQ.out
      obtain ⟨E, hE⟩ : ∃ E, Hid (E = wr.alloc (.cells #[] 5)) := ⟨_, Lib.hid rfl⟩
      have bE : Hid (Below w1.heap.size w1 E) := by rw [hE.out]; exact hbr.out.trans ((Below.refl _ _).alloc hsr _)
      have hsE := bE.out.size
      have HRE := Lib.hid (HRA.out.at0 bE.out hsE)
      have hO0 : Hid (OwnS E w1.heap.size (some ⟨wr.heap.size, 0, none⟩) 0 0 []) := OwnS.nil _ _ _
      go_wp2_with (first
        | (at_builtin
           rw [← hE.out]
           refine wpList_apT rfl (.tmp 28) (.tmp 29) 38 rfl w1.heap.size 5 1 (.int .u8 0) Try.underlying38 infoB rfl _ 0 0 _ rfl hO0.out _ Ah n ch _ rfl HRE.out hob.out (by simp only [maxLen]; omega) (by omega) hsE ?_
           intro A3 c3 w3 o3 b3 _ _ _
           rw [Nat.zero_add, List.nil_append] at o3
           rw [Nat.zero_add]
           have O3 := Lib.hid o3
           have B3 := Lib.hid (bE.out.trans b3)
           clear o3 b3)
        | (at_builtin
           obtain ⟨V, hV⟩ : ∃ V, Hid (V = w3.alloc (.cells #[.slice A3 n c3] 38)) := ⟨_, Lib.hid rfl⟩
           have hL4 : Hid (Rd V V.heap.size 1 (some ⟨w3.heap.size, 0, none⟩) 1 [.slice A3 n c3]) := by rw [hV.out]; exact one_any _ _ _
           have B4 : Hid (Below w1.heap.size w1 V) := by rw [hV.out]; exact B3.out.trans ((Below.refl _ _).alloc B3.out.size _)
           have O4 : Hid (OwnS V w1.heap.size A3 n c3 (h.map B8)) := by rw [hV.out]; exact O3.out.to ((Below.refl _ _).alloc (Nat.le_refl _) _)
           rw [← hV.out]
           refine wpList_apT rfl (.tmp 27) (.tmp 31) 66 rfl w1.heap.size 38 24 (.slice none 0 0) Try.underlying66 (by kernel_rfl) rfl none 0 0 [] rfl (OwnS.nil _ _ _) _ (some ⟨w3.heap.size, 0, none⟩) 1 1 [.slice A3 n c3] rfl hL4.out (by intro u hu; rcases List.mem_singleton.1 hu with rfl; rfl) (by simp [maxLen]) (by decide) B4.out.size ?_
           intro A5 c5 w5 o5 b5 _ h5 _
           have O45 := Lib.hid (O4.out.same fun k o e hk => h5 k hk (fun _ _ e2 => by cases e2))
           have P5 := Lib.hid (part_of o5 O45.out hnn.out)
           have B5 := Lib.hid (B4.out.trans b5)
           clear o5 b5 h5))
      go_roundw
      case rel => exact ⟨1, A5, c5, rfl, by go_num, by omega, fun h => absurd h (by decide), fun _ => P5.out, B5⟩
      case measure => simp only [intOf]; omega
    · have hiS : i = 1 := by omega
      subst hiS
      have hPr := Lib.hid (hP1.out rfl)
      have hsr := hbr.out.size
      have HB1s := Lib.hid HB1.out.size
      have Ir := Lib.hid (I1.out.below (hbr.out.mono (Nat.le_refl _)))
      have RGr := Lib.hid (range_keep RG1.out hbr.out (Nat.lt_of_lt_of_le hGY.out hsz1))
      have HBr := Lib.hid (HB1.out.trans (hbr.out.mono HB1.out.size))
      have hKL2 := HKL
      clear hP0 hP1 HAT HKL HCQ HRA hqb1 hob I1 RG1 HB1 hc1 hg1
      go_wp2_with fail
      obtain ⟨X, hX⟩ : ∃ W, Hid (W = wr.drew) := ⟨_, Lib.hid rfl⟩
      have dX : Below wr.heap.size wr X := by rw [hX.out]; exact below_drew (Below.refl _ _)
      have IX := Lib.hid (Ir.out.below dX)
      have RX := Lib.hid (range_keep RGr.out dX (Nat.lt_of_lt_of_le (Nat.lt_of_lt_of_le hGY.out hsz1) hsr))
      have HBX := Lib.hid (HBr.out.trans (dX.mono HBr.out.size))
      have PX := Lib.hid (hPr.out.go (Fr.below (own := []) dX) (fun _ h => absurd h (by simp)))
      have hgX : X.cell? ⟨g, 0, none⟩ = some (.slice A hs.length c) := cell_blk IX.out.blk 0 rfl
      have hGX : X.cell? ⟨G, 0, none⟩ = some (.int .u8 104) := RX.out 0 _ rfl
      refine wp_region_noPanic ?_
      refine wp_region_held_drew (S := fun _ => True) (by kernel_rfl) trivial (fun hS => ?_)
      rw [← hX.out]
      clear hS
      have hS : True := trivial
      refine wpAnyH_take (i := 0) (v := ?v0) rfl (by kernel_rfl) (by kernel_rfl) (by kernel_rfl) (fun _ _ _ h => h) (Or.inl ⟨by rfl, ?hy0⟩) hS ?rest0
      case hy0 => (intro w hSw; go_simp; first | done | with_reducible rfl)
      try simp only [Act.put, List.getElem_toArray, List.getElem_cons_zero, List.getElem_cons_succ, List.setIfInBounds_toArray, List.set_cons_zero, List.set_cons_succ]
      refine wpAnyH_take (i := 1) (v := ?v1) rfl (by kernel_rfl) (by kernel_rfl) (by kernel_rfl) (fun _ _ _ h => h) (Or.inl ⟨by rfl, ?hy1⟩) hS ?rest1
      case hy1 => (intro w hSw; go_simp; first | done | with_reducible rfl)
      try simp only [Act.put, List.getElem_toArray, List.getElem_cons_zero, List.getElem_cons_succ, List.setIfInBounds_toArray, List.set_cons_zero, List.set_cons_succ]
      refine wpAnyH_take (i := 2) (v := ?v2) rfl (by kernel_rfl) (by kernel_rfl) (by kernel_rfl) (fun _ _ _ h => h) (Or.inl ⟨by rfl, ?hy2⟩) hS ?rest2
      case hy2 => (intro w hSw; go_simp; first | done | with_reducible rfl)
      try simp only [Act.put, List.getElem_toArray, List.getElem_cons_zero, List.getElem_cons_succ, List.setIfInBounds_toArray, List.set_cons_zero, List.set_cons_succ]
      refine wpAnyH_take (i := 3) (v := ?v3) rfl (by kernel_rfl) (by kernel_rfl) (by kernel_rfl) (fun _ _ _ h => h) (Or.inl ⟨by rfl, ?hy3⟩) hS ?rest3
      case hy3 => (intro w hSw; go_simp; first | done | with_reducible rfl)
      try simp only [Act.put, List.getElem_toArray, List.getElem_cons_zero, List.getElem_cons_succ, List.setIfInBounds_toArray, List.set_cons_zero, List.set_cons_succ]
      refine wpAnyH_take (i := 5) (v := ?v5) rfl (by kernel_rfl) (by kernel_rfl) (by kernel_rfl) (fun _ _ _ h => h) (Or.inl ⟨by rfl, ?hy5⟩) hS ?rest5
      case hy5 => (intro w hSw; go_simp; first | done | with_reducible rfl)
      try simp only [Act.put, List.getElem_toArray, List.getElem_cons_zero, List.getElem_cons_succ, List.setIfInBounds_toArray, List.set_cons_zero, List.set_cons_succ]
      refine wpAnyH_take (i := 7) (v := ?v7) rfl (by kernel_rfl) (by kernel_rfl) (by kernel_rfl) (fun _ _ _ h => h) (Or.inl ⟨by rfl, ?hy7⟩) hS ?rest7
      case hy7 => (intro w hSw; go_simp; first | done | with_reducible rfl)
      try simp only [Act.put, List.getElem_toArray, List.getElem_cons_zero, List.getElem_cons_succ, List.setIfInBounds_toArray, List.set_cons_zero, List.set_cons_succ]
      refine wpAnyH_ready (rs := [4, 6]) (by kernel_rfl) (by simp) ?_
      refine AllReadyH.cons rfl (fun K hK => ?_) (AllReadyH.cons rfl (fun K hK => ?_) AllReadyH.nil)
      · go_simp
        refine hK.out _ _ trivial ?_
        intro hS2
        clear hK K hS2
        try simp only [Act.put, List.getElem_toArray, List.getElem_cons_zero, List.getElem_cons_succ, List.setIfInBounds_toArray, List.set_cons_zero, List.set_cons_succ]
        refine wpAnyH_ready (rs := [6]) (by kernel_rfl) (by simp) ?_
        refine AllReadyH.cons rfl (fun K hK => ?_) AllReadyH.nil
        go_simp
        refine hK.out _ _ trivial ?_
        intro hS2
        clear hK K hS2
        try simp only [Act.put, List.getElem_toArray, List.getElem_cons_zero, List.getElem_cons_succ, List.setIfInBounds_toArray, List.set_cons_zero, List.set_cons_succ]
        refine wpAnyH_take (i := 8) (v := ?va8) rfl (by kernel_rfl) (by kernel_rfl) (by kernel_rfl) (fun _ _ _ h => h) (Or.inl ⟨by rfl, ?hya8⟩) hS ?resta8
        case hya8 => (intro w hSw; go_simp; first | done | with_reducible rfl)
        try simp only [Act.put, List.getElem_toArray, List.getElem_cons_zero, List.getElem_cons_succ, List.setIfInBounds_toArray, List.set_cons_zero, List.set_cons_succ]
        refine wpAnyH_ready (rs := [9]) (by kernel_rfl) (by simp) ?_
        refine AllReadyH.cons rfl (fun K hK => ?_) AllReadyH.nil
        go_simp
        refine hK.out _ _ trivial ?_
        intro hS2
        clear hK K hS2
        try simp only [Act.put, List.getElem_toArray, List.getElem_cons_zero, List.getElem_cons_succ, List.setIfInBounds_toArray, List.set_cons_zero, List.set_cons_succ]
        obtain ⟨V, hV⟩ : ∃ V, Hid (V = X.alloc (.cells #[.int .u8 104, .slice P 1 pc] 68)) := ⟨_, Lib.hid rfl⟩
        have bV : Below X.heap.size X V := by rw [hV.out]; exact (Below.refl _ _).alloc (Nat.le_refl _) _
        have hLV : Hid (Rd V V.heap.size 2 (some ⟨X.heap.size, 0, none⟩) 1 [.int .u8 104, .slice P 1 pc]) := by rw [hV.out]; exact two_any _ _ _ _
        rw [← hV.out]
        have IV := Lib.hid (IX.out.below bV)
        have HBV := Lib.hid (HBX.out.trans (bV.mono HBX.out.size))
        have PV := Lib.hid (PX.out.go (Fr.below (own := []) bV) (fun _ h => absurd h (by simp)))
        clear hgX hGX
        refine wpAnyH_ready (rs := [10]) (by kernel_rfl) (by simp) ?_
        refine AllReadyH.cons rfl (fun K hK => ?_) AllReadyH.nil
        refine step_app (.tmp 38) (.tmp 43) 64 rfl rfl 0 68 2 32 (.agg #[.int .u8 0, .slice none 0 0]) Try.underlying64 (by kernel_rfl) rfl (by decide) _ hs.length _ rfl IV.out.row _ (some ⟨X.heap.size, 0, none⟩) 1 1 [.int .u8 104, .slice P 1 pc] rfl hLV.out (by intro u hu; simp at hu; rcases hu with rfl | rfl <;> rfl) (by simp only [maxLen]; omega) (by omega) (Nat.zero_le _) ?_
        intro A' c' u' o' g' hor
        obtain ⟨t, hA, nu, eu, htl, htn⟩ := new_row IV.out o' g' hor
        subst hA
        refine hK.out _ _ trivial ?_
        intro hS2
        clear hK K hS2
        try simp only [Act.put, List.getElem_toArray, List.getElem_cons_zero, List.getElem_cons_succ, List.setIfInBounds_toArray, List.set_cons_zero, List.set_cons_succ]
        have hgu : u'.cell? ⟨g, 0, none⟩ = some (.slice A hs.length c) := cell_blk eu 0 rfl
        have hfu : u'.frozen? ⟨g, 0, none⟩ = false := frozen_blk eu _
        refine wpAnyH_take (i := 11) (v := ?va11) rfl (by kernel_rfl) (by kernel_rfl) (by kernel_rfl) (fun _ _ _ h => h) (Or.inl ⟨by rfl, ?hya11⟩) hS ?resta11
        case hya11 => (intro w hSw; go_simp; first | done | with_reducible rfl)
        try simp only [Act.put, List.getElem_toArray, List.getElem_cons_zero, List.getElem_cons_succ, List.setIfInBounds_toArray, List.set_cons_zero, List.set_cons_succ]
        refine wpAnyH_take (i := 12) (v := ?va12) rfl (by kernel_rfl) (by kernel_rfl) (by kernel_rfl) (fun _ _ _ h => h) (Or.inl ⟨by rfl, ?hya12⟩) hS ?resta12
        case hya12 => (intro w hSw; go_simp; first | done | with_reducible rfl)
        try simp only [Act.put, List.getElem_toArray, List.getElem_cons_zero, List.getElem_cons_succ, List.setIfInBounds_toArray, List.set_cons_zero, List.set_cons_succ]
        refine wpAnyH_ready (rs := [13]) (by kernel_rfl) (by simp) ?_
        refine AllReadyH.cons rfl (fun K hK => ?_) AllReadyH.nil
        go_simp
        refine hK.out _ _ trivial ?_
        intro hS2
        clear hK K hS2
        try simp only [Act.put, List.getElem_toArray, List.getElem_cons_zero, List.getElem_cons_succ, List.setIfInBounds_toArray, List.set_cons_zero, List.set_cons_succ]
        refine wpAnyH_done (by kernel_rfl) (NoPanic.normal ?_) _
        obtain ⟨Z, hZ⟩ : ∃ Z, Hid (Z = u'.setCell ⟨g, 0, none⟩ (.slice (some ⟨t, 0, none⟩) (hs.length + 1) c')) := ⟨_, Lib.hid rfl⟩
        rw [← hZ.out]
        have eZ : Hid (Z.heap[g]? = some (.cells #[.slice (some ⟨t, 0, none⟩) (hs.length + 1) c', .map (some b), .int .i64 0] 120 (0, 0))) := by rw [hZ.out]; exact heap_setCell_same u' g 0 _ _ _ eu
        have gZ : Hid (u'.grownBy Z (some g)) := by rw [hZ.out]; exact grown_set u' g 0 _
        have mu := Lib.hid nu
        have mZ : Hid (MapV Try.prog 9 Z b hs.length (.int .i64 0) f) := nu.same (gZ.out.block b nu.lt (fun e => by injection e with e; subst e; exact map_ne_cells nu eu))
        have hz0 : Z.cell? ⟨g, 0, none⟩ = some (.slice (some ⟨t, 0, none⟩) (hs.length + 1) c') := cell_blk eZ.out 0 rfl
        have hz1 : Z.cell? ⟨g, 1, none⟩ = some (.map (some b)) := cell_blk eZ.out 1 rfl
        have oo := Lib.hid o'
        have gg := Lib.hid g'
        have ee := Lib.hid eu
        have tl := Lib.hid htl
        have tn := Lib.hid htn
        clear o' g' hor eu htl htn hgu hfu nu
        have hmx : hs.length < maxLen := by simp only [maxLen]; omega
        have HMX := Lib.hid hmx
        clear hmx
        go_wp2_with (at_mapUpdate
                     refine wpList_updV rfl _ _ _ 116 rfl 9 3 (string_keyed Try.underlying9) Try.underlying116 (.int .i64 0) b hs.length f rfl mZ.out HMX.out _ _ (.string (hkeyL h)) rfl rfl (keyS _ hKL2.out) ?_
                     intro w9 m9 g9
                     have M9 := Lib.hid m9
                     have G9 := Lib.hid g9
                     clear m9 g9)
        go_ret
        obtain ⟨own', hown, hfr⟩ := new_done hm hI0.out HRl.out HBV.out IV.out PV.out HB1s.out oo.out gg.out ee.out tl.out gZ.out eZ.out mu.out M9.out G9.out tn.out
        exact ⟨own', rfl, hown, hfr⟩
      · go_simp
        refine hK.out _ _ trivial ?_
        intro hS2
        clear hK K hS2
        try simp only [Act.put, List.getElem_toArray, List.getElem_cons_zero, List.getElem_cons_succ, List.setIfInBounds_toArray, List.set_cons_zero, List.set_cons_succ]
        refine wpAnyH_take (i := 8) (v := ?vb8) rfl (by kernel_rfl) (by kernel_rfl) (by kernel_rfl) (fun _ _ _ h => h) (Or.inl ⟨by rfl, ?hyb8⟩) hS ?restb8
        case hyb8 => (intro w hSw; go_simp; first | done | with_reducible rfl)
        try simp only [Act.put, List.getElem_toArray, List.getElem_cons_zero, List.getElem_cons_succ, List.setIfInBounds_toArray, List.set_cons_zero, List.set_cons_succ]
        refine wpAnyH_ready (rs := [4, 9]) (by kernel_rfl) (by simp) ?_
        refine AllReadyH.cons rfl (fun K hK => ?_) (AllReadyH.cons rfl (fun K hK => ?_) AllReadyH.nil)
        · go_simp
          refine hK.out _ _ trivial ?_
          intro hS2
          clear hK K hS2
          try simp only [Act.put, List.getElem_toArray, List.getElem_cons_zero, List.getElem_cons_succ, List.setIfInBounds_toArray, List.set_cons_zero, List.set_cons_succ]
          refine wpAnyH_ready (rs := [9]) (by kernel_rfl) (by simp) ?_
          refine AllReadyH.cons rfl (fun K hK => ?_) AllReadyH.nil
          go_simp
          refine hK.out _ _ trivial ?_
          intro hS2
          clear hK K hS2
          try simp only [Act.put, List.getElem_toArray, List.getElem_cons_zero, List.getElem_cons_succ, List.setIfInBounds_toArray, List.set_cons_zero, List.set_cons_succ]
          obtain ⟨V, hV⟩ : ∃ V, Hid (V = X.alloc (.cells #[.int .u8 104, .slice P 1 pc] 68)) := ⟨_, Lib.hid rfl⟩
          have bV : Below X.heap.size X V := by rw [hV.out]; exact (Below.refl _ _).alloc (Nat.le_refl _) _
          have hLV : Hid (Rd V V.heap.size 2 (some ⟨X.heap.size, 0, none⟩) 1 [.int .u8 104, .slice P 1 pc]) := by rw [hV.out]; exact two_any _ _ _ _
          rw [← hV.out]
          have IV := Lib.hid (IX.out.below bV)
          have HBV := Lib.hid (HBX.out.trans (bV.mono HBX.out.size))
          have PV := Lib.hid (PX.out.go (Fr.below (own := []) bV) (fun _ h => absurd h (by simp)))
          clear hgX hGX
          refine wpAnyH_ready (rs := [10]) (by kernel_rfl) (by simp) ?_
          refine AllReadyH.cons rfl (fun K hK => ?_) AllReadyH.nil
          refine step_app (.tmp 38) (.tmp 43) 64 rfl rfl 0 68 2 32 (.agg #[.int .u8 0, .slice none 0 0]) Try.underlying64 (by kernel_rfl) rfl (by decide) _ hs.length _ rfl IV.out.row _ (some ⟨X.heap.size, 0, none⟩) 1 1 [.int .u8 104, .slice P 1 pc] rfl hLV.out (by intro u hu; simp at hu; rcases hu with rfl | rfl <;> rfl) (by simp only [maxLen]; omega) (by omega) (Nat.zero_le _) ?_
          intro A' c' u' o' g' hor
          obtain ⟨t, hA, nu, eu, htl, htn⟩ := new_row IV.out o' g' hor
          subst hA
          refine hK.out _ _ trivial ?_
          intro hS2
          clear hK K hS2
          try simp only [Act.put, List.getElem_toArray, List.getElem_cons_zero, List.getElem_cons_succ, List.setIfInBounds_toArray, List.set_cons_zero, List.set_cons_succ]
          have hgu : u'.cell? ⟨g, 0, none⟩ = some (.slice A hs.length c) := cell_blk eu 0 rfl
          have hfu : u'.frozen? ⟨g, 0, none⟩ = false := frozen_blk eu _
          refine wpAnyH_take (i := 11) (v := ?vp11) rfl (by kernel_rfl) (by kernel_rfl) (by kernel_rfl) (fun _ _ _ h => h) (Or.inl ⟨by rfl, ?hyp11⟩) hS ?restp11
          case hyp11 => (intro w hSw; go_simp; first | done | with_reducible rfl)
          try simp only [Act.put, List.getElem_toArray, List.getElem_cons_zero, List.getElem_cons_succ, List.setIfInBounds_toArray, List.set_cons_zero, List.set_cons_succ]
          refine wpAnyH_take (i := 12) (v := ?vp12) rfl (by kernel_rfl) (by kernel_rfl) (by kernel_rfl) (fun _ _ _ h => h) (Or.inl ⟨by rfl, ?hyp12⟩) hS ?restp12
          case hyp12 => (intro w hSw; go_simp; first | done | with_reducible rfl)
          try simp only [Act.put, List.getElem_toArray, List.getElem_cons_zero, List.getElem_cons_succ, List.setIfInBounds_toArray, List.set_cons_zero, List.set_cons_succ]
          refine wpAnyH_ready (rs := [13]) (by kernel_rfl) (by simp) ?_
          refine AllReadyH.cons rfl (fun K hK => ?_) AllReadyH.nil
          go_simp
          refine hK.out _ _ trivial ?_
          intro hS2
          clear hK K hS2
          try simp only [Act.put, List.getElem_toArray, List.getElem_cons_zero, List.getElem_cons_succ, List.setIfInBounds_toArray, List.set_cons_zero, List.set_cons_succ]
          refine wpAnyH_done (by kernel_rfl) (NoPanic.normal ?_) _
          obtain ⟨Z, hZ⟩ : ∃ Z, Hid (Z = u'.setCell ⟨g, 0, none⟩ (.slice (some ⟨t, 0, none⟩) (hs.length + 1) c')) := ⟨_, Lib.hid rfl⟩
          rw [← hZ.out]
          have eZ : Hid (Z.heap[g]? = some (.cells #[.slice (some ⟨t, 0, none⟩) (hs.length + 1) c', .map (some b), .int .i64 0] 120 (0, 0))) := by rw [hZ.out]; exact heap_setCell_same u' g 0 _ _ _ eu
          have gZ : Hid (u'.grownBy Z (some g)) := by rw [hZ.out]; exact grown_set u' g 0 _
          have mu := Lib.hid nu
          have mZ : Hid (MapV Try.prog 9 Z b hs.length (.int .i64 0) f) := nu.same (gZ.out.block b nu.lt (fun e => by injection e with e; subst e; exact map_ne_cells nu eu))
          have hz0 : Z.cell? ⟨g, 0, none⟩ = some (.slice (some ⟨t, 0, none⟩) (hs.length + 1) c') := cell_blk eZ.out 0 rfl
          have hz1 : Z.cell? ⟨g, 1, none⟩ = some (.map (some b)) := cell_blk eZ.out 1 rfl
          have oo := Lib.hid o'
          have gg := Lib.hid g'
          have ee := Lib.hid eu
          have tl := Lib.hid htl
          have tn := Lib.hid htn
          clear o' g' hor eu htl htn hgu hfu nu
          have hmx : hs.length < maxLen := by simp only [maxLen]; omega
          have HMX := Lib.hid hmx
          clear hmx
          go_wp2_with (at_mapUpdate
                       refine wpList_updV rfl _ _ _ 116 rfl 9 3 (string_keyed Try.underlying9) Try.underlying116 (.int .i64 0) b hs.length f rfl mZ.out HMX.out _ _ (.string (hkeyL h)) rfl rfl (keyS _ hKL2.out) ?_
                       intro w9 m9 g9
                       have M9 := Lib.hid m9
                       have G9 := Lib.hid g9
                       clear m9 g9)
          go_ret
          obtain ⟨own', hown, hfr⟩ := new_done hm hI0.out HRl.out HBV.out IV.out PV.out HB1s.out oo.out gg.out ee.out tl.out gZ.out eZ.out mu.out M9.out G9.out tn.out
          exact ⟨own', rfl, hown, hfr⟩
        · go_simp
          refine hK.out _ _ trivial ?_
          intro hS2
          clear hK K hS2
          try simp only [Act.put, List.getElem_toArray, List.getElem_cons_zero, List.getElem_cons_succ, List.setIfInBounds_toArray, List.set_cons_zero, List.set_cons_succ]
          refine wpAnyH_ready (rs := [4]) (by kernel_rfl) (by simp) ?_
          refine AllReadyH.cons rfl (fun K hK => ?_) AllReadyH.nil
          have hgV : (X.alloc (.cells #[.int .u8 104, .slice P 1 pc] 68)).cell? ⟨g, 0, none⟩ = some (.slice A hs.length c) := (World.cell?_alloc_lt _ _ _ (World.block_lt_of_cell? _ _ hgX)).trans hgX
          go_simp
          refine hK.out _ _ trivial ?_
          intro hS2
          clear hK K hS2
          try simp only [Act.put, List.getElem_toArray, List.getElem_cons_zero, List.getElem_cons_succ, List.setIfInBounds_toArray, List.set_cons_zero, List.set_cons_succ]
          clear hgV
          obtain ⟨V, hV⟩ : ∃ V, Hid (V = X.alloc (.cells #[.int .u8 104, .slice P 1 pc] 68)) := ⟨_, Lib.hid rfl⟩
          have bV : Below X.heap.size X V := by rw [hV.out]; exact (Below.refl _ _).alloc (Nat.le_refl _) _
          have hLV : Hid (Rd V V.heap.size 2 (some ⟨X.heap.size, 0, none⟩) 1 [.int .u8 104, .slice P 1 pc]) := by rw [hV.out]; exact two_any _ _ _ _
          rw [← hV.out]
          have IV := Lib.hid (IX.out.below bV)
          have HBV := Lib.hid (HBX.out.trans (bV.mono HBX.out.size))
          have PV := Lib.hid (PX.out.go (Fr.below (own := []) bV) (fun _ h => absurd h (by simp)))
          clear hgX hGX
          refine wpAnyH_ready (rs := [10]) (by kernel_rfl) (by simp) ?_
          refine AllReadyH.cons rfl (fun K hK => ?_) AllReadyH.nil
          refine step_app (.tmp 38) (.tmp 43) 64 rfl rfl 0 68 2 32 (.agg #[.int .u8 0, .slice none 0 0]) Try.underlying64 (by kernel_rfl) rfl (by decide) _ hs.length _ rfl IV.out.row _ (some ⟨X.heap.size, 0, none⟩) 1 1 [.int .u8 104, .slice P 1 pc] rfl hLV.out (by intro u hu; simp at hu; rcases hu with rfl | rfl <;> rfl) (by simp only [maxLen]; omega) (by omega) (Nat.zero_le _) ?_
          intro A' c' u' o' g' hor
          obtain ⟨t, hA, nu, eu, htl, htn⟩ := new_row IV.out o' g' hor
          subst hA
          refine hK.out _ _ trivial ?_
          intro hS2
          clear hK K hS2
          try simp only [Act.put, List.getElem_toArray, List.getElem_cons_zero, List.getElem_cons_succ, List.setIfInBounds_toArray, List.set_cons_zero, List.set_cons_succ]
          have hgu : u'.cell? ⟨g, 0, none⟩ = some (.slice A hs.length c) := cell_blk eu 0 rfl
          have hfu : u'.frozen? ⟨g, 0, none⟩ = false := frozen_blk eu _
          refine wpAnyH_take (i := 11) (v := ?vq11) rfl (by kernel_rfl) (by kernel_rfl) (by kernel_rfl) (fun _ _ _ h => h) (Or.inl ⟨by rfl, ?hyq11⟩) hS ?restq11
          case hyq11 => (intro w hSw; go_simp; first | done | with_reducible rfl)
          try simp only [Act.put, List.getElem_toArray, List.getElem_cons_zero, List.getElem_cons_succ, List.setIfInBounds_toArray, List.set_cons_zero, List.set_cons_succ]
          refine wpAnyH_take (i := 12) (v := ?vq12) rfl (by kernel_rfl) (by kernel_rfl) (by kernel_rfl) (fun _ _ _ h => h) (Or.inl ⟨by rfl, ?hyq12⟩) hS ?restq12
          case hyq12 => (intro w hSw; go_simp; first | done | with_reducible rfl)
          try simp only [Act.put, List.getElem_toArray, List.getElem_cons_zero, List.getElem_cons_succ, List.setIfInBounds_toArray, List.set_cons_zero, List.set_cons_succ]
          refine wpAnyH_ready (rs := [13]) (by kernel_rfl) (by simp) ?_
          refine AllReadyH.cons rfl (fun K hK => ?_) AllReadyH.nil
          go_simp
          refine hK.out _ _ trivial ?_
          intro hS2
          clear hK K hS2
          try simp only [Act.put, List.getElem_toArray, List.getElem_cons_zero, List.getElem_cons_succ, List.setIfInBounds_toArray, List.set_cons_zero, List.set_cons_succ]
          refine wpAnyH_done (by kernel_rfl) (NoPanic.normal ?_) _
          obtain ⟨Z, hZ⟩ : ∃ Z, Hid (Z = u'.setCell ⟨g, 0, none⟩ (.slice (some ⟨t, 0, none⟩) (hs.length + 1) c')) := ⟨_, Lib.hid rfl⟩
          rw [← hZ.out]
          have eZ : Hid (Z.heap[g]? = some (.cells #[.slice (some ⟨t, 0, none⟩) (hs.length + 1) c', .map (some b), .int .i64 0] 120 (0, 0))) := by rw [hZ.out]; exact heap_setCell_same u' g 0 _ _ _ eu
          have gZ : Hid (u'.grownBy Z (some g)) := by rw [hZ.out]; exact grown_set u' g 0 _
          have mu := Lib.hid nu
          have mZ : Hid (MapV Try.prog 9 Z b hs.length (.int .i64 0) f) := nu.same (gZ.out.block b nu.lt (fun e => by injection e with e; subst e; exact map_ne_cells nu eu))
          have hz0 : Z.cell? ⟨g, 0, none⟩ = some (.slice (some ⟨t, 0, none⟩) (hs.length + 1) c') := cell_blk eZ.out 0 rfl
          have hz1 : Z.cell? ⟨g, 1, none⟩ = some (.map (some b)) := cell_blk eZ.out 1 rfl
          have oo := Lib.hid o'
          have gg := Lib.hid g'
          have ee := Lib.hid eu
          have tl := Lib.hid htl
          have tn := Lib.hid htn
          clear o' g' hor eu htl htn hgu hfu nu
          have hmx : hs.length < maxLen := by simp only [maxLen]; omega
          have HMX := Lib.hid hmx
          clear hmx
          go_wp2_with (at_mapUpdate
                       refine wpList_updV rfl _ _ _ 116 rfl 9 3 (string_keyed Try.underlying9) Try.underlying116 (.int .i64 0) b hs.length f rfl mZ.out HMX.out _ _ (.string (hkeyL h)) rfl rfl (keyS _ hKL2.out) ?_
                       intro w9 m9 g9
                       have M9 := Lib.hid m9
                       have G9 := Lib.hid g9
                       clear m9 g9)
          go_ret
          obtain ⟨own', hown, hfr⟩ := new_done hm hI0.out HRl.out HBV.out IV.out PV.out HB1s.out oo.out gg.out ee.out tl.out gZ.out eZ.out mu.out M9.out G9.out tn.out
          exact ⟨own', rfl, hown, hfr⟩
theorem number_ (g : Nat) (hs : List (List UInt8)) (own R : List Nat) (Q : Option Addr) (qc : Nat) (h : List UInt8) (w : World) (hI : IdealAt w g hs own R) (hp : RdL w w.heap.size Q 1 [h]) (hh : h.length ≤ 1000000)
    (hn : hs.length ≤ 1000000) (hR : ∀ k, k ∈ R → k < w.heap.size) :
    Calls Try.prog 65 #[.pointer (some ⟨g, 0, none⟩), .agg #[.int .u8 104, .slice Q 1 qc]] w fun e w' => ∃ own', e = .returned (.int .i64 ((hs.idxOf h + 1 : Nat) : Int)) ∧ IdealAt w' g (note hs h) own' R ∧ Fr own w w' own' := by
  obtain ⟨A, c, b, Qs, f, hv⟩ := hI
  by_cases hm : h ∈ hs
  · refine (number_hit g hs own R A c b Qs f Q qc h w hv hp hh hm).mono ?_
    rintro e w' ⟨rfl, hb⟩
    refine ⟨own, rfl, ?_, Fr.below hb⟩
    rw [note, if_pos hm]
    exact ⟨A, c, b, Qs, f, hv.below hb⟩
  · refine (number_new g hs own R A c b Qs f Q qc h w hv hp hh hm hn hR).mono ?_
    rintro e w' ⟨own', rfl, hi, hf⟩
    refine ⟨own', ?_, ?_, hf⟩
    · rw [List.idxOf_eq_length hm]
    · rw [note, if_neg hm]; exact hi
end Go.Proofs.Ytabcbpcfleociaa
