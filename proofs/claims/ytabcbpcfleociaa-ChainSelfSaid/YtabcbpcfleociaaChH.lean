/- Steps of drawn regions: an append that grows, a map's update, a copy. No function of the program. -/
import Derived.Test.YtabcbpcfleociaaChG
import Derived.ArgAppend
import Derived.Great.BuildSlice
namespace Go.Proofs.Ytabcbpcfleociaa
open Go.RowKit Go.Maps
set_option linter.unusedSimpArgs false
set_option linter.unusedVariables false
section
variable {P : Program} {w : World}
theorem wpList_build_v {ops : Array Oper} {rest : List Oper} {o : Oper} {a : Act} {Q : Exit → Act → World → Prop} (hg : o.guard = none) (t : TypeId) (parts : Array (Nat × Operand)) (ho : o.op = .build t parts) (v : Array Value)
    (hv : P.built t (parts.map fun (i, x) => (i, a.eval x)).toList = some v)
    (h : wpList P ops Q rest (a.put o.dst (.agg v)) w) : wpList P ops Q (o :: rest) a w :=
  wpList_build hg t parts ho (by rw [hv]; rfl) (by rw [hv]; exact h)
/-- An append onto a full slice. -/
theorem run_grow (t ty e : TypeId) (i : TypeInfo) (z : Value) (size bytes : Nat) (h1 : P.underlying t = some (.slice e)) (h2 : P.info? e = some i) (h3 : i.zero = some z) (h4 : i.size = size) (h5 : i.bytes = bytes) (h6 : z.cells.size = size) (h7 : 0 < size)
    (A : Option Addr) (n : Nat) (olds : List Value) (hr : Rd w w.heap.size size A n olds) (hnone : A = none → n = 0) (B : Nat) (g : Nat) (m c : Nat) (news : List Value) (hn : Rd w B size (some ⟨g, 0, none⟩) m news) (h1c : ∀ u ∈ news, u.oneCell' = true)
    (hm : 0 < m) (b1 : n + m ≤ maxLen) (b2 : (n + m) * bytes ≤ 140737488355328) :
    ∃ A' c' w', (Builtin.append_ #[t, t] ty #[.slice A n n, .slice (some ⟨g, 0, none⟩) m c]).run P w = .ok (.slice A' (n + m) c') w' ∧ w'.ownsRow w.heap.size e size (.slice A' (n + m) c') (n + m) (olds ++ news) ∧ w.grownBy w' none := by
  have shape : ∀ {W : World} {base k : Nat} {v' : Value} {ys : List Value}, W.ownsRow base e size v' k ys → ∃ A' c', v' = .slice A' k c' := by
    intro W base k v' ys h
    rcases h.2 with ⟨rfl, rfl⟩ | ⟨g, cap, cur, rfl, _⟩
    · exact ⟨_, _, rfl⟩
    · exact ⟨_, _, rfl⟩
  have hnew : ∀ j u, news[j]? = some u → w.cell? ((⟨g, 0, none⟩ : Addr).add j) = some u := by
    obtain ⟨b, o, e1, _, hc⟩ := hn.2 hm
    injection e1 with e1
    injection e1 with e2 e3
    subst e2 e3
    intro j u hu
    rw [addr_add]
    exact hc j u hu
  rcases A with _ | b
  · have hn0 := hnone rfl
    subst hn0
    obtain rfl : olds = [] := List.eq_nil_of_length_eq_zero (by simpa using hr.1)
    obtain ⟨v', w', hrun, r1, r2, _⟩ := run_append_own (P := P) w w.heap.size t ty e i z size bytes h1 h2 h3 h4 h5 h6 h7 (.slice none 0 0) 0 [] (World.ownsRow_nil w _ e size) ⟨g, 0, none⟩ m c news hn.1 hnew h1c b1 b2 (Nat.le_refl _)
    obtain ⟨A', c', rfl⟩ := shape r1
    exact ⟨A', c', w', hrun, r1, r2⟩
  · have holds : ∀ j u, olds[j]? = some u → w.cell? (b.add j) = some u := by
      intro j u hu
      rcases Nat.eq_zero_or_pos n with h0 | h0
      · subst h0
        obtain rfl : olds = [] := List.eq_nil_of_length_eq_zero (by simpa using hr.1)
        simp at hu
      · obtain ⟨b', o', e1, _, hc⟩ := hr.2 h0
        injection e1 with e1
        subst e1
        rw [addr_add]
        exact hc j u hu
    obtain ⟨v', w', hrun, r1, r2⟩ := run_append_arg_grows (P := P) w t ty e i z size bytes h1 h2 h3 h4 h5 h6 h7 b n n olds hr.1 holds ⟨g, 0, none⟩ m c news hn.1 hnew (by omega) b1 b2
    obtain ⟨A', c', rfl⟩ := shape r1
    exact ⟨A', c', w', hrun, r1, r2⟩
theorem step_grow {ops : Array Oper} {E : Prop} {o : Oper} {a : Act} {K : Act → World → Prop} {Q : Exit → Act → World → Prop} (s x : Operand) (t : TypeId)
    (hgd : o.guard = none) (hop : o.op = .call { callee := .builtin .append, args := #[s, x], argTypes := #[t, t] })
    (e : TypeId) (i : TypeInfo) (z : Value) (size bytes : Nat) (h1 : P.underlying t = some (.slice e)) (h2 : P.info? e = some i) (h3 : i.zero = some z) (h4 : i.size = size) (h5 : i.bytes = bytes) (h6 : z.cells.size = size) (h7 : 0 < size)
    (A : Option Addr) (n : Nat) (olds : List Value) (hs : a.eval s = .slice A n n) (hr : Rd w w.heap.size size A n olds) (hnone : A = none → n = 0) (B : Nat) (g : Nat) (m c : Nat) (news : List Value) (hx : a.eval x = .slice (some ⟨g, 0, none⟩) m c) (hn : Rd w B size (some ⟨g, 0, none⟩) m news) (h1c : ∀ u ∈ news, u.oneCell' = true)
    (hm : 0 < m) (b1 : n + m ≤ maxLen) (b2 : (n + m) * bytes ≤ 140737488355328)
    (h : ∀ A' c' w', w'.ownsRow w.heap.size e size (.slice A' (n + m) c') (n + m) (olds ++ news) → w.grownBy w' none → K (a.put o.dst (.slice A' (n + m) c')) w') :
    if Region.wanted o (yielded ops a.tmps) = true then Oper.wp P o a w K Q else E := by
  rw [if_pos (by simp [Region.wanted, hgd])]
  obtain ⟨A', c', w', hrun, r1, r2⟩ := run_grow (P := P) (w := w) t o.type e i z size bytes h1 h2 h3 h4 h5 h6 h7 A n olds hr hnone B g m c news hn h1c hm b1 b2
  unfold Oper.wp execOp
  simp only [hop, resolve, invoke, builtin, Sem.run_bind, Sem.run_pure, Result.andThen_ok, List.map_toArray, List.map_cons, List.map_nil, hs, hx, hrun]
  exact h A' c' w' r1 r2
theorem step_updV {ops : Array Oper} {E : Prop} {o : Oper} {a : Act} {K : Act → World → Prop} {Q : Exit → Act → World → Prop} (m x v : Operand) (t : TypeId)
    (hgd : o.guard = none) (hop : o.op = Op.mapUpdate t m x v)
    (k e : TypeId) (Ky : Keyed P k) (ht : P.underlying t = some (.map k e)) (z : Value) (b n : Nat) (f : Lit → Value)
    (hm : a.eval m = .map (some b)) (hown : MapV P k w b n z f) (hn : n < maxLen) (key val : Value) (kl : Lit) (hx : a.eval x = key) (hv : a.eval v = val) (hkey : keyOf P k key = some kl)
    (h : ∀ w', MapV P k w' b (n + 1) z (updV f kl val) → w.grownBy w' (some b) → K (a.put o.dst undef) w') :
    if Region.wanted o (yielded ops a.tmps) = true then Oper.wp P o a w K Q else E := by
  rw [if_pos (by simp [Region.wanted, hgd])]
  obtain ⟨w', hrun, r1, r2⟩ := hown.upd Ky ht hn (val := val) hkey
  unfold Oper.wp
  simp [execOp, hop, hm, hx, hv, hrun, Result.andThen]
  exact h w' r1 r2
/-- A copy into a block of one's own. -/
theorem step_copy_at {ops : Array Oper} {o : Oper} {a : Act} {K : Act → World → Prop} {Q : Exit → Act → World → Prop} {E : Prop} (d s : Operand) (dT sT : TypeId) (hgd : o.guard = none)
    (ho : o.op = .call { callee := .builtin .copy, args := #[d, s], argTypes := #[dT, sT] }) (elem : TypeId) (hu : P.underlying dT = some (.slice elem)) (hsz : (P.info? elem).map (·.size) = some 1)
    (g off n dCap : Nat) (A : Option Addr) (sCap : Nat) (hd : a.eval d = .slice (some ⟨g, off, none⟩) n dCap) (hs : a.eval s = .slice A n sCap) (hn0 : 0 < n)
    (cur : List Value) (t : TypeId) (hg : w.heap[g]? = some (.cells cur.toArray t (0, 0))) (cs : List Value) (B : Nat) (hr : Rd w B 1 A n cs)
    (hfit : off + n ≤ cur.length) (h1 : ∀ v ∈ cs, v.oneCell' = true)
    (h : ∀ w', w'.heap[g]? = some (.cells (splice cur off cs).toArray t (0, 0)) → w.grownBy w' (some g) → K (a.put o.dst (goInt cs.length)) w') :
    if Region.wanted o (yielded ops a.tmps) = true then Oper.wp P o a w K Q else E := by
  have hw : Region.wanted o (yielded ops a.tmps) = true := by simp [Region.wanted, hgd]
  rw [if_pos hw]
  have hl := hr.len
  obtain ⟨b, of, rfl, _, hc⟩ := hr.2 hn0
  have hrun := run_copy_row (P := P) w dT sT o.type elem g off n dCap ⟨b, of, none⟩ n sCap cur.toArray t cs hu hsz hg (by rw [hl]; exact (Nat.min_self n).symm) (fun j v hj => by rw [addr_add]; exact hc j v hj) (by rw [hl]; simpa using hfit) h1
  unfold Oper.wp
  simp [execOp, ho, resolve, invoke, builtin, hd, hs, hrun, Result.andThen]
  refine h _ ?_ ⟨rfl, rfl, rfl, by rw [setRow_size]; exact Nat.le_refl _, fun k hk hne => setRow_other w g k _ (fun e => hne (by rw [e]))⟩
  simpa [splice] using setRow_heap w g _ _ t _ hg
end
theorem info65z : ∃ i z, Try.prog.info? 114 = some i ∧ i.zero = some z ∧ i.size = 65 ∧ i.bytes = 72 ∧ z.cells.size = 65 := by
  have h1 : (Try.prog.info? 114).map (fun i => (i.size, i.bytes, i.zero.map (·.cells.size))) = some (65, 72, some 65) := by kernel_rfl
  rcases hi : Try.prog.info? 114 with _ | i
  · rw [hi] at h1; cases h1
  · rw [hi] at h1
    simp at h1
    obtain ⟨h2, h3, z, h4, h5⟩ := h1
    exact ⟨i, z, rfl, h4, h2, h3, h5⟩
theorem step_lit65 {w : World} {ops : Array Oper} {E : Prop} {o : Oper} {a : Act} {K : Act → World → Prop} {Q : Exit → Act → World → Prop} (x : Operand) (hgd : o.guard = none) (ho : o.op = .buildSlice 102 1 #[(0, x)])
    (k : Kn) (hk : k.ok) (hx : a.eval x = .agg (knC k).toArray)
    (h : K (a.put o.dst (.slice (some ⟨w.heap.size, 0, none⟩) 1 1)) (w.alloc (.cells (knC k).toArray 114))) : if Region.wanted o (yielded ops a.tmps) = true then Oper.wp Try.prog o a w K Q else E := by
  rw [if_pos (by simp [Region.wanted, hgd])]
  obtain ⟨i, z, h1, h2, h3, _, h4⟩ := info65z
  have hl := knC_len hk
  refine wp_buildSlice 102 114 1 #[(0, x)] ho (knC k).toArray i z Try.underlying102 h1 h2 (by rw [h3]; decide) (by rw [h3]; decide) ?_ h
  have gen : ∀ zs : Array Value, zs.size = 65 → Instr.fill (fun i => some (i * 65, 65)) zs [(0, .agg (knC k).toArray)] = some (knC k).toArray := by
    intro zs hz
    have := Great.fill_whole (s := 65) (by decide) [.agg (knC k).toArray] zs (by intro v hv; simp at hv; subst hv; simp [Value.cells, hl]) (by simp [hz])
    simpa [Value.cells] using this
  have e1 : (#[(0, x)].map fun (i, x) => (i, a.eval x)).toList = [(0, .agg (knC k).toArray)] := by simp [hx]
  rw [h3, e1]
  exact gen _ (by simp)
def kn0 (x : Int) : Kn := ⟨List.replicate 32 0, List.replicate 32 0, x⟩
theorem built65 (x : Int) : Try.prog.built 114 [(2, .int .i64 x)] = some (knC (kn0 x)).toArray := by kernel_rfl
theorem splice_dg {x : Int} {d : List UInt8} (h : d.length = 32) : splice (knC (kn0 x)) 0 (d.map B8) = knC ⟨d, List.replicate 32 0, x⟩ := by
  unfold splice
  rw [List.take_zero, List.nil_append, Nat.zero_add, List.length_map, h]
  show _ = d.map B8 ++ (List.replicate 32 0).map B8 ++ [_]
  rw [List.append_assoc]
  congr 1
theorem splice_bd {x : Int} {d b : List UInt8} (hd : d.length = 32) (hb : b.length = 32) : splice (knC ⟨d, List.replicate 32 0, x⟩) 32 (b.map B8) = knC ⟨d, b, x⟩ := by
  unfold splice knC
  rw [List.length_map, hb]
  simp only [List.append_assoc]
  rw [List.take_left' (by rw [List.length_map, hd])]
  congr 2
  rw [List.drop_append, List.length_map, hd, List.drop_eq_nil_of_le (by rw [List.length_map, hd]; omega), List.nil_append]
  rfl
end Go.Proofs.Ytabcbpcfleociaa
