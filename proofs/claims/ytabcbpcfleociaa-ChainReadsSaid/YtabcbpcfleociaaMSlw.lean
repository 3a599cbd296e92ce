/- A slice of the call's own, at any offset of its block: cut, appended to; what was read behind it stays. No program in sight. -/
import Derived.Test.YtabcbpcfleociaaMMem
import Derived.Deep.Upon
namespace Go.Proofs.Ytabcbpcfleociaa
open Go.RowKit
set_option linter.unusedSimpArgs false
set_option linter.unusedVariables false

/-- The slice at A (n elements of one cell, capacity c) holds xs, lies in a block from 'base' on, all its c cells are there and none is frozen. -/
structure OwnS (w : World) (base : Nat) (A : Option Addr) (n c : Nat) (xs : List Value) : Prop where
  len : xs.length = n
  le : n ≤ c
  max : c ≤ maxLen
  mem : 0 < c → ∃ g o, A = some ⟨g, o, none⟩ ∧ base ≤ g ∧ (∀ j u, xs[j]? = some u → w.cell? ⟨g, o + j, none⟩ = some u) ∧ (∀ j, j < c → (w.cell? ⟨g, o + j, none⟩).isSome = true ∧ w.frozen? ⟨g, o + j, none⟩ = false)

section
variable {w w' : World} {base n c : Nat} {A : Option Addr} {xs : List Value}
theorem OwnS.rd (h : OwnS w base A n c xs) : Rd w w.heap.size 1 A n xs := by
  refine ⟨by rw [h.len]; omega, fun hn => ?_⟩
  obtain ⟨g, o, rfl, _, hc, ht⟩ := h.mem (Nat.lt_of_lt_of_le hn h.le)
  exact ⟨g, o, rfl, World.block_lt_of_cell? _ _ (Option.isSome_iff_exists.1 (ht 0 (Nat.lt_of_lt_of_le hn h.le)).1).choose_spec, hc⟩
theorem OwnS.to (h : OwnS w base A n c xs) (hb : Below w.heap.size w w') : OwnS w' base A n c xs := by
  refine ⟨h.len, h.le, h.max, fun hc0 => ?_⟩
  obtain ⟨g, o, e, hg, hc, ht⟩ := h.mem hc0
  have hgl : g < w.heap.size := World.block_lt_of_cell? _ _ (Option.isSome_iff_exists.1 (ht 0 hc0).1).choose_spec
  have e1 := hb.block g hgl
  exact ⟨g, o, e, hg, fun j u hu => (World.cell?_of_block (a := ⟨g, o + j, none⟩) e1).trans (hc j u hu), fun j hj => ⟨by rw [World.cell?_of_block (a := ⟨g, o + j, none⟩) e1]; exact (ht j hj).1, (World.frozen?_of_block (a := ⟨g, o + j, none⟩) e1).trans (ht j hj).2⟩⟩
theorem OwnS.mono {base' : Nat} (h : OwnS w base A n c xs) (hb : base' ≤ base) : OwnS w base' A n c xs :=
  ⟨h.len, h.le, h.max, fun hc0 => by obtain ⟨g, o, e, hg, r⟩ := h.mem hc0; exact ⟨g, o, e, Nat.le_trans hb hg, r⟩⟩
theorem OwnS.nil (w : World) (base : Nat) (A : Option Addr) : OwnS w base A 0 0 [] := ⟨rfl, Nat.le_refl _, Nat.zero_le _, fun h => absurd h (by omega)⟩
theorem own_cap' {w : World} {base n c : Nat} {A : Option Addr} {xs : List Value} {e : TypeId} (h : w.ownsRow base e 1 (.slice A n c) n xs) : n ≤ c := by
  rcases h.2 with ⟨hv, h0⟩ | ⟨g, cap, cur, hv, _, _, hnc, _⟩
  · omega
  · injection hv with _ _ h3; omega
theorem OwnS.of_own {e : TypeId} (h : w.ownsRow base e 1 (.slice A n c) n xs) : OwnS w base A n c xs := by
  refine ⟨by simpa using h.1, own_cap' h, ?_, fun hc0 => ?_⟩
  · rcases h.2 with ⟨hv, h0⟩ | ⟨g, cap, cur, hv, hb, hh, hnc, hcm, _⟩
    · injection hv with _ _ h3; subst h3; simp [maxLen]
    · injection hv with _ _ h3; subst h3; exact hcm
  · rcases h.2 with ⟨hv, h0⟩ | ⟨g, cap, cur, hv, hb, hh, hnc, hcm, hcs, ht⟩
    · injection hv with _ _ h3; omega
    · injection hv with h1 _ h3
      subst h1 h3
      refine ⟨g, 0, rfl, hb, fun j u hu => ?_, fun j hj => ?_⟩
      · have := h.cells (g := g) rfl j u hu
        rwa [addr_add] at this
      · rw [Nat.zero_add]
        refine ⟨?_, h.frozenAt j⟩
        simp only [World.cell?, hh]
        rw [Array.getElem?_eq_getElem (by omega)]
        rfl
theorem OwnS.cut (h : OwnS w base A n c xs) {k : Nat} (hk : k ≤ n) : OwnS w base (if c = k then A else A.map (·.add (k * 1))) (n - k) (c - k) (xs.drop k) := by
  refine ⟨by rw [List.length_drop, h.len], by have := h.le; omega, by have := h.max; omega, fun hc0 => ?_⟩
  obtain ⟨g, o, rfl, hg, hc, ht⟩ := h.mem (by omega)
  rw [if_neg (by omega)]
  refine ⟨g, o + k * 1, by simp [addr_add], hg, fun j u hu => ?_, fun j hj => ?_⟩
  · rw [Nat.mul_one, Nat.add_assoc]
    exact hc _ u (by rw [← hu, List.getElem?_drop])
  · rw [Nat.mul_one, Nat.add_assoc]
    exact ht _ (by omega)
end

theorem heap_of_setCells (w : World) (g o : Nat) (vs : List Value) : (w.setCells g o vs).tape = w.tape ∧ (w.setCells g o vs).heap.size = w.heap.size := by
  induction vs generalizing w o with
  | nil => exact ⟨rfl, rfl⟩
  | cons v vs ih =>
    simp only [World.setCells]
    refine ⟨(ih _ _).1.trans rfl, (ih _ _).2.trans ?_⟩
    simp [World.setCell]

section
variable {P : Program} {w : World}
/-- What an append onto a slice of one's own leaves: all that was read behind the slice is there still. -/
theorem run_append_S (base : Nat) (t ty e : TypeId) (bytes : Nat) (z : Value) (ht : P.underlying t = some (.slice e)) (hi : (P.info? e).map (fun i => (i.zero, i.size, i.bytes)) = some (some z, 1, bytes))
    (hzs : z.cells.size = 1) (A : Option Addr) (n c : Nat) (xs : List Value) (hown : OwnS w base A n c xs)
    (B : Nat) (A2 : Option Addr) (m c2 : Nat) (news : List Value) (hr : Rd w B 1 A2 m news) (h1 : ∀ u ∈ news, u.oneCell' = true)
    (h63 : n + m ≤ maxLen) (hbytes : (n + m) * bytes ≤ 140737488355328) (hbase : base ≤ w.heap.size) :
    ∃ A' c' w', (Builtin.append_ #[t, t] ty #[.slice A n c, .slice A2 m c2]).run P w = .ok (.slice A' (n + m) c') w' ∧ OwnS w' base A' (n + m) c' (xs ++ news) ∧ Below base w w' ∧
      (∀ j u g o, A = some ⟨g, o, none⟩ → xs[j]? = some u → w.cell? ⟨g, o + j, none⟩ = some u → w'.cell? ⟨g, o + j, none⟩ = some u) ∧
      (∀ k, k < w.heap.size → (∀ g o, A = some ⟨g, o, none⟩ → k ≠ g) → w'.heap[k]? = w.heap[k]?) := by
  obtain ⟨i, hi0, hz, hs, hb⟩ := info_parts hi
  have hxl := hown.len
  have hnl : news.length = m := hr.len
  by_cases hm : m = 0
  · subst hm
    have hn : news = [] := List.eq_nil_of_length_eq_zero hnl
    subst hn
    have hsrc : Src P i.size t (.slice A2 0 c2) 0 [] w := by
      refine ⟨.inl ⟨e, ht⟩, fun _ => rfl, ?_, ?_, by simp, fun _ h => by cases h⟩
      · rcases A2 with _ | a2 <;> simp [Builtin.firstCells, loadCells, loadCellsFrom]
      · rcases A2 with _ | a2 <;> simp [Builtin.firstCells, loadCells, loadCellsFrom]
    exact ⟨A, c, w, run_append_nothing w t t ty e i ht hi0 A n c hown.le _ hsrc, by simpa using hown, Below.refl _ _, fun j u g o _ _ h => h, fun _ _ _ => rfl⟩
  · obtain ⟨b2, o2, rfl, _, hcell2⟩ := hr.2 (by omega)
    have hsrc : Src P i.size t (.slice (some ⟨b2, o2, none⟩) m c2) m news w := Src.ofSlice (P := P) w ht ⟨b2, o2, none⟩ m c2 news (by rw [hs, hnl, Nat.mul_one]) (fun j u hu => by rw [addr_add]; exact hcell2 j u hu) h1
    by_cases hroom : n + m ≤ c
    · obtain ⟨g, o, rfl, hg, hc, hth⟩ := hown.mem (by omega)
      have hrun := run_append_room_src (P := P) w t t ty e i ht hi0 g o n c (.slice (some ⟨b2, o2, none⟩) m c2) m news hsrc hroom
        (fun j hj => by rw [hs, Nat.mul_one, Nat.add_assoc]; exact (hth (n + j) (by omega)).1) (fun j hj => by rw [hs, Nat.mul_one, Nat.add_assoc]; exact (hth (n + j) (by omega)).2)
      rw [hs, Nat.mul_one] at hrun
      have hgl : g < w.heap.size := World.block_lt_of_cell? _ _ (Option.isSome_iff_exists.1 (hth 0 (by omega)).1).choose_spec
      have hin : ∀ j (hj : j < news.length), (w.setCells g (o + n) news).cell? ⟨g, o + n + j, none⟩ = some news[j] := World.cell?_setCells_in g news (o + n) w (fun j hj => by rw [Nat.add_assoc]; exact (hth (n + j) (by omega)).1)
      have hout : ∀ j, j < n → (w.setCells g (o + n) news).cell? ⟨g, o + j, none⟩ = w.cell? ⟨g, o + j, none⟩ := fun j hj => World.cell?_setCells_out g news (o + n) w ⟨g, o + j, none⟩ (fun _ _ => .inl (by show o + j < o + n; omega))
      obtain ⟨htp, hsz⟩ := heap_of_setCells w g (o + n) news
      refine ⟨_, _, _, hrun, ⟨by rw [List.length_append]; omega, hroom, hown.max, fun _ => ⟨g, o, rfl, hg, fun j u hu => ?_, fun j hj => ⟨?_, ?_⟩⟩⟩, ⟨World.os_setCells _ _ _ _, htp, World.output_setCells _ _ _ _, by rw [hsz]; exact Nat.le_refl _, fun k hk => World.heap_setCells_other _ _ _ _ (Nat.lt_of_lt_of_le hk hbase) (by omega)⟩, fun j u g' o' e1 hj hc' => ?_, fun k hk hk' => World.heap_setCells_other _ _ _ _ hk (hk' g o rfl)⟩
      · rcases Nat.lt_or_ge j n with hj | hj
        · rw [List.getElem?_append_left (by omega)] at hu
          rw [hout j hj]; exact hc j u hu
        · rw [List.getElem?_append_right (by omega)] at hu
          have hjl : j - xs.length < news.length := by
            rcases Nat.lt_or_ge (j - xs.length) news.length with h | h
            · exact h
            · rw [List.getElem?_eq_none h] at hu; cases hu
          have := hin (j - xs.length) hjl
          rw [show o + n + (j - xs.length) = o + j by omega] at this
          rw [this, ← hu, List.getElem?_eq_getElem hjl]
      · by_cases hjn : j < n
        · rw [hout j hjn]; exact (hth j hj).1
        · by_cases hjm : j < n + m
          · have := hin (j - n) (by omega)
            rw [show o + n + (j - n) = o + j by omega] at this
            rw [this]; rfl
          · rw [World.cell?_setCells_out g news (o + n) w ⟨g, o + j, none⟩ (fun _ _ => .inr (by show o + n + news.length ≤ o + j; omega))]
            exact (hth j hj).1
      · rw [World.frozen?_setCells]; exact (hth j hj).2
      · injection e1 with e1
        injection e1 with e2 e3
        subst e2 e3
        have hjn : j < n := by
          rcases Nat.lt_or_ge j n with h | h
          · exact h
          · rw [List.getElem?_eq_none (by omega)] at hj; cases hj
        rw [hout j hjn]; exact hc'
    · have hold : (Builtin.firstCells i.size n (.slice A n c)).run P w.drew = .ok xs.toArray w.drew := by
        rw [hs]
        by_cases hn0 : n = 0
        · subst hn0
          have : xs = [] := List.eq_nil_of_length_eq_zero hxl
          subst this
          rcases A with _ | a <;> simp [Builtin.firstCells, loadCells, loadCellsFrom]
        · obtain ⟨g, o, rfl, hg, hc, hth⟩ := hown.mem (by have := hown.le; omega)
          exact run_firstCells_some (P := P) w.drew 1 n ⟨g, o, none⟩ n c xs (by rw [hxl, Nat.mul_one]) (fun j u hu => by rw [addr_add]; exact hc j u hu)
      have hrun := run_append_grow_src (P := P) w t t ty e i z ht hi0 hz A n c xs hold (.slice (some ⟨b2, o2, none⟩) m c2) m news hsrc (by omega) (by simp only [maxLen] at h63; omega) (growslice_fits (by omega) (by rw [hb]; exact hbytes))
      have hge := grownCap_ge w (n + m) c e
      have hle := grownCap_le_maxLen w (n + m) c e h63
      refine ⟨_, _, _, hrun, ⟨by rw [List.length_append]; omega, hge, hle, fun _ => ⟨w.heap.size, 0, rfl, hbase, fun j u hu => ?_, fun j hj => ⟨?_, ?_⟩⟩⟩, ?_, fun j u g' o' e1 hj hc' => ?_, fun k hk _ => Below.heap_alloc w.drew _ k hk⟩
      · have hj : j < (xs ++ news).length := by
          rcases Nat.lt_or_ge j (xs ++ news).length with h | h
          · exact h
          · rw [List.getElem?_eq_none h] at hu; cases hu
        rw [Nat.zero_add]
        have hh := heap_alloc_new w.drew (.cells ((xs ++ news).toArray ++ Builtin.zeroCells z.cells (grownCap w (n + m) c e - (n + m))) e)
        simp only [World.cell?, show w.heap.size = w.drew.heap.size from rfl, hh]
        rw [Array.getElem?_append_left (by simpa using hj)]
        simpa using hu
      · have hh := heap_alloc_new w.drew (.cells ((xs ++ news).toArray ++ Builtin.zeroCells z.cells (grownCap w (n + m) c e - (n + m))) e)
        rw [Nat.zero_add]
        simp only [World.cell?, show w.heap.size = w.drew.heap.size from rfl, hh]
        rw [Array.getElem?_eq_getElem (by rw [Array.size_append, size_zeroCells, hzs, List.size_toArray, List.length_append]; omega)]
        rfl
      · have hh := heap_alloc_new w.drew (.cells ((xs ++ news).toArray ++ Builtin.zeroCells z.cells (grownCap w (n + m) c e - (n + m))) e)
        rw [show w.heap.size = w.drew.heap.size from rfl]
        simp only [World.frozen?, hh]
        simp
      · exact (⟨rfl, rfl, rfl, Nat.le_refl _, fun _ _ => rfl⟩ : Below base w w.drew).alloc hbase _
      · exact (World.cell?_of_block (a := ⟨g', o' + j, none⟩) (Below.heap_alloc w.drew _ g' (World.block_lt_of_cell? _ _ hc'))).trans hc'

theorem wp_apS {o : Oper} {a : Act} {K : Act → World → Prop} {Q : Exit → Act → World → Prop} (s x : Operand) (t : TypeId)
    (ho : o.op = .call { callee := .builtin .append, args := #[s, x], argTypes := #[t, t] })
    (base : Nat) (e : TypeId) (bytes : Nat) (z : Value) (ht : P.underlying t = some (.slice e)) (hi : (P.info? e).map (fun i => (i.zero, i.size, i.bytes)) = some (some z, 1, bytes)) (hzs : z.cells.size = 1)
    (A : Option Addr) (n c : Nat) (xs : List Value) (hs : a.eval s = .slice A n c) (hown : OwnS w base A n c xs)
    (B : Nat) (A2 : Option Addr) (m c2 : Nat) (news : List Value) (hx : a.eval x = .slice A2 m c2) (hr : Rd w B 1 A2 m news) (h1 : ∀ u ∈ news, u.oneCell' = true)
    (h63 : n + m ≤ maxLen) (hbytes : (n + m) * bytes ≤ 140737488355328) (hbase : base ≤ w.heap.size)
    (h : ∀ A' c' w', OwnS w' base A' (n + m) c' (xs ++ news) → Below base w w' →
      (∀ j u g o, A = some ⟨g, o, none⟩ → xs[j]? = some u → w.cell? ⟨g, o + j, none⟩ = some u → w'.cell? ⟨g, o + j, none⟩ = some u) →
      (∀ k, k < w.heap.size → (∀ g o, A = some ⟨g, o, none⟩ → k ≠ g) → w'.heap[k]? = w.heap[k]?) →
      K (a.put o.dst (.slice A' (n + m) c')) w') : o.wp P a w K Q := by
  obtain ⟨A', c', w', hrun, h2, h3, h4, h5⟩ := run_append_S (P := P) base t o.type e bytes z ht hi hzs A n c xs hown B A2 m c2 news hr h1 h63 hbytes hbase
  unfold Oper.wp execOp
  simp only [ho, resolve, invoke, builtin, Sem.run_bind, Sem.run_pure, Result.andThen_ok, List.map_toArray, List.map_cons, List.map_nil, hs, hx, hrun]
  exact h A' c' w' h2 h3 h4 h5

/-- As one step of a region that draws. -/
theorem step_apS {ops : Array Oper} {E : Prop} {o : Oper} {a : Act} {K : Act → World → Prop} {Q : Exit → Act → World → Prop} (s x : Operand) (t : TypeId)
    (hgd : o.guard = none) (ho : o.op = .call { callee := .builtin .append, args := #[s, x], argTypes := #[t, t] })
    (base : Nat) (e : TypeId) (bytes : Nat) (z : Value) (ht : P.underlying t = some (.slice e)) (hi : (P.info? e).map (fun i => (i.zero, i.size, i.bytes)) = some (some z, 1, bytes)) (hzs : z.cells.size = 1)
    (A : Option Addr) (n c : Nat) (xs : List Value) (hs : a.eval s = .slice A n c) (hown : OwnS w base A n c xs)
    (B : Nat) (A2 : Option Addr) (m c2 : Nat) (news : List Value) (hx : a.eval x = .slice A2 m c2) (hr : Rd w B 1 A2 m news) (h1 : ∀ u ∈ news, u.oneCell' = true)
    (h63 : n + m ≤ maxLen) (hbytes : (n + m) * bytes ≤ 140737488355328) (hbase : base ≤ w.heap.size)
    (h : ∀ A' c' w', OwnS w' base A' (n + m) c' (xs ++ news) → Below base w w' →
      (∀ j u g o, A = some ⟨g, o, none⟩ → xs[j]? = some u → w.cell? ⟨g, o + j, none⟩ = some u → w'.cell? ⟨g, o + j, none⟩ = some u) →
      (∀ k, k < w.heap.size → (∀ g o, A = some ⟨g, o, none⟩ → k ≠ g) → w'.heap[k]? = w.heap[k]?) →
      K (a.put o.dst (.slice A' (n + m) c')) w') : if Region.wanted o (yielded ops a.tmps) = true then Oper.wp P o a w K Q else E := by
  rw [if_pos (by simp [Region.wanted, hgd])]
  exact wp_apS s x t ho base e bytes z ht hi hzs A n c xs hs hown B A2 m c2 news hx hr h1 h63 hbytes hbase h

/-- For the walk of a plain region. -/
theorem wpList_apS {ops : Array Oper} {rest : List Oper} {o : Oper} {a : Act} {Q : Exit → Act → World → Prop} (hgd : o.guard = none) (s x : Operand) (t : TypeId)
    (ho : o.op = .call { callee := .builtin .append, args := #[s, x], argTypes := #[t, t] })
    (base : Nat) (e : TypeId) (bytes : Nat) (z : Value) (ht : P.underlying t = some (.slice e)) (hi : (P.info? e).map (fun i => (i.zero, i.size, i.bytes)) = some (some z, 1, bytes)) (hzs : z.cells.size = 1)
    (A : Option Addr) (n c : Nat) (xs : List Value) (hs : a.eval s = .slice A n c) (hown : OwnS w base A n c xs)
    (B : Nat) (A2 : Option Addr) (m c2 : Nat) (news : List Value) (hx : a.eval x = .slice A2 m c2) (hr : Rd w B 1 A2 m news) (h1 : ∀ u ∈ news, u.oneCell' = true)
    (h63 : n + m ≤ maxLen) (hbytes : (n + m) * bytes ≤ 140737488355328) (hbase : base ≤ w.heap.size)
    (h : ∀ A' c' w', OwnS w' base A' (n + m) c' (xs ++ news) → Below base w w' →
      (∀ j u g o, A = some ⟨g, o, none⟩ → xs[j]? = some u → w.cell? ⟨g, o + j, none⟩ = some u → w'.cell? ⟨g, o + j, none⟩ = some u) →
      (∀ k, k < w.heap.size → (∀ g o, A = some ⟨g, o, none⟩ → k ≠ g) → w'.heap[k]? = w.heap[k]?) →
      wpList P ops Q rest (a.put o.dst (.slice A' (n + m) c')) w') : wpList P ops Q (o :: rest) a w :=
  wpList_plain hgd fun _ hK => wp_apS s x t ho base e bytes z ht hi hzs A n c xs hs hown B A2 m c2 news hx hr h1 h63 hbytes hbase fun A' c' w' h2 h3 h4 h5 => hK _ _ (h A' c' w' h2 h3 h4 h5)
end
/-- Of W all is there still but what is not read of one slice's block: what a statement that appends to that slice leaves. -/
def Sta (W : World) (A : Option Addr) (xs : List Value) (w : World) : Prop :=
  W.heap.size ≤ w.heap.size ∧ (∀ k, k < W.heap.size → (∀ g o, A = some ⟨g, o, none⟩ → k ≠ g) → w.heap[k]? = W.heap[k]?) ∧
  (∀ j u g o, A = some ⟨g, o, none⟩ → xs[j]? = some u → W.cell? ⟨g, o + j, none⟩ = some u → w.cell? ⟨g, o + j, none⟩ = some u)
theorem Sta.refl (W : World) (A : Option Addr) (xs : List Value) : Sta W A xs W := ⟨Nat.le_refl _, fun _ _ _ => rfl, fun _ _ _ _ _ _ h => h⟩
theorem Sta.below {W w w' : World} {A : Option Addr} {xs : List Value} (h : Sta W A xs w) (hb : Below w.heap.size w w') : Sta W A xs w' :=
  ⟨Nat.le_trans h.1 hb.size, fun k hk hk' => (hb.block k (Nat.lt_of_lt_of_le hk h.1)).trans (h.2.1 k hk hk'), fun j u g o e hj hc => by
    have h1 := h.2.2 j u g o e hj hc
    exact (World.cell?_of_block (a := ⟨g, o + j, none⟩) (hb.block g (World.block_lt_of_cell? _ _ h1))).trans h1⟩
theorem Sta.app {W w w' : World} {A : Option Addr} {xs : List Value} (h : Sta W A xs w) (hs : w.heap.size ≤ w'.heap.size)
    (h4 : ∀ j u g o, A = some ⟨g, o, none⟩ → xs[j]? = some u → w.cell? ⟨g, o + j, none⟩ = some u → w'.cell? ⟨g, o + j, none⟩ = some u)
    (h5 : ∀ k, k < w.heap.size → (∀ g o, A = some ⟨g, o, none⟩ → k ≠ g) → w'.heap[k]? = w.heap[k]?) : Sta W A xs w' :=
  ⟨Nat.le_trans h.1 hs, fun k hk hk' => (h5 k (Nat.lt_of_lt_of_le hk h.1) hk').trans (h.2.1 k hk hk'), fun j u g o e hj hc => h4 j u g o e hj (h.2.2 j u g o e hj hc)⟩
end Go.Proofs.Ytabcbpcfleociaa

/- An append to a slice of one's own that says where the new slice lies. No program in sight. -/
namespace Go.Proofs.Ytabcbpcfleociaa
open Go.RowKit
set_option linter.unusedSimpArgs false
set_option linter.unusedVariables false
section
variable {P : Program} {w : World}
theorem run_append_T (base : Nat) (t ty e : TypeId) (bytes : Nat) (z : Value) (ht : P.underlying t = some (.slice e)) (hi : (P.info? e).map (fun i => (i.zero, i.size, i.bytes)) = some (some z, 1, bytes))
    (hzs : z.cells.size = 1) (A : Option Addr) (n c : Nat) (xs : List Value) (hown : OwnS w base A n c xs)
    (B : Nat) (A2 : Option Addr) (m c2 : Nat) (news : List Value) (hr : Rd w B 1 A2 m news) (h1 : ∀ u ∈ news, u.oneCell' = true)
    (h63 : n + m ≤ maxLen) (hbytes : (n + m) * bytes ≤ 140737488355328) (hbase : base ≤ w.heap.size) :
    ∃ A' c' w', (Builtin.append_ #[t, t] ty #[.slice A n c, .slice A2 m c2]).run P w = .ok (.slice A' (n + m) c') w' ∧ OwnS w' base A' (n + m) c' (xs ++ news) ∧ Below base w w' ∧
      (∀ j u g o, A = some ⟨g, o, none⟩ → xs[j]? = some u → w.cell? ⟨g, o + j, none⟩ = some u → w'.cell? ⟨g, o + j, none⟩ = some u) ∧
      (∀ k, k < w.heap.size → (∀ g o, A = some ⟨g, o, none⟩ → k ≠ g) → w'.heap[k]? = w.heap[k]?) ∧ (A' = A ∨ A' = some ⟨w.heap.size, 0, none⟩ ∧ w.heap.size < w'.heap.size) := by
  obtain ⟨i, hi0, hz, hs, hb⟩ := info_parts hi
  have hxl := hown.len
  have hnl : news.length = m := hr.len
  by_cases hm : m = 0
  · subst hm
    have hn : news = [] := List.eq_nil_of_length_eq_zero hnl
    subst hn
    have hsrc : Src P i.size t (.slice A2 0 c2) 0 [] w := by
      refine ⟨.inl ⟨e, ht⟩, fun _ => rfl, ?_, ?_, by simp, fun _ h => by cases h⟩
      · rcases A2 with _ | a2 <;> simp [Builtin.firstCells, loadCells, loadCellsFrom]
      · rcases A2 with _ | a2 <;> simp [Builtin.firstCells, loadCells, loadCellsFrom]
    exact ⟨A, c, w, run_append_nothing w t t ty e i ht hi0 A n c hown.le _ hsrc, by simpa using hown, Below.refl _ _, fun j u g o _ _ h => h, fun _ _ _ => rfl, .inl rfl⟩
  · obtain ⟨b2, o2, rfl, _, hcell2⟩ := hr.2 (by omega)
    have hsrc : Src P i.size t (.slice (some ⟨b2, o2, none⟩) m c2) m news w := Src.ofSlice (P := P) w ht ⟨b2, o2, none⟩ m c2 news (by rw [hs, hnl, Nat.mul_one]) (fun j u hu => by rw [addr_add]; exact hcell2 j u hu) h1
    by_cases hroom : n + m ≤ c
    · obtain ⟨g, o, rfl, hg, hc, hth⟩ := hown.mem (by omega)
      have hrun := run_append_room_src (P := P) w t t ty e i ht hi0 g o n c (.slice (some ⟨b2, o2, none⟩) m c2) m news hsrc hroom
        (fun j hj => by rw [hs, Nat.mul_one, Nat.add_assoc]; exact (hth (n + j) (by omega)).1) (fun j hj => by rw [hs, Nat.mul_one, Nat.add_assoc]; exact (hth (n + j) (by omega)).2)
      rw [hs, Nat.mul_one] at hrun
      have hgl : g < w.heap.size := World.block_lt_of_cell? _ _ (Option.isSome_iff_exists.1 (hth 0 (by omega)).1).choose_spec
      have hin : ∀ j (hj : j < news.length), (w.setCells g (o + n) news).cell? ⟨g, o + n + j, none⟩ = some news[j] := World.cell?_setCells_in g news (o + n) w (fun j hj => by rw [Nat.add_assoc]; exact (hth (n + j) (by omega)).1)
      have hout : ∀ j, j < n → (w.setCells g (o + n) news).cell? ⟨g, o + j, none⟩ = w.cell? ⟨g, o + j, none⟩ := fun j hj => World.cell?_setCells_out g news (o + n) w ⟨g, o + j, none⟩ (fun _ _ => .inl (by show o + j < o + n; omega))
      obtain ⟨htp, hsz⟩ := heap_of_setCells w g (o + n) news
      refine ⟨_, _, _, hrun, ⟨by rw [List.length_append]; omega, hroom, hown.max, fun _ => ⟨g, o, rfl, hg, fun j u hu => ?_, fun j hj => ⟨?_, ?_⟩⟩⟩, ⟨World.os_setCells _ _ _ _, htp, World.output_setCells _ _ _ _, by rw [hsz]; exact Nat.le_refl _, fun k hk => World.heap_setCells_other _ _ _ _ (Nat.lt_of_lt_of_le hk hbase) (by omega)⟩, fun j u g' o' e1 hj hc' => ?_, fun k hk hk' => World.heap_setCells_other _ _ _ _ hk (hk' g o rfl), .inl rfl⟩
      · rcases Nat.lt_or_ge j n with hj | hj
        · rw [List.getElem?_append_left (by omega)] at hu
          rw [hout j hj]; exact hc j u hu
        · rw [List.getElem?_append_right (by omega)] at hu
          have hjl : j - xs.length < news.length := by
            rcases Nat.lt_or_ge (j - xs.length) news.length with h | h
            · exact h
            · rw [List.getElem?_eq_none h] at hu; cases hu
          have := hin (j - xs.length) hjl
          rw [show o + n + (j - xs.length) = o + j by omega] at this
          rw [this, ← hu, List.getElem?_eq_getElem hjl]
      · by_cases hjn : j < n
        · rw [hout j hjn]; exact (hth j hj).1
        · by_cases hjm : j < n + m
          · have := hin (j - n) (by omega)
            rw [show o + n + (j - n) = o + j by omega] at this
            rw [this]; rfl
          · rw [World.cell?_setCells_out g news (o + n) w ⟨g, o + j, none⟩ (fun _ _ => .inr (by show o + n + news.length ≤ o + j; omega))]
            exact (hth j hj).1
      · rw [World.frozen?_setCells]; exact (hth j hj).2
      · injection e1 with e1
        injection e1 with e2 e3
        subst e2 e3
        have hjn : j < n := by
          rcases Nat.lt_or_ge j n with h | h
          · exact h
          · rw [List.getElem?_eq_none (by omega)] at hj; cases hj
        rw [hout j hjn]; exact hc'
    · have hold : (Builtin.firstCells i.size n (.slice A n c)).run P w.drew = .ok xs.toArray w.drew := by
        rw [hs]
        by_cases hn0 : n = 0
        · subst hn0
          have : xs = [] := List.eq_nil_of_length_eq_zero hxl
          subst this
          rcases A with _ | a <;> simp [Builtin.firstCells, loadCells, loadCellsFrom]
        · obtain ⟨g, o, rfl, hg, hc, hth⟩ := hown.mem (by have := hown.le; omega)
          exact run_firstCells_some (P := P) w.drew 1 n ⟨g, o, none⟩ n c xs (by rw [hxl, Nat.mul_one]) (fun j u hu => by rw [addr_add]; exact hc j u hu)
      have hrun := run_append_grow_src (P := P) w t t ty e i z ht hi0 hz A n c xs hold (.slice (some ⟨b2, o2, none⟩) m c2) m news hsrc (by omega) (by simp only [maxLen] at h63; omega) (growslice_fits (by omega) (by rw [hb]; exact hbytes))
      have hge := grownCap_ge w (n + m) c e
      have hle := grownCap_le_maxLen w (n + m) c e h63
      refine ⟨_, _, _, hrun, ⟨by rw [List.length_append]; omega, hge, hle, fun _ => ⟨w.heap.size, 0, rfl, hbase, fun j u hu => ?_, fun j hj => ⟨?_, ?_⟩⟩⟩, ?_, fun j u g' o' e1 hj hc' => ?_, fun k hk _ => Below.heap_alloc w.drew _ k hk, .inr ⟨rfl, by show w.heap.size < (w.drew.heap.push _).size; rw [Array.size_push]; exact Nat.lt_succ_self _⟩⟩
      · have hj : j < (xs ++ news).length := by
          rcases Nat.lt_or_ge j (xs ++ news).length with h | h
          · exact h
          · rw [List.getElem?_eq_none h] at hu; cases hu
        rw [Nat.zero_add]
        have hh := heap_alloc_new w.drew (.cells ((xs ++ news).toArray ++ Builtin.zeroCells z.cells (grownCap w (n + m) c e - (n + m))) e)
        simp only [World.cell?, show w.heap.size = w.drew.heap.size from rfl, hh]
        rw [Array.getElem?_append_left (by simpa using hj)]
        simpa using hu
      · have hh := heap_alloc_new w.drew (.cells ((xs ++ news).toArray ++ Builtin.zeroCells z.cells (grownCap w (n + m) c e - (n + m))) e)
        rw [Nat.zero_add]
        simp only [World.cell?, show w.heap.size = w.drew.heap.size from rfl, hh]
        rw [Array.getElem?_eq_getElem (by rw [Array.size_append, size_zeroCells, hzs, List.size_toArray, List.length_append]; omega)]
        rfl
      · have hh := heap_alloc_new w.drew (.cells ((xs ++ news).toArray ++ Builtin.zeroCells z.cells (grownCap w (n + m) c e - (n + m))) e)
        rw [show w.heap.size = w.drew.heap.size from rfl]
        simp only [World.frozen?, hh]
        simp
      · exact (⟨rfl, rfl, rfl, Nat.le_refl _, fun _ _ => rfl⟩ : Below base w w.drew).alloc hbase _
      · exact (World.cell?_of_block (a := ⟨g', o' + j, none⟩) (Below.heap_alloc w.drew _ g' (World.block_lt_of_cell? _ _ hc'))).trans hc'

theorem wp_apT {o : Oper} {a : Act} {K : Act → World → Prop} {Q : Exit → Act → World → Prop} (s x : Operand) (t : TypeId)
    (ho : o.op = .call { callee := .builtin .append, args := #[s, x], argTypes := #[t, t] })
    (base : Nat) (e : TypeId) (bytes : Nat) (z : Value) (ht : P.underlying t = some (.slice e)) (hi : (P.info? e).map (fun i => (i.zero, i.size, i.bytes)) = some (some z, 1, bytes)) (hzs : z.cells.size = 1)
    (A : Option Addr) (n c : Nat) (xs : List Value) (hs : a.eval s = .slice A n c) (hown : OwnS w base A n c xs)
    (B : Nat) (A2 : Option Addr) (m c2 : Nat) (news : List Value) (hx : a.eval x = .slice A2 m c2) (hr : Rd w B 1 A2 m news) (h1 : ∀ u ∈ news, u.oneCell' = true)
    (h63 : n + m ≤ maxLen) (hbytes : (n + m) * bytes ≤ 140737488355328) (hbase : base ≤ w.heap.size)
    (h : ∀ A' c' w', OwnS w' base A' (n + m) c' (xs ++ news) → Below base w w' →
      (∀ j u g o, A = some ⟨g, o, none⟩ → xs[j]? = some u → w.cell? ⟨g, o + j, none⟩ = some u → w'.cell? ⟨g, o + j, none⟩ = some u) →
      (∀ k, k < w.heap.size → (∀ g o, A = some ⟨g, o, none⟩ → k ≠ g) → w'.heap[k]? = w.heap[k]?) → (A' = A ∨ A' = some ⟨w.heap.size, 0, none⟩ ∧ w.heap.size < w'.heap.size) →
      K (a.put o.dst (.slice A' (n + m) c')) w') : o.wp P a w K Q := by
  obtain ⟨A', c', w', hrun, h2, h3, h4, h5, h6⟩ := run_append_T (P := P) base t o.type e bytes z ht hi hzs A n c xs hown B A2 m c2 news hr h1 h63 hbytes hbase
  unfold Oper.wp execOp
  simp only [ho, resolve, invoke, builtin, Sem.run_bind, Sem.run_pure, Result.andThen_ok, List.map_toArray, List.map_cons, List.map_nil, hs, hx, hrun]
  exact h A' c' w' h2 h3 h4 h5 h6

theorem wpList_apT {ops : Array Oper} {rest : List Oper} {o : Oper} {a : Act} {Q : Exit → Act → World → Prop} (hgd : o.guard = none) (s x : Operand) (t : TypeId)
    (ho : o.op = .call { callee := .builtin .append, args := #[s, x], argTypes := #[t, t] })
    (base : Nat) (e : TypeId) (bytes : Nat) (z : Value) (ht : P.underlying t = some (.slice e)) (hi : (P.info? e).map (fun i => (i.zero, i.size, i.bytes)) = some (some z, 1, bytes)) (hzs : z.cells.size = 1)
    (A : Option Addr) (n c : Nat) (xs : List Value) (hs : a.eval s = .slice A n c) (hown : OwnS w base A n c xs)
    (B : Nat) (A2 : Option Addr) (m c2 : Nat) (news : List Value) (hx : a.eval x = .slice A2 m c2) (hr : Rd w B 1 A2 m news) (h1 : ∀ u ∈ news, u.oneCell' = true)
    (h63 : n + m ≤ maxLen) (hbytes : (n + m) * bytes ≤ 140737488355328) (hbase : base ≤ w.heap.size)
    (h : ∀ A' c' w', OwnS w' base A' (n + m) c' (xs ++ news) → Below base w w' →
      (∀ j u g o, A = some ⟨g, o, none⟩ → xs[j]? = some u → w.cell? ⟨g, o + j, none⟩ = some u → w'.cell? ⟨g, o + j, none⟩ = some u) →
      (∀ k, k < w.heap.size → (∀ g o, A = some ⟨g, o, none⟩ → k ≠ g) → w'.heap[k]? = w.heap[k]?) → (A' = A ∨ A' = some ⟨w.heap.size, 0, none⟩ ∧ w.heap.size < w'.heap.size) →
      wpList P ops Q rest (a.put o.dst (.slice A' (n + m) c')) w') : wpList P ops Q (o :: rest) a w :=
  wpList_plain hgd fun _ hK => wp_apT s x t ho base e bytes z ht hi hzs A n c xs hs hown B A2 m c2 news hx hr h1 h63 hbytes hbase fun A' c' w' h2 h3 h4 h5 h6 => hK _ _ (h A' c' w' h2 h3 h4 h5 h6)
theorem step_apT {ops : Array Oper} {E : Prop} {o : Oper} {a : Act} {K : Act → World → Prop} {Q : Exit → Act → World → Prop} (s x : Operand) (t : TypeId)
    (hgd : o.guard = none) (ho : o.op = .call { callee := .builtin .append, args := #[s, x], argTypes := #[t, t] })
    (base : Nat) (e : TypeId) (bytes : Nat) (z : Value) (ht : P.underlying t = some (.slice e)) (hi : (P.info? e).map (fun i => (i.zero, i.size, i.bytes)) = some (some z, 1, bytes)) (hzs : z.cells.size = 1)
    (A : Option Addr) (n c : Nat) (xs : List Value) (hs : a.eval s = .slice A n c) (hown : OwnS w base A n c xs)
    (B : Nat) (A2 : Option Addr) (m c2 : Nat) (news : List Value) (hx : a.eval x = .slice A2 m c2) (hr : Rd w B 1 A2 m news) (h1 : ∀ u ∈ news, u.oneCell' = true)
    (h63 : n + m ≤ maxLen) (hbytes : (n + m) * bytes ≤ 140737488355328) (hbase : base ≤ w.heap.size)
    (h : ∀ A' c' w', OwnS w' base A' (n + m) c' (xs ++ news) → Below base w w' →
      (∀ j u g o, A = some ⟨g, o, none⟩ → xs[j]? = some u → w.cell? ⟨g, o + j, none⟩ = some u → w'.cell? ⟨g, o + j, none⟩ = some u) →
      (∀ k, k < w.heap.size → (∀ g o, A = some ⟨g, o, none⟩ → k ≠ g) → w'.heap[k]? = w.heap[k]?) → (A' = A ∨ A' = some ⟨w.heap.size, 0, none⟩ ∧ w.heap.size < w'.heap.size) →
      K (a.put o.dst (.slice A' (n + m) c')) w') : if Region.wanted o (yielded ops a.tmps) = true then Oper.wp P o a w K Q else E := by
  rw [if_pos (by simp [Region.wanted, hgd])]
  exact wp_apT s x t ho base e bytes z ht hi hzs A n c xs hs hown B A2 m c2 news hx hr h1 h63 hbytes hbase h

end
end Go.Proofs.Ytabcbpcfleociaa
