/- Arguments opened: links, lists of steps. No function of the program. -/
import Derived.Test.YtabcbpcfleociaaMChb
import Derived.Test.YtabcbpcfleociaaMFrame
import Derived.Deep.Slices
import Derived.Lib.SmallJoins
import Derived.SizedLaws
namespace Go.Proofs.Ytabcbpcfleociaa
open Go.ChangeShapes Go.WideShapes Go.ChangeAt Go.RowKit
set_option linter.unusedSimpArgs false
set_option linter.unusedVariables false
theorem list_of {α : Type} {P : Nat → α → Prop} : ∀ n, (∀ i, i < n → ∃ l, P i l) → ∃ ls : List α, ls.length = n ∧ ∀ i l, ls[i]? = some l → P i l
  | 0, _ => ⟨[], rfl, fun i l h => by simp at h⟩
  | n + 1, h => by
    obtain ⟨ls, hl, hp⟩ := list_of n (fun i hi => h i (by omega))
    obtain ⟨l, hln⟩ := h n (by omega)
    refine ⟨ls ++ [l], by simp [hl], fun i l' hi => ?_⟩
    rcases Nat.lt_or_ge i ls.length with hlt | hge
    · rw [List.getElem?_append_left hlt] at hi; exact hp i l' hi
    · rw [List.getElem?_append_right hge] at hi
      rcases hz : i - ls.length with _ | z
      · rw [hz] at hi; simp at hi; subst hi
        obtain rfl : i = n := by omega
        exact hln
      · rw [hz] at hi; simp at hi
theorem field_bytes' {H : Type} {enc : TypeId × Value → H} {P : Program} {w : World} {sp : Nat → Bool} {held : Bool} {t e : TypeId} {v : Value} {x : DataW H × List MemPlace} {fuel : Nat}
    (ht : P.underlying t = some (.slice e)) (he : P.underlying e = some (.int .u8)) (hc : P.cellsOf e = 1) (hf : DataW.trod enc P w 0 sp held fuel t [v] = some x) :
    ∃ (A : Option Addr) (n c : Nat) (l : List UInt8), v = .slice A n c ∧ Rd w w.heap.size 1 A n (l.map B8) ∧ n ≤ c := by
  rcases open_ints ht he hc hf with ⟨hcs, _⟩ | ⟨x, len, cap, zs, hcs, _, hl, hm, hz, hx, hcell, hwz⟩
  · simp at hcs
    subst hcs
    exact ⟨none, 0, 0, [], rfl, Rd.nil _ _ _ _, Nat.le_refl _⟩
  · simp at hcs
    subst hcs
    have hzl : len ≤ zs.length := by rw [hz]; split <;> omega
    refine ⟨some x, len, cap, (zs.take len).map fun z => UInt8.ofNat z.toNat, rfl, ⟨by simp; omega, fun h0 => ?_⟩, hl⟩
    obtain ⟨b, off, spot⟩ := x
    have hc0 := hcell 0 (by omega)
    have hspot : spot = none := by simpa [Addr.add] using World.cell?_spot hc0
    subst hspot
    have hb : b < w.heap.size := by
      simp only [Addr.add, if_true] at hc0
      rcases Nat.lt_or_ge b w.heap.size with h | h
      · exact h
      · simp [World.cell?, Array.getElem?_eq_none h] at hc0
    refine ⟨b, off, rfl, hb, fun j u hu => ?_⟩
    rw [List.map_map, List.getElem?_map] at hu
    cases hj : (zs.take len)[j]? with
    | none => rw [hj] at hu; simp at hu
    | some z =>
      rw [hj] at hu
      simp only [Option.map_some, Option.some.injEq] at hu
      subst hu
      have hjn : j < len := by
        rcases Nat.lt_or_ge j len with h | h
        · exact h
        · rw [List.getElem?_eq_none (by simp; omega)] at hj; cases hj
      rw [List.getElem?_take_of_lt hjn] at hj
      have h1 := hcell j (by omega)
      rw [addr_add] at h1
      have hzj : zs.getD j 0 = z := by simp [List.getD, hj]
      rw [h1, hzj]
      have hw := hwz z (List.mem_of_getElem? hj)
      have hb := bounds_u8 hw
      simp only [Function.comp, B8, Option.some.injEq, Value.int.injEq, true_and]
      rw [UInt8.toNat_ofNat']
      omega
theorem wf_inI {x : Int} (h : (Lit.int .i64 x).wf = true) : inI x := by
  have e1 : IntKind.i64.min = -9223372036854775808 := rfl
  have e2 : IntKind.i64.max = 9223372036854775807 := rfl
  simp only [Lit.wf, Bool.and_eq_true, decide_eq_true_iff, e1, e2] at h
  exact h
section
variable {H : Type} {enc : TypeId × Value → H} {w : World} {sp : Nat → Bool} {held : Bool}
set_option maxRecDepth 100000 in
theorem open_link {cs : List Value} {x : DataW H × List MemPlace} {fuel : Nat} (h : DataW.trod enc Try.prog w 0 sp held fuel 40 cs = some x) :
    ∃ (l : Ln) (A : Option Addr) (n c : Nat) (B : Option Addr) (m d : Nat), cs = lnC l A n c B m d ∧ inI l.au ∧ inI l.sq ∧ inI l.ep ∧ Rd w w.heap.size 1 A n (l.pv.map B8) ∧ n ≤ c ∧ Rd w w.heap.size 1 B m (l.bd.map B8) ∧ m ≤ d := by
  obtain ⟨xs, k, _, _, hl, hxl, hf⟩ := DataW.trod_struct Try.underlying40 h
  have hC : Try.prog.cellsOf 40 = 5 := by kernel_rfl
  rw [hC] at hl
  have c3 : Try.prog.cellsOf 3 = 1 := by kernel_rfl
  have cS : Try.prog.cellsOf 38 = 1 := by kernel_rfl
  match cs, hl, xs, hxl with
  | [v0, v1, v2, v3, v4], _, [y0, y1, y2, y3, y4], _ =>
    have h0 : DataW.trod enc Try.prog w 0 sp held k 3 (List.take (Try.prog.cellsOf 3) (List.drop 0 [v0, v1, v2, v3, v4])) = some y0 := hf 0 _ rfl
    rw [c3] at h0
    have h1 : DataW.trod enc Try.prog w 0 sp held k 3 (List.take (Try.prog.cellsOf 3) (List.drop 1 [v0, v1, v2, v3, v4])) = some y1 := hf 1 _ rfl
    rw [c3] at h1
    have h2 : DataW.trod enc Try.prog w 0 sp held k 3 (List.take (Try.prog.cellsOf 3) (List.drop 2 [v0, v1, v2, v3, v4])) = some y2 := hf 2 _ rfl
    rw [c3] at h2
    have h3 : DataW.trod enc Try.prog w 0 sp held k 38 (List.take (Try.prog.cellsOf 38) (List.drop 3 [v0, v1, v2, v3, v4])) = some y3 := hf 3 _ rfl
    rw [cS] at h3
    have h4 : DataW.trod enc Try.prog w 0 sp held k 38 (List.take (Try.prog.cellsOf 38) (List.drop 4 [v0, v1, v2, v3, v4])) = some y4 := hf 4 _ rfl
    rw [cS] at h4
    obtain ⟨x0, e0, _, w0⟩ := DataW.trod_int Try.underlying3 h0
    obtain ⟨x1, e1, _, w1⟩ := DataW.trod_int Try.underlying3 h1
    obtain ⟨x2, e2, _, w2⟩ := DataW.trod_int Try.underlying3 h2
    obtain ⟨A, n, c, pv, e3, r3, q3⟩ := field_bytes' Try.underlying38 Try.underlying5 (by kernel_rfl) h3
    obtain ⟨B, m, d, bd, e4, r4, q4⟩ := field_bytes' Try.underlying38 Try.underlying5 (by kernel_rfl) h4
    simp at e0 e1 e2
    subst e0 e1 e2 e3 e4
    exact ⟨⟨x0, x1, x2, pv, bd⟩, A, n, c, B, m, d, rfl, wf_inI w0, wf_inI w1, wf_inI w2, r3, q3, r4, q4⟩
set_option maxRecDepth 100000 in
theorem okLink {r : Reach} {b0 : Nat} {v : Value} (hv : Value.okWide Try.prog w r b0 40 v) : ∃ cs, v = .agg cs := by
  obtain ⟨cs, rfl, _⟩ := okWide_struct Try.underlying40 hv
  exact ⟨cs, rfl⟩
set_option maxRecDepth 100000 in
theorem open_linkV {r : Reach} {b0 : Nat} {v : Value} {dd : DataW H} {p : List MemPlace} (hv : Value.okWide Try.prog w r b0 40 v) (h : DataW.Trod enc Try.prog w 0 sp held 40 v dd p) :
    ∃ (l : Ln) (A : Option Addr) (n c : Nat) (B : Option Addr) (m d : Nat), v = lnV l A n c B m d ∧ inI l.au ∧ inI l.sq ∧ inI l.ep ∧ Rd w w.heap.size 1 A n (l.pv.map B8) ∧ n ≤ c ∧ Rd w w.heap.size 1 B m (l.bd.map B8) ∧ m ≤ d := by
  obtain ⟨cs, rfl⟩ := okLink hv
  obtain ⟨fu, hf⟩ := h
  obtain ⟨l, A, n, c, B, m, d, e, r⟩ := open_link (cs := cs.toList) (by simpa [Value.cells] using hf)
  refine ⟨l, A, n, c, B, m, d, ?_, r⟩
  show Value.agg cs = Value.agg _
  congr 1
  exact Array.toList_inj.1 e
/-- A step of the laws: a link, and whether its place and what is ahead of it are those that go on. -/
structure Dn where
  l : Ln
  nx : Bool
/-- A slice of steps that come in. -/
def RdD (w : World) (B : Nat) (A : Option Addr) (n : Nat) (ls : List Dn) : Prop :=
  ls.length = n ∧ ∀ (i : Nat) (x : Dn), ls[i]? = some x → ∃ b o Ap np cp Ab nb cb, A = some ⟨b, o, none⟩ ∧ b < B ∧ w.rangeAt b (o + i * 6) (lnC x.l Ap np cp Ab nb cb ++ [.bool x.nx]) ∧
    inI x.l.au ∧ inI x.l.sq ∧ inI x.l.ep ∧ Rd w B 1 Ap np (x.l.pv.map B8) ∧ np ≤ cp ∧ Rd w B 1 Ab nb (x.l.bd.map B8) ∧ nb ≤ cb
theorem RdD.to {w w' : World} {B n : Nat} {A : Option Addr} {ls : List Dn} (h : RdD w B A n ls) (hb : Below B w w') : RdD w' B A n ls := by
  refine ⟨h.1, fun i x hx => ?_⟩
  obtain ⟨b, o, Ap, np, cp, Ab, nb, cb, e, hB, hr, i1, i2, i3, r1, l1, r2, l2⟩ := h.2 i x hx
  exact ⟨b, o, Ap, np, cp, Ab, nb, cb, e, hB, fun j v hj => (World.cell?_of_block (a := ⟨b, o + i * 6 + j, none⟩) (hb.block b hB)).trans (hr j v hj), i1, i2, i3, r1.below hb, l1, r2.below hb, l2⟩
set_option maxRecDepth 100000 in
set_option maxHeartbeats 1000000 in
theorem open_dos {A : Option Addr} {n c : Nat} {x : DataW H × List MemPlace} {fuel : Nat} (h : DataW.trod enc Try.prog w 0 sp held fuel 22 [.slice A n c] = some x) :
    ∃ ls, RdD w w.heap.size A n ls ∧ n ≤ c := by
  have hC : Try.prog.cellsOf 42 = 6 := by kernel_rfl
  have cL : Try.prog.cellsOf 40 = 5 := by kernel_rfl
  have cB : Try.prog.cellsOf 4 = 1 := by kernel_rfl
  rcases Go.Deep.open_slice Try.underlying22 h with ⟨hcs, _⟩ | ⟨a, len, cap, m, k, D, Pl, hcs, _, hl, _, hm, _, hx⟩
  · simp at hcs
    obtain ⟨rfl, rfl, rfl⟩ := hcs
    exact ⟨[], ⟨rfl, fun i l h => by simp at h⟩, Nat.le_refl _⟩
  · simp at hcs
    obtain ⟨rfl, rfl, rfl⟩ := hcs
    have hnm : n ≤ m := by rw [hm]; split <;> omega
    obtain ⟨ls, h1, h2⟩ := list_of (P := fun i (x : Dn) => ∃ b o Ap np cp Ab nb cb, some a = some ⟨b, o, none⟩ ∧ b < w.heap.size ∧ w.rangeAt b (o + i * 6) (lnC x.l Ap np cp Ab nb cb ++ [.bool x.nx]) ∧
        inI x.l.au ∧ inI x.l.sq ∧ inI x.l.ep ∧ Rd w w.heap.size 1 Ap np (x.l.pv.map B8) ∧ np ≤ cp ∧ Rd w w.heap.size 1 Ab nb (x.l.bd.map B8) ∧ nb ≤ cb) n (by
      intro i hi
      obtain ⟨cs', hcells, htr⟩ := hx i (by omega)
      rw [hC] at hcells
      obtain ⟨_, hlen, hcell⟩ := World.cells?_some hcells
      obtain ⟨xs, k2, _, _, _, hxl, hf⟩ := DataW.trod_struct Try.underlying42 htr
      match cs', hlen, xs, hxl with
      | [v0, v1, v2, v3, v4, v5], _, [y0, y1], _ =>
        have g0 : DataW.trod enc Try.prog w 0 sp held k2 40 (List.take (Try.prog.cellsOf 40) (List.drop 0 [v0, v1, v2, v3, v4, v5])) = some y0 := hf 0 _ rfl
        have g1 : DataW.trod enc Try.prog w 0 sp held k2 4 (List.take (Try.prog.cellsOf 4) (List.drop 5 [v0, v1, v2, v3, v4, v5])) = some y1 := hf 1 _ rfl
        rw [cL] at g0
        rw [cB] at g1
        obtain ⟨l, Ap, np, cp, Ab, nb, cb, e, i1, i2, i3, r1, q1, r2, q2⟩ := open_link g0
        obtain ⟨nx, e2, _⟩ := DataW.trod_bool Try.underlying4 g1
        obtain ⟨bb, off, spot⟩ := a
        have hc0 := hcell 0 (by omega)
        have hspot : spot = none := by
          obtain ⟨cs0, hcells0, _⟩ := hx 0 (by omega)
          rw [hC] at hcells0
          obtain ⟨_, hlen0, hcell0⟩ := World.cells?_some hcells0
          have h00 := (hcell0 0 (by omega)).trans (List.getElem?_eq_getElem (by omega))
          simpa [Addr.add] using World.cell?_spot h00
        subst hspot
        have e' : [v0, v1, v2, v3, v4] = lnC l Ap np cp Ab nb cb := by simpa using e
        have e2' : v5 = .bool nx := by simpa using e2
        have hall : [v0, v1, v2, v3, v4, v5] = lnC l Ap np cp Ab nb cb ++ [.bool nx] := by rw [← e', ← e2']; rfl
        refine ⟨⟨l, nx⟩, bb, off, Ap, np, cp, Ab, nb, cb, rfl, ?_, ?_, i1, i2, i3, r1, q1, r2, q2⟩
        · rw [addr_add, addr_add, List.getElem?_cons_zero] at hc0
          exact World.block_lt_of_cell? _ _ hc0
        · intro j v hj
          have hj6 : j < 6 := by
            rcases Nat.lt_or_ge j 6 with h | h
            · exact h
            · rw [List.getElem?_eq_none (by simp [lnC]; omega)] at hj; cases hj
          have := hcell j hj6
          rw [addr_add, addr_add, hall, hj] at this
          exact this)
    exact ⟨ls, ⟨h1, h2⟩, hl⟩
end
end Go.Proofs.Ytabcbpcfleociaa

/- Arguments opened: how long the slices in a list of steps may be (the form's reach). No function of the program. -/
namespace Go.Proofs.Ytabcbpcfleociaa
open Go.ChangeShapes Go.WideShapes Go.ChangeAt Go.RowKit
set_option linter.unusedSimpArgs false
set_option linter.unusedVariables false
theorem wAll_mem {H : Type} {P : Program} {e : TypeId} : ∀ {l : List (DataW H)} {d : DataW H}, d ∈ l → ∀ n ∈ d.weights P e, n ∈ DataW.weightsAll P e l
  | x :: r, d, hd, n, hn => by
    simp only [DataW.weightsAll, List.mem_append]
    rcases List.mem_cons.1 hd with rfl | hd
    · exact Or.inl hn
    · exact Or.inr (wAll_mem hd n hn)
  | [], _, hd, _, _ => by simp at hd
section
variable {H : Type} {enc : TypeId × Value → H} {w : World} {sp : Nat → Bool} {held : Bool}
theorem bytes_w {A : Option Addr} {n c R : Nat} {x : DataW H × List MemPlace} {fuel : Nat} (hf : DataW.trod enc Try.prog w 0 sp held fuel 38 [.slice A n c] = some x) (hw : ∀ m ∈ x.1.weights Try.prog 38, m ≤ R) : n ≤ R := by
  rcases open_ints Try.underlying38 Try.underlying5 (by kernel_rfl) hf with ⟨hcs, _⟩ | ⟨a, len, cap, zs, hcs, _, hl, hm, hz, hx, _, _⟩
  · simp at hcs; omega
  · simp at hcs
    obtain ⟨rfl, rfl, rfl⟩ := hcs
    have hzl : n ≤ zs.length := by rw [hz]; split <;> omega
    have hb : Try.prog.bytesOf 5 = 1 := by kernel_rfl
    have h1 := hw _ (by rw [hx]; simp only [DataW.weights, Try.underlying38]; exact List.mem_cons_self)
    rw [hb] at h1
    simp [lits] at h1
    omega
set_option maxRecDepth 100000 in
theorem link_w {v0 v1 v2 : Value} {A : Option Addr} {n c : Nat} {B : Option Addr} {m d R : Nat} {x : DataW H × List MemPlace} {fuel : Nat} (h : DataW.trod enc Try.prog w 0 sp held fuel 40 [v0, v1, v2, .slice A n c, .slice B m d] = some x) (hw : ∀ k ∈ x.1.weights Try.prog 40, k ≤ R) : n ≤ R ∧ m ≤ R := by
  obtain ⟨xs, k, _, hx, hl, hxl, hf⟩ := DataW.trod_struct Try.underlying40 h
  have cS : Try.prog.cellsOf 38 = 1 := by kernel_rfl
  match xs, hxl with
  | [y0, y1, y2, y3, y4], _ =>
    have h3 : DataW.trod enc Try.prog w 0 sp held k 38 (List.take (Try.prog.cellsOf 38) (List.drop 3 [v0, v1, v2, .slice A n c, .slice B m d])) = some y3 := hf 3 _ rfl
    rw [cS] at h3
    have h4 : DataW.trod enc Try.prog w 0 sp held k 38 (List.take (Try.prog.cellsOf 38) (List.drop 4 [v0, v1, v2, .slice A n c, .slice B m d])) = some y4 := hf 4 _ rfl
    rw [cS] at h4
    have hm : ∀ (j : Nat) (t : TypeId) (y : DataW H), [3, 3, 3, 38, 38][j]? = some t → [y0.1, y1.1, y2.1, y3.1, y4.1][j]? = some y → ∀ k ∈ y.weights Try.prog t, k ≤ R := fun j t y h1 h2 k hk =>
      hw k (by rw [hx]; simp only [DataW.weights, Try.underlying40]; exact DataW.weights_mem_each h1 h2 k hk)
    exact ⟨bytes_w h3 (hm 3 _ _ rfl rfl), bytes_w h4 (hm 4 _ _ rfl rfl)⟩
set_option maxRecDepth 100000 in
set_option maxHeartbeats 1000000 in
theorem dos_w {A : Option Addr} {n c R : Nat} {x : DataW H × List MemPlace} {fuel : Nat} (h : DataW.trod enc Try.prog w 0 sp held fuel 22 [.slice A n c] = some x) (hw : ∀ k ∈ x.1.weights Try.prog 22, k ≤ R) :
    n ≤ R ∧ ∀ (i b o : Nat) (Ap : Option Addr) (np cp : Nat) (Ab : Option Addr) (nb cb : Nat), i < n → A = some ⟨b, o, none⟩ → w.cell? ⟨b, o + i * 6 + 3, none⟩ = some (.slice Ap np cp) → w.cell? ⟨b, o + i * 6 + 4, none⟩ = some (.slice Ab nb cb) → np ≤ R ∧ nb ≤ R := by
  have hC : Try.prog.cellsOf 42 = 6 := by kernel_rfl
  have cL : Try.prog.cellsOf 40 = 5 := by kernel_rfl
  have hB : ∃ q, Try.prog.bytesOf 42 = q + 1 := ⟨79, by kernel_rfl⟩
  rcases Go.Deep.open_slice Try.underlying22 h with ⟨hcs, _⟩ | ⟨a, len, cap, m, k, D, Pl, hcs, _, hl, _, hm, hxx, hx⟩
  · simp at hcs
    obtain ⟨rfl, rfl, rfl⟩ := hcs
    exact ⟨Nat.zero_le _, fun i b o _ _ _ _ _ _ hi => absurd hi (by omega)⟩
  · simp at hcs
    obtain ⟨rfl, rfl, rfl⟩ := hcs
    have hnm : n ≤ m := by rw [hm]; split <;> omega
    have hel : ∀ i, i < n → ∀ k ∈ (D i).weights Try.prog 42, k ≤ R := fun i hi k hk =>
      hw k (by rw [hxx]; simp only [DataW.weights, Try.underlying22]; exact List.mem_cons_of_mem _ (List.mem_append.2 (Or.inl (wAll_mem (List.mem_map.2 ⟨i, List.mem_range.2 hi, rfl⟩) k hk))))
    refine ⟨?_, fun i b o Ap np cp Ab nb cb hi ha h3 h4 => ?_⟩
    · have h1 := hw _ (by rw [hxx]; simp only [DataW.weights, Try.underlying22]; exact List.mem_cons_self)
      obtain ⟨q, hq⟩ := hB
      rw [hq, List.length_map, List.length_range] at h1
      have h2 : n * 1 ≤ (n + ((List.range (m - n)).map fun j => D (n + j)).length) * (q + 1) := Nat.mul_le_mul (Nat.le_add_right _ _) (by omega)
      omega
    · injection ha with ha
      subst ha
      obtain ⟨cs', hcells, htr⟩ := hx i (by omega)
      rw [hC] at hcells
      obtain ⟨_, hlen, hcell⟩ := World.cells?_some hcells
      obtain ⟨xs, k2, _, hD, _, hxl, hf⟩ := DataW.trod_struct Try.underlying42 htr
      match cs', hlen, xs, hxl with
      | [v0, v1, v2, v3, v4, v5], _, [y0, y1], _ =>
        have e3 := hcell 3 (by omega)
        have e4 := hcell 4 (by omega)
        rw [addr_add, addr_add] at e3 e4
        have e3' : v3 = .slice Ap np cp := by
          have := e3.symm.trans h3
          simpa using this
        have e4' : v4 = .slice Ab nb cb := by
          have := e4.symm.trans h4
          simpa using this
        subst e3' e4'
        have g0 : DataW.trod enc Try.prog w 0 sp held k2 40 (List.take (Try.prog.cellsOf 40) (List.drop 0 [v0, v1, v2, .slice Ap np cp, .slice Ab nb cb, v5])) = some y0 := hf 0 _ rfl
        rw [cL] at g0
        refine link_w g0 (fun k hk => hel i hi k ?_)
        have hD1 : D i = .agg [y0.1, y1.1] := congrArg Prod.fst hD
        rw [hD1]
        simp only [DataW.weights, Try.underlying42]
        exact DataW.weights_mem_each (ts := [40, 4]) (ds := [y0.1, y1.1]) (j := 0) rfl rfl k hk
end
end Go.Proofs.Ytabcbpcfleociaa
