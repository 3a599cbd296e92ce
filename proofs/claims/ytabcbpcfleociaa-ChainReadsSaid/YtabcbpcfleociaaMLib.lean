/- General lemmas, over any program: loads and stores of whole rows, slices of one's own, appends. (Printed by mklib.py.) -/
import Derived.Test.YtabcbpcfleociaaMMem
import Derived.Test.YtabcbpcfleociaaMSlw
import Derived.Test.YtabcbpcfleociaaProg
import Derived.Lib.SmallJoins
import Derived.KernelRfl
import Derived.BigQuiet
import Derived.StillTailTactics
import Derived.Deep.RegionHeld3
import Derived.Deep.DrawnRows
import Derived.Deep.MidRow
import Derived.Lib.AppendStr
import Derived.Lib.Hide
import Derived.Handy
import Derived.Laws.BitsAllLaws
import Derived.Laws.Shifts
namespace Go.Proofs.Ytabcbpcfleociaa
open Go.RowKit
set_option linter.unusedSimpArgs false
set_option linter.unusedVariables false
section
variable {P : Program} {w : World}
theorem wrapU (n : Nat) : IntKind.u64.wrap (n : Int) = ((n % 18446744073709551616 : Nat) : Int) := by rw [IntKind.wrap_u64]; omega

theorem info8 : (Try.prog.info? 5).map (fun i => (i.zero, i.size, i.bytes)) = some (some (.int .u8 0), 1, 1) := by kernel_rfl

theorem info64 : (Try.prog.info? 157).map (fun i => (i.zero, i.size, i.bytes)) = some (some (.int .u64 0), 1, 8) := by kernel_rfl

theorem quiet_load {P : Program} {C : World → Prop} {o : Oper} {a : Act} {K : Act → Prop} {ty : TypeId} {v p : Value} (x : Operand) (ho : o.op = .load ty x) (hx : a.eval x = p) (hl : ∀ w, C w → (Instr.loadAt ty p).run P w = .ok v w) (hk : K (a.put o.dst v)) : o.quiet P a C K :=
  ⟨v, fun w hw => by
    unfold Oper.quietAt execOp
    simp only [ho, hx, Sem.run_bind, Sem.run_pure, Result.andThen_ok, hl w hw]
    exact ⟨rfl, rfl⟩, hk⟩

theorem yields_load {P : Program} {ops : Array Oper} {S : World → Prop} {o : Oper} {a : Act} {ty : TypeId} {v p : Value} (hw : Region.wanted o (yielded ops a.tmps) = true) (x : Operand) (ho : o.op = .load ty x) (hx : a.eval x = p) (hl : ∀ w, S w → (Instr.loadAt ty p).run P w = .ok v w) : YieldsIf P ops S o v a :=
  .inl ⟨hw, fun w hw' => by
    unfold execOp
    simp only [ho, hx, Sem.run_bind, Sem.run_pure, Result.andThen_ok, hl w hw']⟩

theorem load_blk {P : Program} {w : World} {g : Nat} {cs : Array Value} {t ty : TypeId} {d : TypeDesc} (h : w.heap[g]? = some (.cells cs t (0, 0))) (hu : P.underlying ty = some d) (hd : d.isRow = true) (hi : (P.info? ty).map (·.size) = some cs.toList.length) :
    (Instr.loadAt ty (.pointer (some ⟨g, 0, none⟩))).run P w = .ok (.agg cs) w := by
  have := run_loadAt_mid (P := P) w g 0 ty cs.toList d (fun j v hj => by rw [Nat.zero_add]; simp at hj; simp [World.cell?, h, hj]) hu hd hi
  simpa using this

theorem load_part {P : Program} {w : World} {g o : Nat} {cs : Array Value} {t ty : TypeId} {d : TypeDesc} (part : List Value) (h : w.heap[g]? = some (.cells cs t (0, 0))) (hp : ∀ j v, part[j]? = some v → cs[o + j]? = some v) (hu : P.underlying ty = some d) (hd : d.isRow = true) (hi : (P.info? ty).map (·.size) = some part.length) :
    (Instr.loadAt ty (.pointer (some ⟨g, o, none⟩))).run P w = .ok (.agg part.toArray) w :=
  run_loadAt_mid (P := P) w g o ty part d (fun j v hj => by simp [World.cell?, h, hp j v hj]) hu hd hi

theorem cell_blk {w : World} {g : Nat} {cs : Array Value} {t : TypeId} {v : Value} (h : w.heap[g]? = some (.cells cs t (0, 0))) (j : Nat) (hj : cs[j]? = some v) : w.cell? ⟨g, j, none⟩ = some v := by simp [World.cell?, h, hj]

theorem below_drew {B : Nat} {w w' : World} (h : Below B w w') : Below B w w'.drew := h.trans ⟨rfl, rfl, rfl, Nat.le_refl _, fun _ _ => rfl⟩

structure Bw (W : World) where
  w : World
  h : Below W.heap.size W w

theorem wp_region_bw {P : Program} {id : Nat} {Q : Exit → Act → World → Prop} {a : Act} {W : World} {l : List Oper} (hm : P.follows .mixedOrders = true) (hB : Region.lexB .any l.toArray = true)
    (h : wpQuiet P l.toArray (fun w' => ∃ y : Bw W, w' = y.w) (fun a' => ∀ w', (∃ y : Bw W, w' = y.w) → Q .normal a' w') l a) : (Code.region id l.toArray true).wp P Q a W :=
  wp_region_quiet (C := fun w' => ∃ y : Bw W, w' = y.w) hm hB ⟨⟨_, below_drew (Below.refl _ _)⟩, rfl⟩ (by simpa using h)

theorem below_drewN {B : Nat} {w w' : World} (h : Below B w w') (k : Nat) : Below B w (w'.drewN k) := h.trans ⟨rfl, rfl, rfl, Nat.le_refl _, fun _ _ => rfl⟩

theorem range_of {w : World} {g : Nat} {cs : Array Value} {t : TypeId} (h : w.heap[g]? = some (.cells cs t (0, 0))) : w.rangeAt g 0 cs.toList := fun j v hj => by rw [Nat.zero_add]; simp at hj; simp [World.cell?, h, hj]

theorem range_part {w : World} {g o : Nat} {cs : Array Value} {t : TypeId} (part : List Value) (h : w.heap[g]? = some (.cells cs t (0, 0))) (hp : ∀ j v, part[j]? = some v → cs[o + j]? = some v) : w.rangeAt g o part := fun j v hj => by simp [World.cell?, h, hp j v hj]

theorem Rd.to' {w w' : World} {B size n : Nat} {A : Option Addr} {xs : List Value} (h : Rd w B size A n xs) (hb : Below B w w') : Rd w' B size A n xs := h.below hb

theorem results_cell {P : Program} {fn : Func} {tmps : Array Value} {w : World} {a : Nat} {t : TypeId} {v : Value} {p : Addr} (h : fn.results = #[.cell a t]) (ha : tmps.getD a undef = .pointer (some p)) (hl : (loadVar t p).run P w = .ok v w) : (results fn tmps).run P w = .ok v w := by
  unfold results
  rw [h]
  have ha' : tmps[a]?.getD undef = .pointer (some p) := by simpa using ha
  simp [ha', hl, asAddr]

theorem there_blk {w : World} {g : Nat} {cs : Array Value} {t : TypeId} (h : w.heap[g]? = some (.cells cs t (0, 0))) {n : Nat} (hn : cs.size = n) : w.there g 0 n := fun j hj => by
  rw [Nat.zero_add]
  constructor
  · simp only [World.cell?, h]
    rw [Array.getElem?_eq_getElem (by omega)]
    rfl
  · simp only [World.frozen?, h]
    simp

theorem below_setCells {B : Nat} {w w' : World} (h : Below B w w') {g : Nat} (o : Nat) (vs : List Value) (hg : B ≤ g) (hB : B ≤ w.heap.size) : Below B w (w'.setCells g o vs) := by
  obtain ⟨htp, hsz⟩ := heap_of_setCells w' g o vs
  exact h.trans ⟨World.os_setCells _ _ _ _, htp, World.output_setCells _ _ _ _, by rw [hsz]; exact Nat.le_refl _, fun k hk => World.heap_setCells_other _ _ _ _ (Nat.lt_of_lt_of_le hk (Nat.le_trans hB h.size)) (by omega)⟩

theorem heap_set {w : World} {g j : Nat} {cs : Array Value} {t : TypeId} {f : Nat × Nat} (h : w.heap[g]? = some (.cells cs t f)) (u : Value) : (w.setCell ⟨g, j, none⟩ u).heap[g]? = some (.cells (cs.setIfInBounds j u) t f) := by
  simp [World.setCell, Array.getElem?_modify, h]

theorem szAlloc (w : World) (o : Obj) : (w.alloc o).heap.size = w.heap.size + 1 := by
  show (w.heap.push o).size = _
  simp

theorem frozen_blk {w : World} {g : Nat} {cs : Array Value} {t : TypeId} (h : w.heap[g]? = some (.cells cs t (0, 0))) (j : Nat) : w.frozen? ⟨g, j, none⟩ = false := by simp [World.frozen?, h]

theorem lt_of_blk {w : World} {g : Nat} {o : Obj} (h : w.heap[g]? = some o) : g < w.heap.size := by
  rcases Nat.lt_or_ge g w.heap.size with h1 | h1
  · exact h1
  · rw [Array.getElem?_eq_none h1] at h; cases h

def nought (m : Nat) : ByteArray := ⟨(List.replicate m (0 : UInt8)).toArray⟩

theorem nought_size (m : Nat) : (nought m).size = m := by simp [nought, ByteArray.size]

theorem nought_cells (m : Nat) : Lib.strCells (nought m) = List.replicate m (Value.int .u8 0) := by simp [Lib.strCells, nought]

theorem run_app_zeros (t tn u ty e : TypeId) (i : TypeInfo) (ht : P.underlying t = some (.slice e)) (htn : P.underlying tn = some (.int .i64)) (hu : P.underlying u = some .string) (hi : P.info? e = some i) (hz : i.zero = some (.int .u8 0))
    (hsize : i.size = 1) (hby : i.bytes = 1) (A : Option Addr) (n c m : Nat) (hnm : n + m ≤ 140737488355328) (hc : n ≤ c) :
    (Builtin.append_ #[t, tn] ty #[.slice A n c, .int .i64 m]).run P w = (Builtin.append_ #[t, u] ty #[.slice A n c, .string (nought m)]).run P w := by
  have hw : IntKind.i64.wrap (m : Int) = m := IntWalk.i64_in _ (by omega)
  have hneg : ¬ ((m : Int) < 0) := by omega
  have h48i : ¬ (281474976710656 < (m : Int)) := by omega
  have hs := nought_size m
  have hf : ∀ w' : World, (Builtin.firstCells 1 m (.string (nought m))).run P w' = .ok (List.replicate m (Value.int .u8 0)).toArray w' := fun w' => by
    have := Lib.run_firstCells_string (P := P) w' 1 (nought m)
    rw [hs, nought_cells] at this
    exact this
  have hzc : Builtin.zeroCells (Value.int .u8 0).cells m = (List.replicate m (Value.int .u8 0)).toArray := by
    apply Array.ext
    · simp [Builtin.zeroCells, Value.cells]
    · intro j h1 h2
      simp [Builtin.zeroCells, Value.cells, Nat.mod_one]
  by_cases hroom : n + m ≤ c
  · by_cases hm : m = 0
    · subst hm
      have hw0 : IntKind.i64.wrap 0 = 0 := rfl
      simp [Builtin.append_, run_underlying ht, run_underlying htn, run_underlying hu, sizeOf, typeInfo, hi, hsize, Builtin.lenOf, hs, hroom, hc, hf, hw, hw0, asInt, asIntOf, zeroValue, hz, hby]
    · simp [Builtin.append_, run_underlying ht, run_underlying htn, run_underlying hu, sizeOf, typeInfo, hi, hsize, Builtin.lenOf, hs, hroom, hf, hw, hneg, h48i, asInt, asIntOf, zeroValue, hz, hby, hm, hzc]
  · have hm : m ≠ 0 := by omega
    have hfit := growslice_fits (old := c) (need := n + m) (bytes := 1) (by omega) (by omega)
    have h48' : ¬ (281474976710656 < Builtin.nextslicecap (n + m) c) := by omega
    have h63' : ¬ (9223372036854775807 < ((n : Int) + (m : Int))) := by omega
    simp [Builtin.append_, run_underlying ht, run_underlying htn, run_underlying hu, sizeOf, typeInfo, hi, hsize, Builtin.lenOf, hs, hroom, hf, hw, hneg, h48i, asInt, asIntOf, zeroValue, hz, hby, hm, hzc, h48', h63']

theorem wpList_app_zeros {ops : Array Oper} {rest : List Oper} {o : Oper} {a : Act} {Q : Exit → Act → World → Prop} (hgd : o.guard = none) (s x : Operand) (t tn : TypeId)
    (ho : o.op = .call { callee := .builtin .append, args := #[s, x], argTypes := #[t, tn] })
    (base : Nat) (e : TypeId) (ht : P.underlying t = some (.slice e)) (htn : P.underlying tn = some (.int .i64)) (u : TypeId) (hu : P.underlying u = some .string) (hi8 : (P.info? e).map (fun i => (i.zero, i.size, i.bytes)) = some (some (.int .u8 0), 1, 1))
    (A : Option Addr) (n c : Nat) (xs : List Value) (hs : a.eval s = .slice A n c) (hown : w.ownsRow base e 1 (.slice A n c) n xs)
    (m : Nat) (hx : a.eval x = .int .i64 m) (h63 : n + m ≤ maxLen) (hbytes : n + m ≤ 140737488355328) (hbase : base ≤ w.heap.size)
    (h : ∀ A' c' w', w'.ownsRow base e 1 (.slice A' (n + m) c') (n + m) (xs ++ List.replicate m (Value.int .u8 0)) → w.grownBy w' (Value.slice A n c).ownBlock →
      wpList P ops Q rest (a.put o.dst (.slice A' (n + m) c')) w') : wpList P ops Q (o :: rest) a w := by
  obtain ⟨i, hi, hz, hsize, hby⟩ := info_parts hi8
  refine wpList_plain hgd fun K hK => ?_
  obtain ⟨v', w', hr, h2, h3, _⟩ := Lib.run_append_own_string (P := P) w base t u o.type e i ht hu hi hz hsize hby _ n xs hown (nought m) (by rw [nought_size]; exact h63) (by rw [nought_size]; exact hbytes) hbase
  rw [← run_app_zeros t tn u o.type e i ht htn hu hi hz hsize hby A n c m hbytes (own_cap' hown)] at hr
  rw [nought_size, nought_cells] at h2
  obtain ⟨A', c', rfl⟩ : ∃ A' c', v' = .slice A' (n + m) c' := by
    rcases h2.2 with ⟨rfl, h0⟩ | ⟨g, cap, cur, rfl, _⟩
    · exact ⟨_, _, by rw [h0]⟩
    · exact ⟨_, _, rfl⟩
  unfold Oper.wp execOp
  simp only [ho, resolve, invoke, builtin, Sem.run_bind, Sem.run_pure, Result.andThen_ok, List.map_toArray, List.map_cons, List.map_nil, hs, hx, hr]
  exact hK _ _ (h A' c' w' h2 h3)

theorem still_load {P : Program} {ops : Array Oper} {w : World} {Q : Act → Prop} {a : Act} {o : Oper} {rest : List Oper} {ty : TypeId} {v p : Value} (x : Operand) (hgd : o.guard = none) (ho : o.op = .load ty x) (hx : a.eval x = p)
    (hl : (Instr.loadAt ty p).run P w = .ok v w) (h : wpStill P ops w Q rest (a.put o.dst v)) : wpStill P ops w Q (o :: rest) a := by
  refine wpStill_step (fun K hK => ?_)
  rw [if_pos (by simp [Region.wanted, hgd])]
  unfold Oper.still execOp
  simp only [ho, hx, Sem.run_bind, Sem.run_pure, Result.andThen_ok, hl, Oper.stillUpon_value]
  exact hK _ h

def slN : Value → Nat
  | .slice _ n _ => n
  | _ => 0

theorem OwnS.setCells {w : World} {base n c : Nat} {A : Option Addr} {xs : List Value} (h : OwnS w base A n c xs) {g : Nat} (o : Nat) (vs : List Value) (hg : g < base) : OwnS (w.setCells g o vs) base A n c xs := by
  refine ⟨h.len, h.le, h.max, fun hc0 => ?_⟩
  obtain ⟨g', o', e, hb, hc, ht⟩ := h.mem hc0
  have hne : ¬ g' = g := by omega
  have e1 : ∀ j, (w.setCells g o vs).cell? ⟨g', o' + j, none⟩ = w.cell? ⟨g', o' + j, none⟩ := fun j => World.cell?_setCells_out g vs o w ⟨g', o' + j, none⟩ (fun e _ => absurd e hne)
  exact ⟨g', o', e, hb, fun j u hu => (e1 j).trans (hc j u hu), fun j hj => ⟨by rw [e1]; exact (ht j hj).1, by rw [World.frozen?_setCells]; exact (ht j hj).2⟩⟩

theorem OwnS.same {w w' : World} {base n c : Nat} {A : Option Addr} {xs : List Value} (h : OwnS w base A n c xs) (e : ∀ b o, A = some ⟨b, o, none⟩ → b < w.heap.size → w'.heap[b]? = w.heap[b]?) : OwnS w' base A n c xs := by
  refine ⟨h.len, h.le, h.max, fun hc0 => ?_⟩
  obtain ⟨g, o, e1, hg, hc, ht⟩ := h.mem hc0
  have hgl : g < w.heap.size := World.block_lt_of_cell? _ _ (Option.isSome_iff_exists.1 (ht 0 hc0).1).choose_spec
  have e2 := e g o e1 hgl
  exact ⟨g, o, e1, hg, fun j u hu => (World.cell?_of_block (a := ⟨g, o + j, none⟩) e2).trans (hc j u hu), fun j hj => ⟨by rw [World.cell?_of_block (a := ⟨g, o + j, none⟩) e2]; exact (ht j hj).1, (World.frozen?_of_block (a := ⟨g, o + j, none⟩) e2).trans (ht j hj).2⟩⟩

theorem there_sub {w : World} {g : Nat} {cs : Array Value} {t : TypeId} (h : w.heap[g]? = some (.cells cs t (0, 0))) {n : Nat} (hn : n ≤ cs.size) : w.there g 0 n := fun j hj => by
  rw [Nat.zero_add]
  constructor
  · simp only [World.cell?, h]
    rw [Array.getElem?_eq_getElem (by omega)]
    rfl
  · simp only [World.frozen?, h]
    simp

theorem infoB : (Try.prog.info? 5).map (fun i => (i.zero, i.size, i.bytes)) = some (some (.int .u8 0), 1, 1) := by kernel_rfl

theorem oneB (l : List UInt8) : ∀ u ∈ l.map B8, u.oneCell' = true := by
  intro u hu
  obtain ⟨b, _, rfl⟩ := List.mem_map.1 hu
  rfl

theorem OwnS.ne {w : World} {base n c : Nat} {A : Option Addr} {xs : List Value} (h : OwnS w base A n c xs) (o : Nat) (v : Value) {g : Nat} (hg : ∀ b o, A = some ⟨b, o, none⟩ → b ≠ g) : OwnS (w.setCell ⟨g, o, none⟩ v) base A n c xs :=
  h.same fun b o' e _ => World.heap_setCells_other w g o [v] ‹_› (hg b o' e)

theorem cut_block {w : World} {base n : Nat} {A : Option Addr} {xs : List Value} {c k r g : Nat} (ho : OwnS w base A n c xs) (hc : 0 < c) (h : ∀ b o, A = some ⟨b, o, none⟩ → b = r ∧ b ≠ g) : ∀ b o, (if c = k then A else A.map (·.add (k * 1))) = some ⟨b, o, none⟩ → b = r ∧ b ≠ g := by
  intro b o e
  obtain ⟨g', o', rfl, _⟩ := ho.mem hc
  split at e
  · exact h b o e
  · simp only [Option.map_some, addr_add] at e
    injection e with e
    injection e with e1
    subst e1
    exact h _ _ rfl

theorem conv8 (w : World) (A : Option Addr) (n c : Nat) (l : List UInt8) (h : Rd w w.heap.size 1 A n (l.map B8)) : (convert 38 9 (.slice A n c)).run Try.prog w = .ok (.string (str l)) w :=
  run_convert_rd _ _ _ Try.underlying38 Try.underlying5 Try.underlying9 h

theorem rd_lit (w : World) (l : List UInt8) (t : TypeId) (f : Nat × Nat) (n : Nat) (hn : l.length = n) : Rd (w.alloc (.cells (l.map B8).toArray t f)) (w.alloc (.cells (l.map B8).toArray t f)).heap.size 1 (some ⟨w.heap.size, 0, none⟩) n (l.map B8) := by
  refine ⟨by simpa using hn, fun _ => ⟨w.heap.size, 0, rfl, by simp, fun j u hu => ?_⟩⟩
  rw [Nat.zero_add, Go.Joins.cell_of_block (heap_alloc_new w _), ← hu]
  simp

theorem own_ne {w : World} {base n : Nat} {A : Option Addr} {c : Nat} {xs : List Value} (h : w.ownsRow base 5 1 (.slice A n c) n xs) {g : Nat} (hg : g < base) : 0 < n → ∀ b o, A = some ⟨b, o, none⟩ → b ≠ g := by
  intro h0 b o e
  have hs := OwnS.of_own h
  obtain ⟨g', o', e', hb, _⟩ := hs.mem (Nat.lt_of_lt_of_le h0 hs.le)
  rw [e] at e'
  injection e' with e'
  injection e' with e1
  omega

theorem Rd.at0 {w w' : World} {B n : Nat} {A : Option Addr} {xs : List Value} (h : Rd w B 1 A n xs) (hb : Below B w w') (hB : B ≤ w'.heap.size) : Rd w' w'.heap.size 1 A n xs := (h.below hb).more hB

def RdL (w : World) (B : Nat) (A : Option Addr) (n : Nat) (ls : List (List UInt8)) : Prop :=
  ls.length = n ∧ ∀ i l, ls[i]? = some l → ∃ b o Ai ci, A = some ⟨b, o, none⟩ ∧ b < B ∧ w.cell? ⟨b, o + i, none⟩ = some (.slice Ai l.length ci) ∧ Rd w B 1 Ai l.length (l.map B8) ∧ l.length ≤ ci

theorem RdL.to {w w' : World} {B n : Nat} {A : Option Addr} {ls : List (List UInt8)} (h : RdL w B A n ls) (hb : Below B w w') : RdL w' B A n ls := by
  refine ⟨h.1, fun i l hl => ?_⟩
  obtain ⟨b, o, Ai, ci, e, hbB, hc, hr, hci⟩ := h.2 i l hl
  exact ⟨b, o, Ai, ci, e, hbB, (World.cell?_of_block (a := ⟨b, o + i, none⟩) (hb.block b hbB)).trans hc, hr.below hb, hci⟩

theorem Rd.ne {w : World} {B n : Nat} {A : Option Addr} {xs : List Value} (h : Rd w B 1 A n xs) {g : Nat} (hg : B ≤ g) : 0 < n → ∀ b o, A = some ⟨b, o, none⟩ → b ≠ g := by
  intro h0 b o e
  obtain ⟨b', o', e', hb, _⟩ := h.2 h0
  rw [e] at e'
  injection e' with e'
  injection e' with e1
  omega

theorem one_lit (w : World) (z : UInt8) : Rd (w.alloc (.cells #[.int .u8 (z.toNat : Int)] 5)) (w.alloc (.cells #[.int .u8 (z.toNat : Int)] 5)).heap.size 1 (some ⟨w.heap.size, 0, none⟩) 1 (([z] : List UInt8).map B8) := by
  refine ⟨rfl, fun _ => ⟨w.heap.size, 0, rfl, by simp, fun j u hu => cell_blk (heap_alloc_new w _) _ ?_⟩⟩
  rw [Nat.zero_add, ← hu]
  rcases j with _ | j <;> rfl

structure Two (w : World) (base : Nat) (A : Option Addr) (n c : Nat) (l : List UInt8) (A' : Option Addr) (n' c' : Nat) (l' : List UInt8) : Prop where
  a : OwnS w base A n c (l.map B8)
  b : OwnS w base A' n' c' (l'.map B8)
  al : ∀ g o, A = some ⟨g, o, none⟩ → g < w.heap.size
  bl : ∀ g o, A' = some ⟨g, o, none⟩ → g < w.heap.size
  ne : ∀ g o g' o', A = some ⟨g, o, none⟩ → A' = some ⟨g', o', none⟩ → g ≠ g'

theorem Two.swap {w : World} {base n c n' c' : Nat} {A A' : Option Addr} {l l' : List UInt8} (h : Two w base A n c l A' n' c' l') : Two w base A' n' c' l' A n c l := ⟨h.b, h.a, h.bl, h.al, fun g o g' o' h1 h2 e => h.ne g' o' g o h2 h1 e.symm⟩

theorem Two.to {w w' : World} {base n c n' c' : Nat} {A A' : Option Addr} {l l' : List UInt8} (h : Two w base A n c l A' n' c' l') (hb : Below w.heap.size w w') : Two w' base A n c l A' n' c' l' := ⟨h.a.to hb, h.b.to hb, fun g o e => Nat.lt_of_lt_of_le (h.al g o e) hb.size, fun g o e => Nat.lt_of_lt_of_le (h.bl g o e) hb.size, h.ne⟩

theorem Two.app {w w' : World} {base n c n' c' m c2 : Nat} {A A' A2 : Option Addr} {l l' l2 : List UInt8} (h : Two w base A n c l A' n' c' l') (o : OwnS w' base A2 m c2 (l2.map B8)) (hs : w.heap.size ≤ w'.heap.size)
    (k : ∀ k, k < w.heap.size → (∀ g o, A = some ⟨g, o, none⟩ → k ≠ g) → w'.heap[k]? = w.heap[k]?) (e : A2 = A ∨ A2 = some ⟨w.heap.size, 0, none⟩ ∧ w.heap.size < w'.heap.size) : Two w' base A2 m c2 l2 A' n' c' l' := by
  refine ⟨o, h.b.same fun b o' e' hb => k b hb (fun g o e2 e3 => h.ne g o b o' e2 e' e3.symm), ?_, fun g o e => Nat.lt_of_lt_of_le (h.bl g o e) hs, ?_⟩
  · intro g o e1
    rcases e with rfl | ⟨rfl, h6⟩
    · exact Nat.lt_of_lt_of_le (h.al g o e1) hs
    · injection e1 with e1; injection e1 with e2; subst e2; exact h6
  · intro g o g' o' e1 e2
    rcases e with rfl | ⟨rfl, h6⟩
    · exact h.ne g o g' o' e1 e2
    · injection e1 with e1; injection e1 with e3; subst e3; exact fun e4 => by have := h.bl g' o' e2; omega

theorem own_block_ge {w : World} {base n c : Nat} {A : Option Addr} {xs : List Value} {e : TypeId} (h : w.ownsRow base e 1 (.slice A n c) n xs) : ∀ k, (Value.slice A n c).ownBlock = some k → base ≤ k := by
  intro k hk
  rcases h.2 with ⟨hv, _⟩ | ⟨g, cap, cur, hv, hb, _⟩
  · injection hv with h1; subst h1; cases hk
  · injection hv with h1; subst h1
    simp [Value.ownBlock] at hk
    omega

theorem step_app_zeros {ops : Array Oper} {E : Prop} {o : Oper} {a : Act} {K : Act → World → Prop} {Q : Exit → Act → World → Prop} (s x : Operand) (t tn : TypeId)
    (hgd : o.guard = none) (ho : o.op = .call { callee := .builtin .append, args := #[s, x], argTypes := #[t, tn] })
    (base : Nat) (e : TypeId) (ht : P.underlying t = some (.slice e)) (htn : P.underlying tn = some (.int .i64)) (u : TypeId) (hu : P.underlying u = some .string) (hi8 : (P.info? e).map (fun i => (i.zero, i.size, i.bytes)) = some (some (.int .u8 0), 1, 1))
    (A : Option Addr) (n c : Nat) (xs : List Value) (hs : a.eval s = .slice A n c) (hown : w.ownsRow base e 1 (.slice A n c) n xs)
    (m : Nat) (hx : a.eval x = .int .i64 m) (h63 : n + m ≤ maxLen) (hbytes : n + m ≤ 140737488355328) (hbase : base ≤ w.heap.size)
    (h : ∀ A' c' w', w'.ownsRow base e 1 (.slice A' (n + m) c') (n + m) (xs ++ List.replicate m (Value.int .u8 0)) → w.grownBy w' (Value.slice A n c).ownBlock →
      K (a.put o.dst (.slice A' (n + m) c')) w') : if Region.wanted o (yielded ops a.tmps) = true then Oper.wp P o a w K Q else E := by
  rw [if_pos (by simp [Region.wanted, hgd])]
  obtain ⟨i, hi, hz, hsize, hby⟩ := info_parts hi8
  obtain ⟨v', w', hr, h2, h3, _⟩ := Lib.run_append_own_string (P := P) w base t u o.type e i ht hu hi hz hsize hby _ n xs hown (nought m) (by rw [nought_size]; exact h63) (by rw [nought_size]; exact hbytes) hbase
  rw [← run_app_zeros t tn u o.type e i ht htn hu hi hz hsize hby A n c m hbytes (own_cap' hown)] at hr
  rw [nought_size, nought_cells] at h2
  obtain ⟨A', c', rfl⟩ : ∃ A' c', v' = .slice A' (n + m) c' := by
    rcases h2.2 with ⟨rfl, h0⟩ | ⟨g, cap, cur, rfl, _⟩
    · exact ⟨_, _, by rw [h0]⟩
    · exact ⟨_, _, rfl⟩
  unfold Oper.wp execOp
  simp only [ho, resolve, invoke, builtin, Sem.run_bind, Sem.run_pure, Result.andThen_ok, List.map_toArray, List.map_cons, List.map_nil, hs, hx, hr]
  exact h A' c' w' h2 h3

theorem rdl_lit' (w : World) (vs : List (Option Addr × Nat × Nat × List UInt8)) (t : TypeId) (h : ∀ (i : Nat) (A : Option Addr) (m c : Nat) (l : List UInt8), vs[i]? = some (A, m, c, l) → Rd w w.heap.size 1 A m (l.map B8) ∧ m ≤ c) (n : Nat) (hn : vs.length = n) :
    RdL (w.alloc (.cells (vs.map fun v => Value.slice v.1 v.2.1 v.2.2.1).toArray t)) (w.alloc (.cells (vs.map fun v => Value.slice v.1 v.2.1 v.2.2.1).toArray t)).heap.size (some ⟨w.heap.size, 0, none⟩) n (vs.map fun v => v.2.2.2) := by
  refine ⟨by simpa using hn, fun i l hl => ?_⟩
  rw [List.getElem?_map] at hl
  obtain ⟨⟨A, m, c, l'⟩, hv, rfl⟩ := Option.map_eq_some_iff.1 hl
  obtain ⟨h1, h2⟩ := h i A m c l' hv
  have hm : l'.length = m := by simpa using h1.len
  subst hm
  refine ⟨w.heap.size, 0, A, c, rfl, by simp, ?_, h1.to ((Below.refl _ _).alloc (Nat.le_refl _) _), h2⟩
  rw [Nat.zero_add]
  refine cell_blk (heap_alloc_new w _) i ?_
  simp [hv]

theorem range_keep {w w' : World} {g B : Nat} {cs : List Value} (h : w.rangeAt g 0 cs) (hb : Below B w w') (hg : g < B) : w'.rangeAt g 0 cs := fun j v hj => (World.cell?_of_block (a := ⟨g, 0 + j, none⟩) (hb.block g hg)).trans (h j v hj)

structure Fx (w w' : World) (bx : Nat) (ne : Prop) : Prop where
  os : w'.os = w.os
  tape : w'.tape = w.tape
  output : w'.output = w.output
  size : w.heap.size ≤ w'.heap.size
  block : ∀ k, k < w.heap.size → (ne → k ≠ bx) → w'.heap[k]? = w.heap[k]?

theorem Fx.refl (w : World) (bx : Nat) (ne : Prop) : Fx w w bx ne := ⟨rfl, rfl, rfl, Nat.le_refl _, fun _ _ _ => rfl⟩

theorem Fx.below {w w' : World} {bx B : Nat} {ne : Prop} (h : Fx w w' bx ne) (hB : B ≤ bx) (hs : B ≤ w.heap.size) : Below B w w' := ⟨h.os, h.tape, h.output, h.size, fun k hk => h.block k (by omega) (fun _ => by omega)⟩

theorem Fx.set {w w' : World} {bx : Nat} {ne : Prop} (h : Fx w w' bx ne) (hne : ne) (j : Nat) (v : Value) : Fx w (w'.setCell ⟨bx, j, none⟩ v) bx ne :=
  ⟨(World.os_setCells w' bx j [v]).trans h.os, (heap_of_setCells w' bx j [v]).1.trans h.tape, (World.output_setCells w' bx j [v]).trans h.output, by have := (heap_of_setCells w' bx j [v]).2; exact Nat.le_trans h.size (Nat.le_of_eq this.symm),
   fun k hk hk' => (World.heap_setCells_other w' bx j [v] (Nat.lt_of_lt_of_le hk h.size) (hk' hne)).trans (h.block k hk hk')⟩

end
end Go.Proofs.Ytabcbpcfleociaa
