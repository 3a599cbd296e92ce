/- What the program's sums find laid. (Printed by gen_shao.py.) -/
import Derived.Test.YtclecmpmohoamaaDoorShaQ
import Derived.Test.YtclecmpmohoamaaDoorShaJ
import Derived.StillTailTactics
namespace Go.Proofs.YtclecmpmohoamaaDoor
open Go.RowKit
set_option linter.unusedVariables false
set_option linter.unusedSimpArgs false
theorem still_load {P : Program} {ops : Array Oper} {w : World} {Q : Act → Prop} {a : Act} {o : Oper} {rest : List Oper} {ty : TypeId} {v p : Value} (x : Operand) (hgd : o.guard = none) (ho : o.op = .load ty x) (hx : a.eval x = p)
    (hl : (Instr.loadAt ty p).run P w = .ok v w) (h : wpStill P ops w Q rest (a.put o.dst v)) : wpStill P ops w Q (o :: rest) a := by
  refine wpStill_step (fun K hK => ?_)
  rw [if_pos (by simp [Region.wanted, hgd])]
  unfold Oper.still execOp
  simp only [ho, hx, Sem.run_bind, Sem.run_pure, Result.andThen_ok, hl, Oper.stillUpon_value]
  exact hK _ h
def slN : Value → Nat
  | .slice _ n _ => n
  | _ => 0
/-- The small kind and its keys, where the program lays them. -/
structure LayS (w : World) : Prop where
  key : ∀ t k, K32.key[t]? = some k → w.cell? ⟨3, t, none⟩ = some (.int .u32 (k : Nat))
  kind : w.rangeAt 1 0 [.int .i64 32, .int .i64 64, .int .i64 2, .int .i64 13, .int .i64 22, .int .i64 6, .int .i64 11, .int .i64 25, .int .i64 7, .int .i64 18, .int .i64 3, .int .i64 17, .int .i64 19, .int .i64 10]
structure LayG (w : World) : Prop where
  key : ∀ t k, K64.key[t]? = some k → w.cell? ⟨2, t, none⟩ = some (.int .u64 (k : Nat))
  kind : w.rangeAt 0 0 [.int .i64 64, .int .i64 80, .int .i64 28, .int .i64 34, .int .i64 39, .int .i64 14, .int .i64 18, .int .i64 41, .int .i64 1, .int .i64 8, .int .i64 7, .int .i64 19, .int .i64 61, .int .i64 6]
theorem cell_keep {w w' : World} {a : Addr} {v : Value} (h : w.cell? a = some v) (e : ∀ j, j < 4 → w'.heap[j]? = w.heap[j]?) (ha : a.block < 4) : w'.cell? a = some v :=
  (World.cell?_of_block (a := a) (e a.block ha)).trans h
theorem LayS.keep {w w' : World} (h : LayS w) (e : ∀ j, j < 4 → w'.heap[j]? = w.heap[j]?) : LayS w' :=
  ⟨fun t k hk => cell_keep (h.key t k hk) e (by decide : 3 < 4), fun j v hv => cell_keep (h.kind j v hv) e (by decide : 1 < 4)⟩
theorem LayG.keep {w w' : World} (h : LayG w) (e : ∀ j, j < 4 → w'.heap[j]? = w.heap[j]?) : LayG w' :=
  ⟨fun t k hk => cell_keep (h.key t k hk) e (by decide : 2 < 4), fun j v hv => cell_keep (h.kind j v hv) e (by decide : 0 < 4)⟩
theorem LayS.size {w : World} (h : LayS w) : 4 ≤ w.heap.size := by
  have h1 : (3 : Nat) < w.heap.size := World.block_lt_of_cell? w ⟨3, 0, none⟩ (h.key 0 _ rfl)
  omega
theorem LayS.to {w w' : World} (h : LayS w) {B : Nat} (hB : 4 ≤ B) (hb : Below B w w') : LayS w' := h.keep fun j hj => hb.block j (by omega)
theorem LayG.to {w w' : World} (h : LayG w) {B : Nat} (hB : 4 ≤ B) (hb : Below B w w') : LayG w' := h.keep fun j hj => hb.block j (by omega)
theorem LayS.drew {w : World} (h : LayS w) : LayS w.drew := ⟨h.key, h.kind⟩
theorem LayG.drew {w : World} (h : LayG w) : LayG w.drew := ⟨h.key, h.kind⟩
theorem first'_32 (w : World) : Calls Tryd.prog 43 #[] w fun e w' => ∃ V : S8, Hid (V = F32) ∧ e = .returned (w8_32 V) ∧ Below w.heap.size w w' :=
  (first_32 w).mono fun _ _ h => ⟨F32, rfl, h.1, h.2⟩
theorem first'_64 (w : World) : Calls Tryd.prog 37 #[] w fun e w' => ∃ V : S8, Hid (V = F64) ∧ e = .returned (w8_64 V) ∧ Below w.heap.size w w' :=
  (first_64 w).mono fun _ _ h => ⟨F64, rfl, h.1, h.2⟩
theorem OwnS.setCells {w : World} {base n c : Nat} {A : Option Addr} {xs : List Value} (h : OwnS w base A n c xs) {g : Nat} (o : Nat) (vs : List Value) (hg : g < base) : OwnS (w.setCells g o vs) base A n c xs := by
  refine ⟨h.len, h.le, h.max, fun hc0 => ?_⟩
  obtain ⟨g', o', e, hb, hc, ht⟩ := h.mem hc0
  have hne : ¬ g' = g := by omega
  have e1 : ∀ j, (w.setCells g o vs).cell? ⟨g', o' + j, none⟩ = w.cell? ⟨g', o' + j, none⟩ := fun j => World.cell?_setCells_out g vs o w ⟨g', o' + j, none⟩ (fun e _ => absurd e hne)
  exact ⟨g', o', e, hb, fun j u hu => (e1 j).trans (hc j u hu), fun j hj => ⟨by rw [e1]; exact (ht j hj).1, by rw [World.frozen?_setCells]; exact (ht j hj).2⟩⟩
theorem rounds_lt {n i nb S : Nat} (h : n + i * S = nb * S) (hn : 0 < n) : S ≤ n ∧ n - S + (i + 1) * S = nb * S := by
  have h1 : i < nb := by
    rcases Nat.lt_or_ge i nb with h1 | h1
    · exact h1
    · have := Nat.mul_le_mul_right S h1; omega
  have h2 := Nat.mul_le_mul_right S h1
  rw [Nat.succ_mul] at h2
  rw [Nat.succ_mul]
  omega
end Go.Proofs.YtclecmpmohoamaaDoor
