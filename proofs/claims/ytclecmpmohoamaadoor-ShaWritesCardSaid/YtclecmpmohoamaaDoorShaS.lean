/- The program's Hash: Write. (Printed by gen_shao.py.) -/
import Derived.Test.YtclecmpmohoamaaDoorShaT
import Derived.Test.YtclecmpmohoamaaDoorShaR
import Derived.Test.YtclecmpmohoamaaDoorSlt
namespace Go.Proofs.YtclecmpmohoamaaDoor
open Go.RowKit
set_option linter.unusedVariables false
set_option linter.unusedSimpArgs false

/-- What a write to a Hash leaves: all but its two blocks. -/
structure Hw (w w' : World) (g r : Nat) : Prop where
  os : w'.os = w.os
  tape : w'.tape = w.tape
  output : w'.output = w.output
  size : w.heap.size ≤ w'.heap.size
  block : ∀ j, j < w.heap.size → j ≠ g → j ≠ r → w'.heap[j]? = w.heap[j]?
theorem Hw.below {w w' : World} {g r B : Nat} (h : Hw w w' g r) (hg : B ≤ g) (hr : B ≤ r) (hB : B ≤ w.heap.size) : Below B w w' := ⟨h.os, h.tape, h.output, h.size, fun k hk => h.block k (by omega) (by omega) (by omega)⟩
theorem Hw.step {w w1 w2 : World} {g r B : Nat} (h : Hw w w1 g r) (hb : Below B w1 w2) (hB : w.heap.size ≤ B) : Hw w w2 g r :=
  ⟨hb.os.trans h.os, hb.tape.trans h.tape, hb.output.trans h.output, Nat.le_trans h.size hb.size, fun j hj h1 h2 => (hb.block j (by omega)).trans (h.block j hj h1 h2)⟩
theorem Hw.cells {w w1 : World} {g r : Nat} (h : Hw w w1 g r) (o : Nat) (vs : List Value) : Hw w (w1.setCells g o vs) g r := by
  obtain ⟨htp, hsz⟩ := heap_of_setCells w1 g o vs
  exact ⟨(World.os_setCells _ _ _ _).trans h.os, htp.trans h.tape, (World.output_setCells _ _ _ _).trans h.output, by rw [hsz]; exact h.size, fun j hj h1 h2 => (World.heap_setCells_other _ _ _ _ (Nat.lt_of_lt_of_le hj h.size) h1).trans (h.block j hj h1 h2)⟩
theorem Hw.cell {w w1 : World} {g r : Nat} (h : Hw w w1 g r) (o : Nat) (v : Value) : Hw w (w1.setCell ⟨g, o, none⟩ v) g r := h.cells o [v]
theorem Hw.drew {w w1 : World} {g r : Nat} (h : Hw w w1 g r) : Hw w w1.drew g r := ⟨h.os, h.tape, h.output, h.size, h.block⟩
theorem set8' {w : World} {g : Nat} {t : TypeId} {f : Nat × Nat} {a0 a1 a2 a3 a4 a5 a6 a7 a8 a9 : Value} (h : w.heap[g]? = some (.cells #[a0, a1, a2, a3, a4, a5, a6, a7, a8, a9] t f)) (b0 b1 b2 b3 b4 b5 b6 b7 : Value) :
    (w.setCells g 0 [b0, b1, b2, b3, b4, b5, b6, b7]).heap[g]? = some (.cells #[b0, b1, b2, b3, b4, b5, b6, b7, a8, a9] t f) := by
  have h0 := heap_set (j := 0) h b0
  have h1 := heap_set (j := 1) h0 b1
  have h2 := heap_set (j := 2) h1 b2
  have h3 := heap_set (j := 3) h2 b3
  have h4 := heap_set (j := 4) h3 b4
  have h5 := heap_set (j := 5) h4 b5
  have h6 := heap_set (j := 6) h5 b6
  have h7 := heap_set (j := 7) h6 b7
  simp only [List.setIfInBounds_toArray, List.set_cons_zero, List.set_cons_succ] at h7
  simp only [World.setCells, Nat.zero_add, Nat.reduceAdd]
  exact h7
theorem there_sub {w : World} {g : Nat} {cs : Array Value} {t : TypeId} (h : w.heap[g]? = some (.cells cs t (0, 0))) {n : Nat} (hn : n ≤ cs.size) : w.there g 0 n := fun j hj => by
  rw [Nat.zero_add]
  constructor
  · simp only [World.cell?, h]
    rw [Array.getElem?_eq_getElem (by omega)]
    rfl
  · simp only [World.frozen?, h]
    simp
theorem infoB : (Tryd.prog.info? 5).map (fun i => (i.zero, i.size, i.bytes)) = some (some (.int .u8 0), 1, 1) := by kernel_rfl
theorem oneB (l : List UInt8) : ∀ u ∈ l.map B8, u.oneCell' = true := by
  intro u hu
  obtain ⟨b, _, rfl⟩ := List.mem_map.1 hu
  rfl
theorem OwnS.ne {w : World} {base n c : Nat} {A : Option Addr} {xs : List Value} (h : OwnS w base A n c xs) (o : Nat) (v : Value) {g : Nat} (hg : ∀ b o, A = some ⟨b, o, none⟩ → b ≠ g) : OwnS (w.setCell ⟨g, o, none⟩ v) base A n c xs :=
  h.same fun b o' e _ => World.heap_setCells_other w g o [v] ‹_› (hg b o' e)
theorem cut_block {w : World} {base n : Nat} {A : Option Addr} {xs : List Value} {c k r g : Nat} (ho : OwnS w base A n c xs) (hc : 0 < c) (h : ∀ b o, A = some ⟨b, o, none⟩ → b = r ∧ b ≠ g) : ∀ b o, (if c = k then A else A.map (·.add (k * 1))) = some ⟨b, o, none⟩ → b = r ∧ b ≠ g := by
  intro b o e
  obtain ⟨g', o', rfl, _⟩ := ho.mem hc
  split at e
  · exact h b o e
  · simp only [Option.map_some, addr_add] at e
    injection e with e
    injection e with e1
    subst e1
    exact h _ _ rfl
set_option maxRecDepth 20000 in
set_option maxHeartbeats 4000000 in
theorem write_ (base g r : Nat) (l m : List UInt8) (A : Option Addr) (n c : Nat) (w : World) (hh : Ha w base g r l) (hr : Rd w w.heap.size 1 A n (m.map B8)) (hne : 0 < n → ∀ b o, A = some ⟨b, o, none⟩ → b ≠ g) (hn : l.length + m.length ≤ 1000000) (hL : LayS w) (h4 : 4 ≤ base) (hb : base ≤ w.heap.size) :
    Calls Tryd.prog 22 #[.pointer (some ⟨g, 0, none⟩), .slice A n c] w fun e w' => ∃ r', e = .returned (.tuple #[]) ∧ Hid (r' = r ∨ w.heap.size ≤ r' ∧ r' < w'.heap.size) ∧ Ha w' base g r' (l ++ m) ∧ Hw w w' g r := by
  obtain ⟨V0, A0, n0, c0, hV0, hcells, hown, hA0⟩ := hh.ex
  have hgl := hh.lt
  obtain rfl : m.length = n := by simpa using hr.len
  obtain ⟨p, hp⟩ : ∃ p, Hid (p = left K32 l) := ⟨_, Lib.hid rfl⟩
  rw [← hp.out] at hown
  obtain ⟨a0, ha0⟩ : ∃ a, Hid (a = l.length) := ⟨_, Lib.hid rfl⟩
  obtain ⟨a1, ha1⟩ : ∃ a, Hid (a = a0 + m.length) := ⟨_, Lib.hid rfl⟩
  rw [← ha0.out] at hcells
  have hn0 : n0 ≤ l.length := by
    have h1 := hown.len
    rw [List.length_map, hp.out, left_length] at h1
    rw [← h1]
    exact Nat.mod_le _ _
  have ha0b : a0 ≤ 1000000 := by rw [ha0.out]; omega
  have fa : IntKind.i64.wrap ((a0 : Int) + (m.length : Int)) = (a1 : Int) := by rw [IntWalk.i64_in _ (by omega), ha1.out]; omega
  have fb : (a0 : Int) + (m.length : Int) = (a1 : Int) := by rw [ha1.out]; omega
  have c9 : w.cell? ⟨g, 9, none⟩ = some (.int .i64 a0) := cell_blk hcells 9 rfl
  have f9 := frozen_blk hcells 9
  obtain ⟨w1, hw1⟩ : ∃ w1, Hid (w1 = w.setCell ⟨g, 9, none⟩ (.int .i64 a1)) := ⟨_, Lib.hid rfl⟩
  have hcells1 : Hid (w1.heap[g]? = some (.cells #[.int .u32 (V0.a : Nat), .int .u32 (V0.b : Nat), .int .u32 (V0.c : Nat), .int .u32 (V0.d : Nat), .int .u32 (V0.e : Nat), .int .u32 (V0.f : Nat), .int .u32 (V0.g : Nat), .int .u32 (V0.h : Nat), .slice A0 n0 c0, .int .i64 a1] 65 (0, 0))) := by rw [hw1.out]; exact heap_set hcells _
  have c8 : (w.setCell ⟨g, 9, none⟩ (.int .i64 a1)).cell? ⟨g, 8, none⟩ = some (.slice A0 n0 c0) := by rw [← hw1.out]; exact cell_blk hcells1.out 8 rfl
  have Hown1 : Hid (OwnS w1 base A0 n0 c0 (p.map B8)) := by rw [hw1.out]; exact hown.ne 9 _ (fun b o e => (hA0 b o e).2)
  have Hr1 : Hid (Rd w1 w1.heap.size 1 A m.length (m.map B8)) := by
    rw [hw1.out]
    refine ⟨by simp, fun h0 => ?_⟩
    obtain ⟨b, o, rfl, hb1, hc⟩ := hr.2 h0
    refine ⟨b, o, rfl, by simpa [World.setCell] using hb1, fun j u hu => ?_⟩
    exact (World.cell?_of_block (a := ⟨b, o + j, none⟩) (World.heap_setCells_other w g 9 [_] hb1 (hne h0 b o rfl))).trans (hc j u hu)
  have hHw1 : Hid (Hw w w1 g r) := by rw [hw1.out]; exact (⟨rfl, rfl, rfl, Nat.le_refl _, fun _ _ _ _ => rfl⟩ : Hw w w g r).cell 9 _
  have hsz1 : w.heap.size ≤ w1.heap.size := hHw1.out.size
  have Hlo := Lib.hid hh.lo
  have Hlor := Lib.hid hh.lor
  have HL := Lib.hid hL
  have HA0 := Lib.hid hA0
  have hone := Lib.hid (oneB m)
  clear hr hne hL hh hcells hown hA0
  go_enter Tryd.func22, Tryd.ntmps22
  go_wp2_with (
    refine wpList_apT rfl (.tmp 19) (.tmp 20) 22 rfl base 5 1 (.int .u8 0) Tryd.underlying22 infoB rfl A0 n0 c0 (p.map B8) rfl (by rw [← hw1.out]; exact Hown1.out) w1.heap.size A m.length c (m.map B8) rfl (by rw [← hw1.out]; exact Hr1.out) hone.out (by simp only [maxLen]; omega) (by omega) (by rw [← hw1.out]; omega) ?_
    rw [← hw1.out]
    intro A2 c2 w2 o2 b2 _ k2 a2
    have Ho2 := Lib.hid o2
    have Hb2 := Lib.hid b2
    have Hk2 := Lib.hid k2
    obtain ⟨n2, hn2⟩ : ∃ n2, n2 = n0 + m.length := ⟨_, rfl⟩
    obtain ⟨r2, hr2, hA2⟩ : ∃ r2, (r2 = r ∨ w.heap.size ≤ r2 ∧ r2 < w2.heap.size) ∧ (∀ b o, A2 = some ⟨b, o, none⟩ → b = r2 ∧ b ≠ g) := by
      rcases a2 with rfl | ⟨rfl, h6⟩
      · exact ⟨r, .inl rfl, HA0.out⟩
      · exact ⟨w1.heap.size, .inr ⟨hsz1, h6⟩, fun b o e => by injection e with e; injection e with e1; subst e1; exact ⟨rfl, by omega⟩⟩
    rw [← hn2] at o2 ⊢
    have Ho2 := Lib.hid o2
    have Hr2 := Lib.hid hr2
    have HA2 := Lib.hid hA2
    have Hn2 := Lib.hid hn2
    have hHw2 : Hid (Hw w w2 g r) := by
      have h := hHw1.out
      exact ⟨b2.os.trans h.os, b2.tape.trans h.tape, b2.output.trans h.output, Nat.le_trans h.size b2.size, fun j hj h1 h2 => (k2 j (Nat.lt_of_lt_of_le hj h.size) (fun b o e he => h2 (by rw [he]; exact (HA0.out b o e).1))).trans (h.block j hj h1 h2)⟩
    have hcells2 : Hid (w2.heap[g]? = some (.cells #[.int .u32 (V0.a : Nat), .int .u32 (V0.b : Nat), .int .u32 (V0.c : Nat), .int .u32 (V0.d : Nat), .int .u32 (V0.e : Nat), .int .u32 (V0.f : Nat), .int .u32 (V0.g : Nat), .int .u32 (V0.h : Nat), .slice A0 n0 c0, .int .i64 a1] 65 (0, 0))) := (k2 g (lt_of_blk hcells1.out) (fun b o e h => (HA0.out b o e).2 h.symm)).trans hcells1.out
    clear o2 b2 k2 a2 c8 c9 f9 hr2 hA2 hn2
    have c8 := cell_blk hcells2.out 8 rfl
    have f8 := frozen_blk hcells2.out 8)
  obtain ⟨w3, hw3⟩ : ∃ w3, w3 = w2.setCell ⟨g, 8, none⟩ (.slice A2 n2 c2) := ⟨_, rfl⟩
  have hcells3 : Hid (w3.heap[g]? = some (.cells #[.int .u32 (V0.a : Nat), .int .u32 (V0.b : Nat), .int .u32 (V0.c : Nat), .int .u32 (V0.d : Nat), .int .u32 (V0.e : Nat), .int .u32 (V0.f : Nat), .int .u32 (V0.g : Nat), .int .u32 (V0.h : Nat), .slice A2 n2 c2, .int .i64 a1] 65 (0, 0))) := by rw [hw3]; exact heap_set hcells2.out _
  obtain ⟨q, hq⟩ : ∃ q, Hid (q = p ++ m) := ⟨_, Lib.hid rfl⟩
  have Ho3 : Hid (OwnS w3 base A2 n2 c2 ((q.drop (0 * 64)).map B8)) := by
    unfold Hid
    rw [hw3, Nat.zero_mul, List.drop_zero, hq.out, List.map_append]
    exact Ho2.out.ne 8 _ (fun b o e => (HA2.out b o e).2)
  have hHw3 : Hid (Hw w w3 g r) := by rw [hw3]; exact hHw2.out.cell 8 _
  have hq2 : Hid (n2 + 0 * 64 = q.length) := by have := Ho3.out.len; rw [List.length_map, Nat.zero_mul, List.drop_zero] at this; unfold Hid; omega
  have hV0o : Hid (V0.ok 32) := by unfold Hid; rw [hV0.out]; exact comp_ok _ F32_ok
  have hV0c : Hid (V0 = comp K32 0 V0 q) := rfl
  have Hi8 : Hid ((Tryd.prog.info? 62).map (·.size) = some (#[.int .u32 (V0.a : Nat), .int .u32 (V0.b : Nat), .int .u32 (V0.c : Nat), .int .u32 (V0.d : Nat), .int .u32 (V0.e : Nat), .int .u32 (V0.f : Nat), .int .u32 (V0.g : Nat), .int .u32 (V0.h : Nat)] : Array Value).size) := Lib.hid (by kernel_rfl)
  have hsz3 : Hid (w2.heap.size ≤ w3.heap.size) := by rw [hw3]; unfold Hid; simp [World.setCell]
  rw [← hw3]
  have HW3 := Lib.hid hw3
  clear hw3 c8 f8 Ho2 hHw2 hcells2 Hown1 Hr1 hHw1 hcells1
  go_loopw [24] (fun _ wr => ∃ (i n : Nat) (A : Option Addr) (c : Nat) (V : S8), Hid (n + i * 64 = q.length) ∧ n ≤ c ∧ Hid (V = comp K32 i V0 q) ∧ Hid (V.ok 32) ∧ Hid (wr.heap[g]? = some (.cells #[.int .u32 (V.a : Nat), .int .u32 (V.b : Nat), .int .u32 (V.c : Nat), .int .u32 (V.d : Nat), .int .u32 (V.e : Nat), .int .u32 (V.f : Nat), .int .u32 (V.g : Nat), .int .u32 (V.h : Nat), .slice A n c, .int .i64 a1] 65 (0, 0))) ∧ Hid (OwnS wr base A n c ((q.drop (i * 64)).map B8)) ∧ Hid (∀ b o, A = some ⟨b, o, none⟩ → b = r2 ∧ b ≠ g) ∧ Hid (Hw w wr g r) ∧ Hid (w2.heap.size ≤ wr.heap.size)) (fun _ wr => slN ((wr.cell? ⟨g, 8, none⟩).getD undef))
  case atStart => exact ⟨0, n2, A2, c2, V0, hq2, Ho3.out.le, hV0c, hV0o, hcells3, Ho3, HA2, hHw3, hsz3⟩
  case round =>
    obtain ⟨i, n, A, c, V, hni, hnc, hV, hVo, hgr, hrr, hAr, hHr, hsr⟩ := hrel
    obtain ⟨wq, hwq⟩ : ∃ wq, wq = wr := ⟨wr, rfl⟩
    subst hwq
    have d8 : wq.cell? ⟨g, 8, none⟩ = some (.slice A n c) := cell_blk hgr.out 8 rfl
    by_cases hnS : 64 ≤ n
    · have hnS' : (64 : Int) ≤ n := by omega
      have hc1 : (64 : Int) ≤ c := by omega
      have hc3 : 64 ≤ c := by omega
      have hni3 : Hid (n - 64 + (i + 1) * 64 = q.length) := by have := hni.out; unfold Hid; omega
      have hb4 : Hid (Below 4 w wq) := hHr.out.below (by have := Hlo.out; omega) (by have := Hlor.out; omega) (by omega)
      have hLr : Hid (LayS wq.drew) := (HL.out.to (Nat.le_refl 4) hb4.out).drew
      have hld : Hid ((Instr.loadAt 62 (.pointer (some ⟨g, 0, none⟩))).run Tryd.prog wq.drew = .ok (.agg #[.int .u32 (V.a : Nat), .int .u32 (V.b : Nat), .int .u32 (V.c : Nat), .int .u32 (V.d : Nat), .int .u32 (V.e : Nat), .int .u32 (V.f : Nat), .int .u32 (V.g : Nat), .int .u32 (V.h : Nat)]) wq.drew) := Lib.hid (load_part (w := wq.drew) [.int .u32 (V.a : Nat), .int .u32 (V.b : Nat), .int .u32 (V.c : Nat), .int .u32 (V.d : Nat), .int .u32 (V.e : Nat), .int .u32 (V.f : Nat), .int .u32 (V.g : Nat), .int .u32 (V.h : Nat)] hgr.out (by intro j v hj; (rcases j with _ | _ | _ | _ | _ | _ | _ | _ | j <;> first | exact hj | (simp at hj))) Tryd.underlying62 rfl (by kernel_rfl))
      have hlk : Hid ((Instr.loadAt 58 (.pointer (some ⟨1, 0, none⟩))).run Tryd.prog wq.drew = .ok (.agg #[.int .i64 32, .int .i64 64, .int .i64 2, .int .i64 13, .int .i64 22, .int .i64 6, .int .i64 11, .int .i64 25, .int .i64 7, .int .i64 18, .int .i64 3, .int .i64 17, .int .i64 19, .int .i64 10]) wq.drew) := Lib.hid (run_loadAt_mid (P := Tryd.prog) wq.drew 1 0 58 [.int .i64 32, .int .i64 64, .int .i64 2, .int .i64 13, .int .i64 22, .int .i64 6, .int .i64 11, .int .i64 25, .int .i64 7, .int .i64 18, .int .i64 3, .int .i64 17, .int .i64 19, .int .i64 10] _ hLr.out.kind Tryd.underlying58 rfl (by kernel_rfl))
      have d8' : wq.drew.cell? ⟨g, 8, none⟩ = some (.slice A n c) := d8
      have hrS : Hid (Rd wq.drew wq.drew.heap.size 1 A 64 (((q.drop (i * 64)).take 64).map B8)) := by
        have h1 := hrr.out.rd.to (below_drew (Below.refl _ _))
        rw [List.map_take]
        exact h1.take hnS
      have hrT : Hid (OwnS wq base (if c = 64 then A else A.map (·.add (64 * 1))) (n - 64) (c - 64) ((q.drop ((i + 1) * 64)).map B8)) := by
        have h1 := hrr.out.cut (k := 64) hnS
        rw [← List.map_drop, List.drop_drop, show i * 64 + 64 = (i + 1) * 64 by rw [Nat.succ_mul]] at h1
        exact h1
      have hAT : Hid (∀ b o, (if c = 64 then A else A.map (·.add (64 * 1))) = some ⟨b, o, none⟩ → b = r2 ∧ b ≠ g) := cut_block hrr.out (by omega) hAr.out
      have hnx : Hid (blk K32 V ((q.drop (i * 64)).take 64) = comp K32 (i + 1) V0 q) := by
        unfold Hid
        rw [hV.out]
        exact (comp_snoc K32 i V0 q).symm
      have hgl2 : Hid (g < wq.heap.size) := lt_of_blk hgr.out
      go_wp2_with fail
      have hdisj := Lib.hid hgl2.out
      have hb4q : Hid (Below 4 w wq.drew) := below_drew hb4.out
      refine wp_region_noPanic ?_
      refine wp_region_held_drew (S := fun w' => w'.cell? ⟨g, 8, none⟩ = some (.slice A n c) ∧ w'.rangeAt 1 0 [.int .i64 32, .int .i64 64, .int .i64 2, .int .i64 13, .int .i64 22, .int .i64 6, .int .i64 11, .int .i64 25, .int .i64 7, .int .i64 18, .int .i64 3, .int .i64 17, .int .i64 19, .int .i64 10]) (by kernel_rfl) ⟨d8', hLr.out.kind⟩ (fun hS => ?_)
      obtain ⟨W5, hW5⟩ : ∃ W, W = wq.drew := ⟨_, rfl⟩
      rw [← hW5] at hrS hLr d8' hS
      have hrv : W5.rangeAt g 0 [.int .u32 (V.a : Nat), .int .u32 (V.b : Nat), .int .u32 (V.c : Nat), .int .u32 (V.d : Nat), .int .u32 (V.e : Nat), .int .u32 (V.f : Nat), .int .u32 (V.g : Nat), .int .u32 (V.h : Nat)] := by rw [hW5]; exact range_part (w := wq.drew) [.int .u32 (V.a : Nat), .int .u32 (V.b : Nat), .int .u32 (V.c : Nat), .int .u32 (V.d : Nat), .int .u32 (V.e : Nat), .int .u32 (V.f : Nat), .int .u32 (V.g : Nat), .int .u32 (V.h : Nat)] (o := 0) hgr.out (by intro j v hj; (rcases j with _ | _ | _ | _ | _ | _ | _ | _ | j <;> first | exact hj | (simp at hj)))
      rw [← hW5]
      have HW5 := Lib.hid hW5
      clear hW5
      refine wpAnyH_take (i := 0) (v := ?v0) rfl (by kernel_rfl) (by kernel_rfl) (by kernel_rfl) (fun _ _ _ h => h) (Or.inl ⟨by rfl, ?hy0⟩) hS ?rest0
      case hy0 => (intro w hSw; go_simp; first | done | with_reducible rfl)
      try simp only [Act.put, List.getElem_toArray, List.getElem_cons_zero, List.getElem_cons_succ, List.setIfInBounds_toArray, List.set_cons_zero, List.set_cons_succ]
      refine wpAnyH_take (i := 1) (v := ?v1) rfl (by kernel_rfl) (by kernel_rfl) (by kernel_rfl) (fun _ _ _ h => h) (Or.inl ⟨by rfl, ?hy1⟩) hS ?rest1
      case hy1 => (intro w hSw; go_simp; first | done | with_reducible rfl)
      try simp only [Act.put, List.getElem_toArray, List.getElem_cons_zero, List.getElem_cons_succ, List.setIfInBounds_toArray, List.set_cons_zero, List.set_cons_succ]
      refine wpAnyH_take (i := 2) (v := ?v2) rfl (by kernel_rfl) (by kernel_rfl) (by kernel_rfl) (fun _ _ _ h => h) (Or.inl ⟨by rfl, ?hy2⟩) hS ?rest2
      case hy2 => (intro w hSw; go_simp; first | done | with_reducible rfl)
      try simp only [Act.put, List.getElem_toArray, List.getElem_cons_zero, List.getElem_cons_succ, List.setIfInBounds_toArray, List.set_cons_zero, List.set_cons_succ]
      refine wpAnyH_take (i := 3) (v := ?v3) rfl (by kernel_rfl) (by kernel_rfl) (by kernel_rfl) (fun _ _ _ h => h) (Or.inl ⟨by rfl, ?hy3⟩) hS ?rest3
      case hy3 => (intro w hSw; go_simp; first | done | with_reducible rfl)
      try simp only [Act.put, List.getElem_toArray, List.getElem_cons_zero, List.getElem_cons_succ, List.setIfInBounds_toArray, List.set_cons_zero, List.set_cons_succ]
      refine wpAnyH_take (i := 5) (v := ?v5) rfl (by kernel_rfl) (by kernel_rfl) (by kernel_rfl) (fun _ _ _ h => h) (Or.inl ⟨by rfl, ?hy5⟩) hS ?rest5
      case hy5 => (intro w hSw; go_simp; first | done | with_reducible rfl)
      try simp only [Act.put, List.getElem_toArray, List.getElem_cons_zero, List.getElem_cons_succ, List.setIfInBounds_toArray, List.set_cons_zero, List.set_cons_succ]
      refine wpAnyH_take (i := 6) (v := ?v6) rfl (by kernel_rfl) (by kernel_rfl) (by kernel_rfl) (fun _ _ _ h => h) (Or.inl ⟨by rfl, ?hy6⟩) hS ?rest6
      case hy6 => (intro w hSw; go_simp; first | done | with_reducible rfl)
      try simp only [Act.put, List.getElem_toArray, List.getElem_cons_zero, List.getElem_cons_succ, List.setIfInBounds_toArray, List.set_cons_zero, List.set_cons_succ]
      refine wpAnyH_take (i := 7) (v := ?v7) rfl (by kernel_rfl) (by kernel_rfl) (by kernel_rfl) (fun _ _ _ h => h) (Or.inl ⟨by rfl, ?hy7⟩) hS ?rest7
      case hy7 => (intro w hSw; go_simp; first | done | with_reducible rfl)
      try simp only [Act.put, List.getElem_toArray, List.getElem_cons_zero, List.getElem_cons_succ, List.setIfInBounds_toArray, List.set_cons_zero, List.set_cons_succ]
      refine wpAnyH_take (i := 8) (v := ?v8) rfl (by kernel_rfl) (by kernel_rfl) (by kernel_rfl) (fun _ _ _ h => h) (Or.inl ⟨by rfl, ?hy8⟩) hS ?rest8
      case hy8 => (intro w hSw; have hc8 := hSw.1; go_simp; first | done | with_reducible rfl)
      try simp only [Act.put, List.getElem_toArray, List.getElem_cons_zero, List.getElem_cons_succ, List.setIfInBounds_toArray, List.set_cons_zero, List.set_cons_succ]
      refine wpAnyH_take (i := 9) (v := ?v9) rfl (by kernel_rfl) (by kernel_rfl) (by kernel_rfl) (fun _ _ _ h => h) (Or.inl ⟨by rfl, ?hy9⟩) hS ?rest9
      case hy9 => (intro w hSw; go_simp; first | done | with_reducible rfl)
      try simp only [Act.put, List.getElem_toArray, List.getElem_cons_zero, List.getElem_cons_succ, List.setIfInBounds_toArray, List.set_cons_zero, List.set_cons_succ]
      refine wpAnyH_take (i := 10) (v := _) rfl (by kernel_rfl) (by kernel_rfl) (by kernel_rfl) (fun _ _ _ h => h) (yields_load (by rfl) (.global 1) (by rfl) (by rfl) (fun w hSw => run_loadAt_mid (P := Tryd.prog) w 1 0 58 [.int .i64 32, .int .i64 64, .int .i64 2, .int .i64 13, .int .i64 22, .int .i64 6, .int .i64 11, .int .i64 25, .int .i64 7, .int .i64 18, .int .i64 3, .int .i64 17, .int .i64 19, .int .i64 10] _ hSw.2 Tryd.underlying58 rfl (by kernel_rfl))) hS ?rest10
      try simp only [Act.put, List.getElem_toArray, List.getElem_cons_zero, List.getElem_cons_succ, List.setIfInBounds_toArray, List.set_cons_zero, List.set_cons_succ]
      refine wpAnyH_ready (rs := [4]) (by kernel_rfl) (by simp) ?_
      refine AllReadyH.cons rfl (fun K hK => ?_) AllReadyH.nil
      rw [if_pos (by rfl)]
      refine wp_load_mid 62 (.tmp 33) rfl g 0 rfl [.int .u32 (V.a : Nat), .int .u32 (V.b : Nat), .int .u32 (V.c : Nat), .int .u32 (V.d : Nat), .int .u32 (V.e : Nat), .int .u32 (V.f : Nat), .int .u32 (V.g : Nat), .int .u32 (V.h : Nat)] _ hrv Tryd.underlying62 rfl (by kernel_rfl) ?_
      refine hK.out _ _ hS ?_
      intro hS
      clear hK K
      try simp only [Act.put, List.getElem_toArray, List.getElem_cons_zero, List.getElem_cons_succ, List.setIfInBounds_toArray, List.set_cons_zero, List.set_cons_succ]
      refine wpAnyH_ready (rs := [11]) (by kernel_rfl) (by simp) ?_
      refine AllReadyH.cons rfl (fun K hK => ?_) AllReadyH.nil
      go_simp
      refine (pblock_32 A _ V ((q.drop (i * 64)).take 64) W5 hVo.out hrS.out hLr.out.key).mono ?_
      rintro e w5 ⟨rfl, hb5⟩
      obtain ⟨V2, hV2⟩ : ∃ V2, Hid (blk K32 V ((q.drop (i * 64)).take 64) = V2) := ⟨_, Lib.hid rfl⟩
      rw [hV2.out] at hnx ⊢
      have hVo2 : Hid (V2.ok 32) := by unfold Hid; rw [← hV2.out]; exact blk_ok K32 V _
      have hb5' : Hid (Below wq.heap.size wq w5) := (by rw [HW5.out] at hb5; exact (below_drew (Below.refl _ _)).trans hb5)
      have hg5 : Hid (w5.heap[g]? = some (.cells #[.int .u32 (V.a : Nat), .int .u32 (V.b : Nat), .int .u32 (V.c : Nat), .int .u32 (V.d : Nat), .int .u32 (V.e : Nat), .int .u32 (V.f : Nat), .int .u32 (V.g : Nat), .int .u32 (V.h : Nat), .slice A n c, .int .i64 a1] 65 (0, 0))) := (hb5'.out.block g hgl2.out).trans hgr.out
      have hS5 : w5.cell? ⟨g, 8, none⟩ = some (.slice A n c) ∧ w5.rangeAt 1 0 [.int .i64 32, .int .i64 64, .int .i64 2, .int .i64 13, .int .i64 22, .int .i64 6, .int .i64 11, .int .i64 25, .int .i64 7, .int .i64 18, .int .i64 3, .int .i64 17, .int .i64 19, .int .i64 10] := ⟨cell_blk hg5.out 8 rfl, ((hLr.out.keep (w' := w5) (fun j hj => hb5.block j (by have := hLr.out.size; omega))).kind)⟩
      have Ht5 : Hid (w5.there g 0 (#[.int .u32 (V2.a : Nat), .int .u32 (V2.b : Nat), .int .u32 (V2.c : Nat), .int .u32 (V2.d : Nat), .int .u32 (V2.e : Nat), .int .u32 (V2.f : Nat), .int .u32 (V2.g : Nat), .int .u32 (V2.h : Nat)] : Array Value).size) := there_sub hg5.out (by show (8 : Nat) ≤ 10; omega)
      have Ho5 : Hid ((#[.int .u32 (V2.a : Nat), .int .u32 (V2.b : Nat), .int .u32 (V2.c : Nat), .int .u32 (V2.d : Nat), .int .u32 (V2.e : Nat), .int .u32 (V2.f : Nat), .int .u32 (V2.g : Nat), .int .u32 (V2.h : Nat)] : Array Value).all (·.oneCell') = true) := by unfold Hid; kernel_rfl
      have hg6 : Hid ((w5.setCells g 0 [.int .u32 (V2.a : Nat), .int .u32 (V2.b : Nat), .int .u32 (V2.c : Nat), .int .u32 (V2.d : Nat), .int .u32 (V2.e : Nat), .int .u32 (V2.f : Nat), .int .u32 (V2.g : Nat), .int .u32 (V2.h : Nat)]).heap[g]? = some (.cells #[.int .u32 (V2.a : Nat), .int .u32 (V2.b : Nat), .int .u32 (V2.c : Nat), .int .u32 (V2.d : Nat), .int .u32 (V2.e : Nat), .int .u32 (V2.f : Nat), .int .u32 (V2.g : Nat), .int .u32 (V2.h : Nat), .slice A n c, .int .i64 a1] 65 (0, 0))) := set8' hg5.out _ _ _ _ _ _ _ _
      have hS6 : Hid ((w5.setCells g 0 [.int .u32 (V2.a : Nat), .int .u32 (V2.b : Nat), .int .u32 (V2.c : Nat), .int .u32 (V2.d : Nat), .int .u32 (V2.e : Nat), .int .u32 (V2.f : Nat), .int .u32 (V2.g : Nat), .int .u32 (V2.h : Nat)]).cell? ⟨g, 8, none⟩ = some (.slice A n c) ∧ (w5.setCells g 0 [.int .u32 (V2.a : Nat), .int .u32 (V2.b : Nat), .int .u32 (V2.c : Nat), .int .u32 (V2.d : Nat), .int .u32 (V2.e : Nat), .int .u32 (V2.f : Nat), .int .u32 (V2.g : Nat), .int .u32 (V2.h : Nat)]).rangeAt 1 0 [.int .i64 32, .int .i64 64, .int .i64 2, .int .i64 13, .int .i64 22, .int .i64 6, .int .i64 11, .int .i64 25, .int .i64 7, .int .i64 18, .int .i64 3, .int .i64 17, .int .i64 19, .int .i64 10]) := ⟨cell_blk hg6.out 8 rfl, ((hLr.out.keep (w' := w5.setCells g 0 [.int .u32 (V2.a : Nat), .int .u32 (V2.b : Nat), .int .u32 (V2.c : Nat), .int .u32 (V2.d : Nat), .int .u32 (V2.e : Nat), .int .u32 (V2.f : Nat), .int .u32 (V2.g : Nat), .int .u32 (V2.h : Nat)]) (fun j hj => (World.heap_setCells_other w5 g 0 _ (by have := hLr.out.size; have := hb5.size; omega) (by have := Hlo.out; omega)).trans (hb5.block j (by have := hLr.out.size; omega)))).kind)⟩
      unfold w8_32
      go_wp2_with fail
      refine hK.out _ _ hS5 ?_
      intro hS
      clear hK K hb5 hS5
      try simp only [Act.put, List.getElem_toArray, List.getElem_cons_zero, List.getElem_cons_succ, List.setIfInBounds_toArray, List.set_cons_zero, List.set_cons_succ]
      refine wpAnyH_take (i := 12) (v := ?v12) rfl (by kernel_rfl) (by kernel_rfl) (by kernel_rfl) (fun _ _ _ h => h) (Or.inl ⟨by rfl, ?hy12⟩) hS ?rest12
      case hy12 => (intro w hSw; go_simp; first | done | with_reducible rfl)
      try simp only [Act.put, List.getElem_toArray, List.getElem_cons_zero, List.getElem_cons_succ, List.setIfInBounds_toArray, List.set_cons_zero, List.set_cons_succ]
      refine wpAnyH_take (i := 13) (v := ?v13) rfl (by kernel_rfl) (by kernel_rfl) (by kernel_rfl) (fun _ _ _ h => h) (Or.inl ⟨by rfl, ?hy13⟩) hS ?rest13
      case hy13 => (intro w hSw; go_simp; first | done | with_reducible rfl)
      try simp only [Act.put, List.getElem_toArray, List.getElem_cons_zero, List.getElem_cons_succ, List.setIfInBounds_toArray, List.set_cons_zero, List.set_cons_succ]
      refine wpAnyH_ready (rs := [14]) (by kernel_rfl) (by simp) ?_
      refine AllReadyH.cons rfl (fun K hK => ?_) AllReadyH.nil
      rw [if_pos (by rfl)]
      refine wp_store_mid 62 (.tmp 43) (.tmp 41) rfl g 0 #[.int .u32 (V2.a : Nat), .int .u32 (V2.b : Nat), .int .u32 (V2.c : Nat), .int .u32 (V2.d : Nat), .int .u32 (V2.e : Nat), .int .u32 (V2.f : Nat), .int .u32 (V2.g : Nat), .int .u32 (V2.h : Nat)] rfl rfl Ht5.out Hi8.out Ho5.out ?_
      refine hK.out _ _ hS6.out ?_
      intro hS
      clear hK K
      try simp only [Act.put, List.getElem_toArray, List.getElem_cons_zero, List.getElem_cons_succ, List.setIfInBounds_toArray, List.set_cons_zero, List.set_cons_succ]
      refine wpAnyH_done (by kernel_rfl) (NoPanic.normal ?_) _
      obtain ⟨wf, hwf⟩ : ∃ wf, wf = w5.setCells g 0 [.int .u32 (V2.a : Nat), .int .u32 (V2.b : Nat), .int .u32 (V2.c : Nat), .int .u32 (V2.d : Nat), .int .u32 (V2.e : Nat), .int .u32 (V2.f : Nat), .int .u32 (V2.g : Nat), .int .u32 (V2.h : Nat)] := ⟨_, rfl⟩
      rw [← hwf] at hg6
      have Hwf2 := Lib.hid hwf.symm
      rw [show w5.setCells g 0 (#[.int .u32 (V2.a : Nat), .int .u32 (V2.b : Nat), .int .u32 (V2.c : Nat), .int .u32 (V2.d : Nat), .int .u32 (V2.e : Nat), .int .u32 (V2.f : Nat), .int .u32 (V2.g : Nat), .int .u32 (V2.h : Nat)] : Array Value).toList = wf from hwf.symm]
      clear hwf d8 d8' hS hS6
      have d8 := cell_blk hg6.out 8 rfl
      have e8 := frozen_blk hg6.out 8
      go_wp2_with fail
      generalize hA6 : (if c = 64 then A else Option.map _ A) = A6
      have hA6' : (if c = 64 then A else A.map (·.add (64 * 1))) = A6 := by rw [← hA6]; simp [Addr.add]
      rw [hA6'] at hrT hAT
      have hgl6 : Hid ((wf.setCell ⟨g, 8, none⟩ (.slice A6 (n - 64) (c - 64))).heap[g]? = some (.cells #[.int .u32 (V2.a : Nat), .int .u32 (V2.b : Nat), .int .u32 (V2.c : Nat), .int .u32 (V2.d : Nat), .int .u32 (V2.e : Nat), .int .u32 (V2.f : Nat), .int .u32 (V2.g : Nat), .int .u32 (V2.h : Nat), .slice A6 (n - 64) (c - 64), .int .i64 a1] 65 (0, 0))) := heap_set hg6.out _
      have hb6 : Hid (Hw w (wf.setCell ⟨g, 8, none⟩ (.slice A6 (n - 64) (c - 64))) g r) := by rw [← Hwf2.out]; exact ((hHr.out.step hb5'.out hHr.out.size).cells 0 _).cell 8 _
      have hr6 : Hid (OwnS (wf.setCell ⟨g, 8, none⟩ (.slice A6 (n - 64) (c - 64))) base A6 (n - 64) (c - 64) ((q.drop ((i + 1) * 64)).map B8)) := by
        rw [← Hwf2.out]
        refine OwnS.ne ((hrT.out.to hb5'.out).same fun b o e hb => World.heap_setCells_other w5 g 0 _ hb ((hAT.out b o e).2)) 8 _ (fun b o e => (hAT.out b o e).2)
      have hs6 : Hid (w2.heap.size ≤ (wf.setCell ⟨g, 8, none⟩ (.slice A6 (n - 64) (c - 64))).heap.size) := by
        rw [← Hwf2.out]
        show _ ≤ ((w5.setCells g 0 _).setCells g 8 [_]).heap.size
        rw [(heap_of_setCells _ _ _ _).2, (heap_of_setCells _ _ _ _).2]
        exact Nat.le_trans hsr.out hb5'.out.size
      refine ⟨⟨i + 1, n - 64, A6, c - 64, V2, hni3, by omega, hnx, hVo2, hgl6, hr6, hAT, hb6, hs6⟩, ?_⟩
      rw [cell_blk hgl6.out 8 rfl, cell_blk hgr.out 8 rfl]
      show slN (.slice A6 (n - 64) (c - 64)) < slN (.slice A n c)
      simp only [slN]
      omega
    · have hnS' : ¬ (64 : Int) ≤ n := by omega
      have hin : Hid (i = q.length / (2 * K32.b)) := by
        have := hni.out
        show i = q.length / 64
        omega
      have hfin : Hid (Ha wq base g r2 (l ++ m)) := by
        obtain ⟨h1, h2⟩ := head_append K32 (by decide) F32 l m
        rw [← hp.out, ← hq.out] at h1 h2
        rw [← hin.out] at h1 h2
        refine ⟨⟨V, A, n, c, ?_, ?_, ?_, hAr.out⟩, Hlo.out, ?_⟩
        · rw [h1, hV.out, hV0.out]; rfl
        · rw [hgr.out, List.length_append, ha1.out, ha0.out]
        · rw [h2]; exact hrr.out
        · rcases Hr2.out with h | h
          · rw [h]; exact Hlor.out
          · omega
      go_wp2_with fail
      refine bodyPost_end (results_none rfl _ _ _) rfl ?_
      exact ⟨rfl, r2, Hr2.out.imp id (fun h => ⟨h.1, Nat.lt_of_lt_of_le h.2 hsr.out⟩), hfin.out, hHr.out⟩
end Go.Proofs.YtclecmpmohoamaaDoor
