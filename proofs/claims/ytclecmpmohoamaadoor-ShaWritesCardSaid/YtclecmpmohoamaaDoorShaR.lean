/- The program's Hash: New, Sum. (Printed by gen_shao.py.) -/
import Derived.Test.YtclecmpmohoamaaDoorShaT
import Derived.Test.YtclecmpmohoamaaDoorShaL
namespace Go.Proofs.YtclecmpmohoamaaDoor
open Go.RowKit
set_option linter.unusedVariables false
set_option linter.unusedSimpArgs false

/-- A Hash at block g to which l was written; what is kept of the bytes lies in block r. -/
structure Ha (w : World) (base g r : Nat) (l : List UInt8) : Prop where
  ex : ∃ (V : S8) (A : Option Addr) (n c : Nat), Hid (V = head K32 F32 l) ∧ w.heap[g]? = some (.cells #[.int .u32 (V.a : Nat), .int .u32 (V.b : Nat), .int .u32 (V.c : Nat), .int .u32 (V.d : Nat), .int .u32 (V.e : Nat), .int .u32 (V.f : Nat), .int .u32 (V.g : Nat), .int .u32 (V.h : Nat), .slice A n c, .int .i64 l.length] 65 (0, 0)) ∧ OwnS w base A n c ((left K32 l).map B8) ∧ ∀ b o, A = some ⟨b, o, none⟩ → b = r ∧ b ≠ g
  lo : base ≤ g
  lor : base ≤ r
theorem Ha.lt {w : World} {base g r : Nat} {l : List UInt8} (h : Ha w base g r l) : g < w.heap.size := by
  obtain ⟨V, A, n, c, _, hg, _⟩ := h.ex
  exact lt_of_blk hg
theorem OwnS.same {w w' : World} {base n c : Nat} {A : Option Addr} {xs : List Value} (h : OwnS w base A n c xs) (e : ∀ b o, A = some ⟨b, o, none⟩ → b < w.heap.size → w'.heap[b]? = w.heap[b]?) : OwnS w' base A n c xs := by
  refine ⟨h.len, h.le, h.max, fun hc0 => ?_⟩
  obtain ⟨g, o, e1, hg, hc, ht⟩ := h.mem hc0
  have hgl : g < w.heap.size := World.block_lt_of_cell? _ _ (Option.isSome_iff_exists.1 (ht 0 hc0).1).choose_spec
  have e2 := e g o e1 hgl
  exact ⟨g, o, e1, hg, fun j u hu => (World.cell?_of_block (a := ⟨g, o + j, none⟩) e2).trans (hc j u hu), fun j hj => ⟨by rw [World.cell?_of_block (a := ⟨g, o + j, none⟩) e2]; exact (ht j hj).1, (World.frozen?_of_block (a := ⟨g, o + j, none⟩) e2).trans (ht j hj).2⟩⟩
/-- A Hash is there still where neither of its blocks was touched. -/
theorem Ha.same {w w' : World} {base g r : Nat} {l : List UInt8} (h : Ha w base g r l) (e1 : w'.heap[g]? = w.heap[g]?) (e2 : r < w.heap.size → w'.heap[r]? = w.heap[r]?) : Ha w' base g r l := by
  obtain ⟨V, A, n, c, hV, hg, ho, ha⟩ := h.ex
  exact ⟨⟨V, A, n, c, hV, e1.trans hg, ho.same (fun b o e hb => by rw [(ha b o e).1] at hb ⊢; exact e2 hb), ha⟩, h.lo, h.lor⟩
theorem Ha.to {w w' : World} {base g r : Nat} {l : List UInt8} (h : Ha w base g r l) (hb : Below w.heap.size w w') : Ha w' base g r l := h.same (hb.block g h.lt) (fun hr => hb.block r hr)
theorem new_ (w : World) : Calls Tryd.prog 21 #[] w fun e w' => ∃ g, w.heap.size ≤ g ∧ e = .returned (.pointer (some ⟨g, 0, none⟩)) ∧ Ha w' w.heap.size g g [] ∧ Below w.heap.size w w' := by
  go_enter Tryd.func21, Tryd.ntmps21
  go_wp2_with fail
  refine (first'_32 _).mono ?_
  rintro e w1 ⟨V, hV, rfl, hb1⟩
  unfold w8_32
  have hs := hb1.size
  go_wp2_with fail
  go_ret
  refine ⟨w1.heap.size, hs, rfl, ⟨⟨V, none, 0, 0, ?_, heap_alloc_new w1 _, ?_, fun _ _ h => by cases h⟩, hs, hs⟩, hb1.trans ((Below.refl _ _).alloc hs _)⟩
  · rw [head_nil]; exact hV
  · rw [left_nil]; exact OwnS.nil _ _ _

set_option maxRecDepth 20000 in
set_option maxHeartbeats 4000000 in
theorem hsum_ (base g r : Nat) (l0 : List UInt8) (w : World) (hh : Ha w base g r l0) (hn : l0.length ≤ 1000000) (hL : LayS w) (h4 : 4 ≤ w.heap.size) : Calls Tryd.prog 23 #[.pointer (some ⟨g, 0, none⟩)] w fun e w' => ∃ A' c', e = .returned (.slice A' 32 c') ∧ w'.ownsRow w.heap.size 5 1 (.slice A' 32 c') 32 ((sumOf K32 F32 l0).map B8) ∧ Below w.heap.size w w' := by
  have HL := Lib.hid hL
  have H4 := Lib.hid h4
  have Hh := Lib.hid hh
  clear hL h4 hh
  go_enter Tryd.func23, Tryd.ntmps23
  obtain ⟨V0, A0, n0, c0, hV0, hcells, hown, hA0⟩ := Hh.out.ex
  obtain ⟨l, hl⟩ : ∃ l, Hid (l = left K32 l0) := ⟨_, Lib.hid rfl⟩
  have hn0 : n0 ≤ 1000000 := by
    have h1 := hown.len
    rw [List.length_map, left_length] at h1
    rw [← h1]
    exact Nat.le_trans (Nat.mod_le _ _) hn
  rw [← hl.out] at hown
  have Hown := Lib.hid hown
  have Hcells := Lib.hid hcells
  have c8 : w.cell? ⟨g, 8, none⟩ = some (.slice A0 n0 c0) := cell_blk hcells 8 rfl
  have c9 : w.cell? ⟨g, 9, none⟩ = some (.int .i64 l0.length) := cell_blk hcells 9 rfl
  have hrv0 : w.rangeAt g 0 [.int .u32 (V0.a : Nat), .int .u32 (V0.b : Nat), .int .u32 (V0.c : Nat), .int .u32 (V0.d : Nat), .int .u32 (V0.e : Nat), .int .u32 (V0.f : Nat), .int .u32 (V0.g : Nat), .int .u32 (V0.h : Nat)] := range_part [.int .u32 (V0.a : Nat), .int .u32 (V0.b : Nat), .int .u32 (V0.c : Nat), .int .u32 (V0.d : Nat), .int .u32 (V0.e : Nat), .int .u32 (V0.f : Nat), .int .u32 (V0.g : Nat), .int .u32 (V0.h : Nat)] (o := 0) hcells (by intro j v hj; (rcases j with _ | _ | _ | _ | _ | _ | _ | _ | j <;> first | exact hj | (simp at hj)))
  have Ht1 : Hid ((w.alloc (.cells #[.int .u32 0, .int .u32 0, .int .u32 0, .int .u32 0, .int .u32 0, .int .u32 0, .int .u32 0, .int .u32 0] 62)).there w.heap.size 0 (#[.int .u32 (V0.a : Nat), .int .u32 (V0.b : Nat), .int .u32 (V0.c : Nat), .int .u32 (V0.d : Nat), .int .u32 (V0.e : Nat), .int .u32 (V0.f : Nat), .int .u32 (V0.g : Nat), .int .u32 (V0.h : Nat)] : Array Value).size) := there_blk (heap_alloc_new w _) rfl
  have Hi8 : Hid ((Tryd.prog.info? 62).map (·.size) = some (#[.int .u32 (V0.a : Nat), .int .u32 (V0.b : Nat), .int .u32 (V0.c : Nat), .int .u32 (V0.d : Nat), .int .u32 (V0.e : Nat), .int .u32 (V0.f : Nat), .int .u32 (V0.g : Nat), .int .u32 (V0.h : Nat)] : Array Value).size) := Lib.hid (by kernel_rfl)
  have Ho1 : Hid ((#[.int .u32 (V0.a : Nat), .int .u32 (V0.b : Nat), .int .u32 (V0.c : Nat), .int .u32 (V0.d : Nat), .int .u32 (V0.e : Nat), .int .u32 (V0.f : Nat), .int .u32 (V0.g : Nat), .int .u32 (V0.h : Nat)] : Array Value).all (·.oneCell') = true) := by unfold Hid; kernel_rfl
  obtain ⟨gv, hgv'⟩ : ∃ gv, Hid (gv = w.heap.size) := ⟨_, Lib.hid rfl⟩
  clear hcells hown
  go_wp2_with (first
    | (refine wpList_load_mid rfl 62 (.tmp 10) rfl g 0 rfl [.int .u32 (V0.a : Nat), .int .u32 (V0.b : Nat), .int .u32 (V0.c : Nat), .int .u32 (V0.d : Nat), .int .u32 (V0.e : Nat), .int .u32 (V0.f : Nat), .int .u32 (V0.g : Nat), .int .u32 (V0.h : Nat)] _ hrv0 Tryd.underlying62 rfl (by kernel_rfl) ?_)
    | (
       refine wpList_store_mid rfl 62 (.tmp 3) (.tmp 11) rfl w.heap.size 0 _ rfl rfl ?_ ?_ ?_ ?_
       · exact Ht1.out
       · exact Hi8.out
       · exact Ho1.out
       generalize hwf : World.setCells _ w.heap.size 0 _ = wf
       have Hwf := Lib.hid hwf
       clear hwf))
  have hgv : Hid (wf.heap[gv]? = some (.cells #[.int .u32 (V0.a : Nat), .int .u32 (V0.b : Nat), .int .u32 (V0.c : Nat), .int .u32 (V0.d : Nat), .int .u32 (V0.e : Nat), .int .u32 (V0.f : Nat), .int .u32 (V0.g : Nat), .int .u32 (V0.h : Nat)] 62 (0, 0))) := by rw [← Hwf.out, hgv'.out]; exact set8 (heap_alloc_new w _) _ _ _ _ _ _ _ _
  have hgvb : w.heap.size ≤ gv := by rw [hgv'.out]; exact Nat.le_refl _
  have hgvl : gv < wf.heap.size := lt_of_blk hgv.out
  have hbf : Hid (Below w.heap.size w wf) := by rw [← Hwf.out]; exact below_setCells ((Below.refl _ _).alloc (Nat.le_refl _) _) 0 _ (Nat.le_refl _) (Nat.le_refl _)
  rw [← hgv'.out]
  have Hr : Hid (Rd wf.drew wf.drew.heap.size 1 A0 n0 (l.map B8)) := (Hown.out.rd.to hbf.out).to (below_drew (Below.refl _ _))
  have d8 : wf.drew.cell? ⟨g, 8, none⟩ = some (.slice A0 n0 c0) := (World.cell?_of_block (a := ⟨g, 8, none⟩) (hbf.out.block g (lt_of_blk Hcells.out))).trans c8
  have d9 : wf.drew.cell? ⟨g, 9, none⟩ = some (.int .i64 l0.length) := (World.cell?_of_block (a := ⟨g, 9, none⟩) (hbf.out.block g (lt_of_blk Hcells.out))).trans c9
  clear c8 c9 hrv0
  refine wp_region_still_tail 8 (by kernel_rfl) (by kernel_rfl) ?_
  simp only [List.take_succ_cons, List.take_zero, List.drop_succ_cons, List.drop_zero]
  change wpStill _ _ wf.drew (fun a' => wpList _ _ _ _ a' wf.drew) _ _
  obtain ⟨W4, hW4⟩ : ∃ W, W = wf.drew := ⟨_, rfl⟩
  have hgv4 : Hid (W4.heap[gv]? = some (.cells #[.int .u32 (V0.a : Nat), .int .u32 (V0.b : Nat), .int .u32 (V0.c : Nat), .int .u32 (V0.d : Nat), .int .u32 (V0.e : Nat), .int .u32 (V0.f : Nat), .int .u32 (V0.g : Nat), .int .u32 (V0.h : Nat)] 62 (0, 0))) := by rw [hW4]; exact hgv.out
  have hgvl4 : gv < W4.heap.size := by rw [hW4]; exact hgvl
  have hbf4 : Hid (Below w.heap.size w W4) := by rw [hW4]; exact below_drew hbf.out
  rw [← hW4] at Hr d8 d9
  rw [← hW4]
  have HW4 := Lib.hid hW4
  clear hW4 hgv hgvl hbf
  repeat still_step
  refine wpStill_nil ?_
  go_wp2_with fail
  obtain ⟨all, hall⟩ : ∃ m, Hid (m = l0.length) := ⟨_, Lib.hid rfl⟩
  have hallb : all ≤ 1000000 := by rw [hall.out]; exact hn
  rw [← hall.out]
  refine (padded_64 A0 n0 c0 all l W4 Hr.out hn0 (by omega)).mono ?_
  rintro e w3 ⟨A3, k3, c3, rfl, hk3, ho3, hb3⟩
  have hgv := hgv4
  have hgvl := hgvl4
  have hbf := hbf4
  clear d8 d9 hgv4 hgvl4 hbf4

  obtain ⟨nb, hnb, hnb0⟩ := padd_length 64 (by decide) (by decide) l all
  obtain ⟨q, hq⟩ : ∃ q, Hid (q = padd 64 l all) := ⟨_, Lib.hid rfl⟩
  have hkq : Hid (k3 + 0 * 64 = nb * 64) := by unfold Hid; rw [hk3.out, hnb]; omega
  have hrq : Hid (OwnS w3 (gv + 1) A3 k3 c3 ((q.drop (0 * 64)).map B8)) := by unfold Hid; rw [Nat.zero_mul, List.drop_zero, hq.out]; exact (OwnS.of_own ho3).mono hgvl
  have hcap : k3 ≤ c3 := own_cap' ho3
  have hg3 : Hid (w3.heap[gv]? = some (.cells #[.int .u32 (V0.a : Nat), .int .u32 (V0.b : Nat), .int .u32 (V0.c : Nat), .int .u32 (V0.d : Nat), .int .u32 (V0.e : Nat), .int .u32 (V0.f : Nat), .int .u32 (V0.g : Nat), .int .u32 (V0.h : Nat)] 62 (0, 0))) := (hb3.block gv hgvl).trans hgv.out
  have hbw3 : Hid (Below w.heap.size w w3) := hbf.out.trans (hb3.mono hbf.out.size)
  have hV0o : Hid (V0.ok 32) := by unfold Hid; rw [hV0.out]; exact comp_ok _ F32_ok
  have hV0c : Hid (V0 = comp K32 0 V0 q) := rfl
  have hnb2 : Hid (nb = (padd 64 l all).length / 64) := by unfold Hid; rw [hnb]; exact (Nat.mul_div_cancel _ (by decide)).symm
  clear ho3 hb3 hgv hnb
  go_wp2_with fail
  go_loopw [4] (fun x4 wr => ∃ (i n : Nat) (A : Option Addr) (c : Nat) (V : S8), x4 = .slice A n c ∧ Hid (n + i * 64 = nb * 64) ∧ n ≤ c ∧ Hid (V = comp K32 i V0 q) ∧ Hid (V.ok 32) ∧ Hid (wr.heap[gv]? = some (.cells #[.int .u32 (V.a : Nat), .int .u32 (V.b : Nat), .int .u32 (V.c : Nat), .int .u32 (V.d : Nat), .int .u32 (V.e : Nat), .int .u32 (V.f : Nat), .int .u32 (V.g : Nat), .int .u32 (V.h : Nat)] 62 (0, 0))) ∧ Hid (OwnS wr (gv + 1) A n c ((q.drop (i * 64)).map B8)) ∧ Hid (Below w.heap.size w wr)) (fun x4 _ => slN x4)
  case atStart => exact ⟨0, k3, A3, c3, V0, rfl, hkq, hcap, hV0c, hV0o, hg3, hrq, hbw3⟩
  case round =>
    obtain ⟨i, n, A, c, V, rfl, hni, hnc, hV, hVo, hgr, hrr, hbr⟩ := hrel
    obtain ⟨wq, hwq⟩ : ∃ wq, wq = wr := ⟨wr, rfl⟩
    subst hwq
    by_cases hn0 : 0 < n
    · obtain ⟨hnS, hni2⟩ := rounds_lt hni.out hn0
      have hni3 := Lib.hid hni2
      have hn0' : (0 : Int) < n := by omega
      have hc1 : (64 : Int) ≤ c := by omega
      have hc2 : (64 : Int) ≤ n := by omega
      have hc3 : 64 ≤ c := by omega
      clear hni2
      have hLr : Hid (LayS wq.drew) := (HL.out.to H4.out hbr.out).drew
      have hld : Hid ((Instr.loadAt 62 (.pointer (some ⟨gv, 0, none⟩))).run Tryd.prog wq.drew = .ok (.agg #[.int .u32 (V.a : Nat), .int .u32 (V.b : Nat), .int .u32 (V.c : Nat), .int .u32 (V.d : Nat), .int .u32 (V.e : Nat), .int .u32 (V.f : Nat), .int .u32 (V.g : Nat), .int .u32 (V.h : Nat)]) wq.drew) := Lib.hid (load_blk (w := wq.drew) hgr.out Tryd.underlying62 rfl (by kernel_rfl))
      have hlk : Hid ((Instr.loadAt 58 (.pointer (some ⟨1, 0, none⟩))).run Tryd.prog wq.drew = .ok (.agg #[.int .i64 32, .int .i64 64, .int .i64 2, .int .i64 13, .int .i64 22, .int .i64 6, .int .i64 11, .int .i64 25, .int .i64 7, .int .i64 18, .int .i64 3, .int .i64 17, .int .i64 19, .int .i64 10]) wq.drew) := Lib.hid (run_loadAt_mid (P := Tryd.prog) wq.drew 1 0 58 [.int .i64 32, .int .i64 64, .int .i64 2, .int .i64 13, .int .i64 22, .int .i64 6, .int .i64 11, .int .i64 25, .int .i64 7, .int .i64 18, .int .i64 3, .int .i64 17, .int .i64 19, .int .i64 10] _ hLr.out.kind Tryd.underlying58 rfl (by kernel_rfl))
      have hrS : Hid (Rd wq.drew wq.drew.heap.size 1 A 64 (((q.drop (i * 64)).take 64).map B8)) := by
        have h1 := hrr.out.rd.to (below_drew (Below.refl _ _))
        rw [List.map_take]
        exact h1.take hnS
      have hrT : Hid (OwnS wq (gv + 1) (if c = 64 then A else A.map (·.add (64 * 1))) (n - 64) (c - 64) ((q.drop ((i + 1) * 64)).map B8)) := by
        have h1 := hrr.out.cut (k := 64) hnS
        rw [← List.map_drop, List.drop_drop, show i * 64 + 64 = (i + 1) * 64 by rw [Nat.succ_mul]] at h1
        exact h1
      have hnx : Hid (blk K32 V ((q.drop (i * 64)).take 64) = comp K32 (i + 1) V0 q) := by
        unfold Hid
        rw [hV.out]
        exact (comp_snoc K32 i V0 q).symm
      have hgl : Hid (gv < wq.heap.size) := lt_of_blk hgr.out
      go_wp2_with fail
      refine wp_region_still_tail 4 (by kernel_rfl) (by kernel_rfl) ?_
      simp only [List.take_succ_cons, List.take_zero, List.drop_succ_cons, List.drop_zero]
      repeat (first
        | (refine still_load (.tmp 3) rfl rfl rfl hld.out ?_
           simp only [Act.put, List.setIfInBounds_toArray, List.set_cons_zero, List.set_cons_succ])
        | (refine still_load (.global 1) rfl rfl rfl hlk.out ?_
           simp only [Act.put, List.setIfInBounds_toArray, List.set_cons_zero, List.set_cons_succ])
        | still_step)
      refine wpStill_nil ?_
      change wpList _ _ _ _ _ wq.drew
      obtain ⟨W5, hW5⟩ : ∃ W, W = wq.drew := ⟨_, rfl⟩
      rw [← hW5] at hrS hLr
      rw [← hW5]
      have HW5 := Lib.hid hW5
      clear hW5
      go_wp2_with fail
      refine (pblock_32 A _ V ((q.drop (i * 64)).take 64) W5 hVo.out hrS.out hLr.out.key).mono ?_
      rintro e w5 ⟨rfl, hb5⟩
      obtain ⟨V2, hV2⟩ : ∃ V2, Hid (blk K32 V ((q.drop (i * 64)).take 64) = V2) := ⟨_, Lib.hid rfl⟩
      rw [hV2.out] at hnx ⊢
      have hVo2 : Hid (V2.ok 32) := by unfold Hid; rw [← hV2.out]; exact blk_ok K32 V _
      have hg5 : Hid (w5.heap[gv]? = some (.cells #[.int .u32 (V.a : Nat), .int .u32 (V.b : Nat), .int .u32 (V.c : Nat), .int .u32 (V.d : Nat), .int .u32 (V.e : Nat), .int .u32 (V.f : Nat), .int .u32 (V.g : Nat), .int .u32 (V.h : Nat)] 62 (0, 0))) := (hb5.block gv (by rw [HW5.out]; exact hgl.out)).trans (by rw [HW5.out]; exact hgr.out)
      have hb5' : Hid (Below wq.heap.size wq w5) := (by rw [HW5.out] at hb5; exact (below_drew (Below.refl _ _)).trans hb5)
      have Ht5 : Hid (w5.there gv 0 (#[.int .u32 (V2.a : Nat), .int .u32 (V2.b : Nat), .int .u32 (V2.c : Nat), .int .u32 (V2.d : Nat), .int .u32 (V2.e : Nat), .int .u32 (V2.f : Nat), .int .u32 (V2.g : Nat), .int .u32 (V2.h : Nat)] : Array Value).size) := there_blk hg5.out rfl
      have Ho5 : Hid ((#[.int .u32 (V2.a : Nat), .int .u32 (V2.b : Nat), .int .u32 (V2.c : Nat), .int .u32 (V2.d : Nat), .int .u32 (V2.e : Nat), .int .u32 (V2.f : Nat), .int .u32 (V2.g : Nat), .int .u32 (V2.h : Nat)] : Array Value).all (·.oneCell') = true) := by unfold Hid; kernel_rfl
      unfold w8_32
      go_wp2_with (
        refine wpList_store_mid rfl 62 (.tmp 3) (.tmp 30) rfl gv 0 _ rfl rfl ?_ ?_ ?_ ?_
        · exact Ht5.out
        · exact Hi8.out
        · exact Ho5.out
        generalize hwf : World.setCells w5 gv 0 _ = wf
        have Hwf2 := Lib.hid hwf
        clear hwf)
      have hg6 : Hid (wf.heap[gv]? = some (.cells #[.int .u32 (V2.a : Nat), .int .u32 (V2.b : Nat), .int .u32 (V2.c : Nat), .int .u32 (V2.d : Nat), .int .u32 (V2.e : Nat), .int .u32 (V2.f : Nat), .int .u32 (V2.g : Nat), .int .u32 (V2.h : Nat)] 62 (0, 0))) := by rw [← Hwf2.out]; exact set8 hg5.out _ _ _ _ _ _ _ _
      have hbA : Below w.heap.size w w5 := hbr.out.trans (hb5'.out.mono hbr.out.size)
      have hb6 : Hid (Below w.heap.size w wf) := by rw [← Hwf2.out]; exact below_setCells hbA 0 _ hgvb (Nat.le_refl _)
      have hr6 : Hid (OwnS wf (gv + 1) (if c = 64 then A else A.map (·.add (64 * 1))) (n - 64) (c - 64) ((q.drop ((i + 1) * 64)).map B8)) := by
        rw [← Hwf2.out]
        exact (hrT.out.to hb5'.out).setCells 0 _ (Nat.lt_succ_self _)
      go_roundw
      case rel => exact ⟨i + 1, n - 64, _, c - 64, V2, rfl, hni3, by omega, hnx, hVo2, hg6, hr6, hb6⟩
      case measure => simp only [slN]; omega
    · have hn0' : ¬ (0 : Int) < n := by omega
      have hnz : Hid (n = 0) := (by omega : n = 0)
      have hin : Hid (i = nb) := by
        have h1 := hni.out
        rw [hnz.out, Nat.zero_add] at h1
        exact Nat.eq_of_mul_eq_mul_right (by decide) h1
      have hrv : wq.rangeAt gv 0 [.int .u32 (V.a : Nat), .int .u32 (V.b : Nat), .int .u32 (V.c : Nat), .int .u32 (V.d : Nat), .int .u32 (V.e : Nat), .int .u32 (V.f : Nat), .int .u32 (V.g : Nat), .int .u32 (V.h : Nat)] := range_of hgr.out
      go_wp2_with (refine wpList_load_mid rfl 62 (.tmp 3) rfl gv 0 rfl [.int .u32 (V.a : Nat), .int .u32 (V.b : Nat), .int .u32 (V.c : Nat), .int .u32 (V.d : Nat), .int .u32 (V.e : Nat), .int .u32 (V.f : Nat), .int .u32 (V.g : Nat), .int .u32 (V.h : Nat)] _ hrv Tryd.underlying62 rfl (by kernel_rfl) ?_)
      refine (told_32 V wq hVo.out).mono ?_
      rintro e w7 ⟨A7, c7, rfl, ho7, hb7⟩
      have Ho7 := Lib.hid ho7
      clear ho7 hrv
      go_wp2_with fail
      go_ret
      have hsum : told 32 V = sumOf K32 F32 l0 := by
        rw [hV.out, hin.out, hq.out]
        rw [sum_left K32 (by decide) (by decide) F32 l0, hV0.out, hnb2.out, hl.out, hall.out]
        rfl
      have ho8 := Ho7.out
      rw [hsum] at ho8
      exact ⟨A7, c7, rfl, own_mono ho8 hbr.out.size, hbr.out.trans (hb7.mono hbr.out.size)⟩
set_option maxRecDepth 20000 in
set_option maxHeartbeats 4000000 in
theorem hsum_nil' (l0 : List UInt8) (hl0 : Hid (l0 = [])) (w0 : World) (hL : LayS w0) (h4 : 4 ≤ w0.heap.size) : Calls Tryd.prog 23 #[.pointer none] w0 fun e w' => ∃ A' c', e = .returned (.slice A' 32 c') ∧ w'.ownsRow w0.heap.size 5 1 (.slice A' 32 c') 32 ((sumOf K32 F32 l0).map B8) ∧ Below w0.heap.size w0 w' := by
  have HL0 := Lib.hid hL
  have H40 := Lib.hid h4
  clear hL h4
  go_enter Tryd.func23, Tryd.ntmps23
  go_wp2_with fail
  refine (new_ w0).mono ?_
  rintro e w ⟨g, hgb, rfl, hh, hb0⟩
  have Hh := Lib.hid hh
  have HL : Hid (LayS w) := HL0.out.to H40.out hb0
  have H4 : Hid (4 ≤ w.heap.size) := Nat.le_trans H40.out hb0.size
  have Hb0 := Lib.hid hb0
  rw [← hl0.out] at Hh
  have hn : l0.length ≤ 1000000 := by rw [hl0.out]; decide
  clear hh hb0
  obtain ⟨V0, A0, n0, c0, hV0, hcells, hown, hA0⟩ := Hh.out.ex
  obtain ⟨l, hl⟩ : ∃ l, Hid (l = left K32 l0) := ⟨_, Lib.hid rfl⟩
  have hn0 : n0 ≤ 1000000 := by
    have h1 := hown.len
    rw [List.length_map, left_length] at h1
    rw [← h1]
    exact Nat.le_trans (Nat.mod_le _ _) hn
  rw [← hl.out] at hown
  have Hown := Lib.hid hown
  have Hcells := Lib.hid hcells
  have c8 : w.cell? ⟨g, 8, none⟩ = some (.slice A0 n0 c0) := cell_blk hcells 8 rfl
  have c9 : w.cell? ⟨g, 9, none⟩ = some (.int .i64 l0.length) := cell_blk hcells 9 rfl
  have hrv0 : w.rangeAt g 0 [.int .u32 (V0.a : Nat), .int .u32 (V0.b : Nat), .int .u32 (V0.c : Nat), .int .u32 (V0.d : Nat), .int .u32 (V0.e : Nat), .int .u32 (V0.f : Nat), .int .u32 (V0.g : Nat), .int .u32 (V0.h : Nat)] := range_part [.int .u32 (V0.a : Nat), .int .u32 (V0.b : Nat), .int .u32 (V0.c : Nat), .int .u32 (V0.d : Nat), .int .u32 (V0.e : Nat), .int .u32 (V0.f : Nat), .int .u32 (V0.g : Nat), .int .u32 (V0.h : Nat)] (o := 0) hcells (by intro j v hj; (rcases j with _ | _ | _ | _ | _ | _ | _ | _ | j <;> first | exact hj | (simp at hj)))
  have Ht1 : Hid ((w.alloc (.cells #[.int .u32 0, .int .u32 0, .int .u32 0, .int .u32 0, .int .u32 0, .int .u32 0, .int .u32 0, .int .u32 0] 62)).there w.heap.size 0 (#[.int .u32 (V0.a : Nat), .int .u32 (V0.b : Nat), .int .u32 (V0.c : Nat), .int .u32 (V0.d : Nat), .int .u32 (V0.e : Nat), .int .u32 (V0.f : Nat), .int .u32 (V0.g : Nat), .int .u32 (V0.h : Nat)] : Array Value).size) := there_blk (heap_alloc_new w _) rfl
  have Hi8 : Hid ((Tryd.prog.info? 62).map (·.size) = some (#[.int .u32 (V0.a : Nat), .int .u32 (V0.b : Nat), .int .u32 (V0.c : Nat), .int .u32 (V0.d : Nat), .int .u32 (V0.e : Nat), .int .u32 (V0.f : Nat), .int .u32 (V0.g : Nat), .int .u32 (V0.h : Nat)] : Array Value).size) := Lib.hid (by kernel_rfl)
  have Ho1 : Hid ((#[.int .u32 (V0.a : Nat), .int .u32 (V0.b : Nat), .int .u32 (V0.c : Nat), .int .u32 (V0.d : Nat), .int .u32 (V0.e : Nat), .int .u32 (V0.f : Nat), .int .u32 (V0.g : Nat), .int .u32 (V0.h : Nat)] : Array Value).all (·.oneCell') = true) := by unfold Hid; kernel_rfl
  obtain ⟨gv, hgv'⟩ : ∃ gv, Hid (gv = w.heap.size) := ⟨_, Lib.hid rfl⟩
  clear hcells hown
  go_wp2_with (first
    | (refine wpList_load_mid rfl 62 (.tmp 10) rfl g 0 rfl [.int .u32 (V0.a : Nat), .int .u32 (V0.b : Nat), .int .u32 (V0.c : Nat), .int .u32 (V0.d : Nat), .int .u32 (V0.e : Nat), .int .u32 (V0.f : Nat), .int .u32 (V0.g : Nat), .int .u32 (V0.h : Nat)] _ hrv0 Tryd.underlying62 rfl (by kernel_rfl) ?_)
    | (
       refine wpList_store_mid rfl 62 (.tmp 3) (.tmp 11) rfl w.heap.size 0 _ rfl rfl ?_ ?_ ?_ ?_
       · exact Ht1.out
       · exact Hi8.out
       · exact Ho1.out
       generalize hwf : World.setCells _ w.heap.size 0 _ = wf
       have Hwf := Lib.hid hwf
       clear hwf))
  have hgv : Hid (wf.heap[gv]? = some (.cells #[.int .u32 (V0.a : Nat), .int .u32 (V0.b : Nat), .int .u32 (V0.c : Nat), .int .u32 (V0.d : Nat), .int .u32 (V0.e : Nat), .int .u32 (V0.f : Nat), .int .u32 (V0.g : Nat), .int .u32 (V0.h : Nat)] 62 (0, 0))) := by rw [← Hwf.out, hgv'.out]; exact set8 (heap_alloc_new w _) _ _ _ _ _ _ _ _
  have hgvb : w.heap.size ≤ gv := by rw [hgv'.out]; exact Nat.le_refl _
  have hgvl : gv < wf.heap.size := lt_of_blk hgv.out
  have hbf : Hid (Below w.heap.size w wf) := by rw [← Hwf.out]; exact below_setCells ((Below.refl _ _).alloc (Nat.le_refl _) _) 0 _ (Nat.le_refl _) (Nat.le_refl _)
  rw [← hgv'.out]
  have Hr : Hid (Rd wf.drew wf.drew.heap.size 1 A0 n0 (l.map B8)) := (Hown.out.rd.to hbf.out).to (below_drew (Below.refl _ _))
  have d8 : wf.drew.cell? ⟨g, 8, none⟩ = some (.slice A0 n0 c0) := (World.cell?_of_block (a := ⟨g, 8, none⟩) (hbf.out.block g (lt_of_blk Hcells.out))).trans c8
  have d9 : wf.drew.cell? ⟨g, 9, none⟩ = some (.int .i64 l0.length) := (World.cell?_of_block (a := ⟨g, 9, none⟩) (hbf.out.block g (lt_of_blk Hcells.out))).trans c9
  clear c8 c9 hrv0
  refine wp_region_still_tail 8 (by kernel_rfl) (by kernel_rfl) ?_
  simp only [List.take_succ_cons, List.take_zero, List.drop_succ_cons, List.drop_zero]
  change wpStill _ _ wf.drew (fun a' => wpList _ _ _ _ a' wf.drew) _ _
  obtain ⟨W4, hW4⟩ : ∃ W, W = wf.drew := ⟨_, rfl⟩
  have hgv4 : Hid (W4.heap[gv]? = some (.cells #[.int .u32 (V0.a : Nat), .int .u32 (V0.b : Nat), .int .u32 (V0.c : Nat), .int .u32 (V0.d : Nat), .int .u32 (V0.e : Nat), .int .u32 (V0.f : Nat), .int .u32 (V0.g : Nat), .int .u32 (V0.h : Nat)] 62 (0, 0))) := by rw [hW4]; exact hgv.out
  have hgvl4 : gv < W4.heap.size := by rw [hW4]; exact hgvl
  have hbf4 : Hid (Below w.heap.size w W4) := by rw [hW4]; exact below_drew hbf.out
  rw [← hW4] at Hr d8 d9
  rw [← hW4]
  have HW4 := Lib.hid hW4
  clear hW4 hgv hgvl hbf
  repeat still_step
  refine wpStill_nil ?_
  go_wp2_with fail
  obtain ⟨all, hall⟩ : ∃ m, Hid (m = l0.length) := ⟨_, Lib.hid rfl⟩
  have hallb : all ≤ 1000000 := by rw [hall.out]; exact hn
  rw [← hall.out]
  refine (padded_64 A0 n0 c0 all l W4 Hr.out hn0 (by omega)).mono ?_
  rintro e w3 ⟨A3, k3, c3, rfl, hk3, ho3, hb3⟩
  have hgv := hgv4
  have hgvl := hgvl4
  have hbf := hbf4
  clear d8 d9 hgv4 hgvl4 hbf4

  obtain ⟨nb, hnb, hnb0⟩ := padd_length 64 (by decide) (by decide) l all
  obtain ⟨q, hq⟩ : ∃ q, Hid (q = padd 64 l all) := ⟨_, Lib.hid rfl⟩
  have hkq : Hid (k3 + 0 * 64 = nb * 64) := by unfold Hid; rw [hk3.out, hnb]; omega
  have hrq : Hid (OwnS w3 (gv + 1) A3 k3 c3 ((q.drop (0 * 64)).map B8)) := by unfold Hid; rw [Nat.zero_mul, List.drop_zero, hq.out]; exact (OwnS.of_own ho3).mono hgvl
  have hcap : k3 ≤ c3 := own_cap' ho3
  have hg3 : Hid (w3.heap[gv]? = some (.cells #[.int .u32 (V0.a : Nat), .int .u32 (V0.b : Nat), .int .u32 (V0.c : Nat), .int .u32 (V0.d : Nat), .int .u32 (V0.e : Nat), .int .u32 (V0.f : Nat), .int .u32 (V0.g : Nat), .int .u32 (V0.h : Nat)] 62 (0, 0))) := (hb3.block gv hgvl).trans hgv.out
  have hbw3 : Hid (Below w.heap.size w w3) := hbf.out.trans (hb3.mono hbf.out.size)
  have hV0o : Hid (V0.ok 32) := by unfold Hid; rw [hV0.out]; exact comp_ok _ F32_ok
  have hV0c : Hid (V0 = comp K32 0 V0 q) := rfl
  have hnb2 : Hid (nb = (padd 64 l all).length / 64) := by unfold Hid; rw [hnb]; exact (Nat.mul_div_cancel _ (by decide)).symm
  clear ho3 hb3 hgv hnb
  go_wp2_with fail
  go_loopw [4] (fun x4 wr => ∃ (i n : Nat) (A : Option Addr) (c : Nat) (V : S8), x4 = .slice A n c ∧ Hid (n + i * 64 = nb * 64) ∧ n ≤ c ∧ Hid (V = comp K32 i V0 q) ∧ Hid (V.ok 32) ∧ Hid (wr.heap[gv]? = some (.cells #[.int .u32 (V.a : Nat), .int .u32 (V.b : Nat), .int .u32 (V.c : Nat), .int .u32 (V.d : Nat), .int .u32 (V.e : Nat), .int .u32 (V.f : Nat), .int .u32 (V.g : Nat), .int .u32 (V.h : Nat)] 62 (0, 0))) ∧ Hid (OwnS wr (gv + 1) A n c ((q.drop (i * 64)).map B8)) ∧ Hid (Below w.heap.size w wr)) (fun x4 _ => slN x4)
  case atStart => exact ⟨0, k3, A3, c3, V0, rfl, hkq, hcap, hV0c, hV0o, hg3, hrq, hbw3⟩
  case round =>
    obtain ⟨i, n, A, c, V, rfl, hni, hnc, hV, hVo, hgr, hrr, hbr⟩ := hrel
    obtain ⟨wq, hwq⟩ : ∃ wq, wq = wr := ⟨wr, rfl⟩
    subst hwq
    by_cases hn0 : 0 < n
    · obtain ⟨hnS, hni2⟩ := rounds_lt hni.out hn0
      have hni3 := Lib.hid hni2
      have hn0' : (0 : Int) < n := by omega
      have hc1 : (64 : Int) ≤ c := by omega
      have hc2 : (64 : Int) ≤ n := by omega
      have hc3 : 64 ≤ c := by omega
      clear hni2
      have hLr : Hid (LayS wq.drew) := (HL.out.to H4.out hbr.out).drew
      have hld : Hid ((Instr.loadAt 62 (.pointer (some ⟨gv, 0, none⟩))).run Tryd.prog wq.drew = .ok (.agg #[.int .u32 (V.a : Nat), .int .u32 (V.b : Nat), .int .u32 (V.c : Nat), .int .u32 (V.d : Nat), .int .u32 (V.e : Nat), .int .u32 (V.f : Nat), .int .u32 (V.g : Nat), .int .u32 (V.h : Nat)]) wq.drew) := Lib.hid (load_blk (w := wq.drew) hgr.out Tryd.underlying62 rfl (by kernel_rfl))
      have hlk : Hid ((Instr.loadAt 58 (.pointer (some ⟨1, 0, none⟩))).run Tryd.prog wq.drew = .ok (.agg #[.int .i64 32, .int .i64 64, .int .i64 2, .int .i64 13, .int .i64 22, .int .i64 6, .int .i64 11, .int .i64 25, .int .i64 7, .int .i64 18, .int .i64 3, .int .i64 17, .int .i64 19, .int .i64 10]) wq.drew) := Lib.hid (run_loadAt_mid (P := Tryd.prog) wq.drew 1 0 58 [.int .i64 32, .int .i64 64, .int .i64 2, .int .i64 13, .int .i64 22, .int .i64 6, .int .i64 11, .int .i64 25, .int .i64 7, .int .i64 18, .int .i64 3, .int .i64 17, .int .i64 19, .int .i64 10] _ hLr.out.kind Tryd.underlying58 rfl (by kernel_rfl))
      have hrS : Hid (Rd wq.drew wq.drew.heap.size 1 A 64 (((q.drop (i * 64)).take 64).map B8)) := by
        have h1 := hrr.out.rd.to (below_drew (Below.refl _ _))
        rw [List.map_take]
        exact h1.take hnS
      have hrT : Hid (OwnS wq (gv + 1) (if c = 64 then A else A.map (·.add (64 * 1))) (n - 64) (c - 64) ((q.drop ((i + 1) * 64)).map B8)) := by
        have h1 := hrr.out.cut (k := 64) hnS
        rw [← List.map_drop, List.drop_drop, show i * 64 + 64 = (i + 1) * 64 by rw [Nat.succ_mul]] at h1
        exact h1
      have hnx : Hid (blk K32 V ((q.drop (i * 64)).take 64) = comp K32 (i + 1) V0 q) := by
        unfold Hid
        rw [hV.out]
        exact (comp_snoc K32 i V0 q).symm
      have hgl : Hid (gv < wq.heap.size) := lt_of_blk hgr.out
      go_wp2_with fail
      refine wp_region_still_tail 4 (by kernel_rfl) (by kernel_rfl) ?_
      simp only [List.take_succ_cons, List.take_zero, List.drop_succ_cons, List.drop_zero]
      repeat (first
        | (refine still_load (.tmp 3) rfl rfl rfl hld.out ?_
           simp only [Act.put, List.setIfInBounds_toArray, List.set_cons_zero, List.set_cons_succ])
        | (refine still_load (.global 1) rfl rfl rfl hlk.out ?_
           simp only [Act.put, List.setIfInBounds_toArray, List.set_cons_zero, List.set_cons_succ])
        | still_step)
      refine wpStill_nil ?_
      change wpList _ _ _ _ _ wq.drew
      obtain ⟨W5, hW5⟩ : ∃ W, W = wq.drew := ⟨_, rfl⟩
      rw [← hW5] at hrS hLr
      rw [← hW5]
      have HW5 := Lib.hid hW5
      clear hW5
      go_wp2_with fail
      refine (pblock_32 A _ V ((q.drop (i * 64)).take 64) W5 hVo.out hrS.out hLr.out.key).mono ?_
      rintro e w5 ⟨rfl, hb5⟩
      obtain ⟨V2, hV2⟩ : ∃ V2, Hid (blk K32 V ((q.drop (i * 64)).take 64) = V2) := ⟨_, Lib.hid rfl⟩
      rw [hV2.out] at hnx ⊢
      have hVo2 : Hid (V2.ok 32) := by unfold Hid; rw [← hV2.out]; exact blk_ok K32 V _
      have hg5 : Hid (w5.heap[gv]? = some (.cells #[.int .u32 (V.a : Nat), .int .u32 (V.b : Nat), .int .u32 (V.c : Nat), .int .u32 (V.d : Nat), .int .u32 (V.e : Nat), .int .u32 (V.f : Nat), .int .u32 (V.g : Nat), .int .u32 (V.h : Nat)] 62 (0, 0))) := (hb5.block gv (by rw [HW5.out]; exact hgl.out)).trans (by rw [HW5.out]; exact hgr.out)
      have hb5' : Hid (Below wq.heap.size wq w5) := (by rw [HW5.out] at hb5; exact (below_drew (Below.refl _ _)).trans hb5)
      have Ht5 : Hid (w5.there gv 0 (#[.int .u32 (V2.a : Nat), .int .u32 (V2.b : Nat), .int .u32 (V2.c : Nat), .int .u32 (V2.d : Nat), .int .u32 (V2.e : Nat), .int .u32 (V2.f : Nat), .int .u32 (V2.g : Nat), .int .u32 (V2.h : Nat)] : Array Value).size) := there_blk hg5.out rfl
      have Ho5 : Hid ((#[.int .u32 (V2.a : Nat), .int .u32 (V2.b : Nat), .int .u32 (V2.c : Nat), .int .u32 (V2.d : Nat), .int .u32 (V2.e : Nat), .int .u32 (V2.f : Nat), .int .u32 (V2.g : Nat), .int .u32 (V2.h : Nat)] : Array Value).all (·.oneCell') = true) := by unfold Hid; kernel_rfl
      unfold w8_32
      go_wp2_with (
        refine wpList_store_mid rfl 62 (.tmp 3) (.tmp 30) rfl gv 0 _ rfl rfl ?_ ?_ ?_ ?_
        · exact Ht5.out
        · exact Hi8.out
        · exact Ho5.out
        generalize hwf : World.setCells w5 gv 0 _ = wf
        have Hwf2 := Lib.hid hwf
        clear hwf)
      have hg6 : Hid (wf.heap[gv]? = some (.cells #[.int .u32 (V2.a : Nat), .int .u32 (V2.b : Nat), .int .u32 (V2.c : Nat), .int .u32 (V2.d : Nat), .int .u32 (V2.e : Nat), .int .u32 (V2.f : Nat), .int .u32 (V2.g : Nat), .int .u32 (V2.h : Nat)] 62 (0, 0))) := by rw [← Hwf2.out]; exact set8 hg5.out _ _ _ _ _ _ _ _
      have hbA : Below w.heap.size w w5 := hbr.out.trans (hb5'.out.mono hbr.out.size)
      have hb6 : Hid (Below w.heap.size w wf) := by rw [← Hwf2.out]; exact below_setCells hbA 0 _ hgvb (Nat.le_refl _)
      have hr6 : Hid (OwnS wf (gv + 1) (if c = 64 then A else A.map (·.add (64 * 1))) (n - 64) (c - 64) ((q.drop ((i + 1) * 64)).map B8)) := by
        rw [← Hwf2.out]
        exact (hrT.out.to hb5'.out).setCells 0 _ (Nat.lt_succ_self _)
      go_roundw
      case rel => exact ⟨i + 1, n - 64, _, c - 64, V2, rfl, hni3, by omega, hnx, hVo2, hg6, hr6, hb6⟩
      case measure => simp only [slN]; omega
    · have hn0' : ¬ (0 : Int) < n := by omega
      have hnz : Hid (n = 0) := (by omega : n = 0)
      have hin : Hid (i = nb) := by
        have h1 := hni.out
        rw [hnz.out, Nat.zero_add] at h1
        exact Nat.eq_of_mul_eq_mul_right (by decide) h1
      have hrv : wq.rangeAt gv 0 [.int .u32 (V.a : Nat), .int .u32 (V.b : Nat), .int .u32 (V.c : Nat), .int .u32 (V.d : Nat), .int .u32 (V.e : Nat), .int .u32 (V.f : Nat), .int .u32 (V.g : Nat), .int .u32 (V.h : Nat)] := range_of hgr.out
      go_wp2_with (refine wpList_load_mid rfl 62 (.tmp 3) rfl gv 0 rfl [.int .u32 (V.a : Nat), .int .u32 (V.b : Nat), .int .u32 (V.c : Nat), .int .u32 (V.d : Nat), .int .u32 (V.e : Nat), .int .u32 (V.f : Nat), .int .u32 (V.g : Nat), .int .u32 (V.h : Nat)] _ hrv Tryd.underlying62 rfl (by kernel_rfl) ?_)
      refine (told_32 V wq hVo.out).mono ?_
      rintro e w7 ⟨A7, c7, rfl, ho7, hb7⟩
      have Ho7 := Lib.hid ho7
      clear ho7 hrv
      go_wp2_with fail
      go_ret
      have hsum : told 32 V = sumOf K32 F32 l0 := by
        rw [hV.out, hin.out, hq.out]
        rw [sum_left K32 (by decide) (by decide) F32 l0, hV0.out, hnb2.out, hl.out, hall.out]
        rfl
      have ho8 := Ho7.out
      rw [hsum] at ho8
      exact ⟨A7, c7, rfl, own_mono ho8 (Nat.le_trans Hb0.out.size hbr.out.size), Hb0.out.trans ((hbr.out.trans (hb7.mono hbr.out.size)).mono Hb0.out.size)⟩
end Go.Proofs.YtclecmpmohoamaaDoor
