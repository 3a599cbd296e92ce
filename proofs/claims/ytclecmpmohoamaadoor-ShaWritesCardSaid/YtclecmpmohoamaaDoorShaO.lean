/- The program's Sum512. (Printed by gen_shao.py.) -/
import Derived.Test.YtclecmpmohoamaaDoorShaT
import Derived.Test.YtclecmpmohoamaaDoorShaM
namespace Go.Proofs.YtclecmpmohoamaaDoor
open Go.RowKit
set_option linter.unusedVariables false
set_option linter.unusedSimpArgs false

set_option maxRecDepth 20000 in
set_option maxHeartbeats 4000000 in
theorem sum512_ (A : Option Addr) (n c : Nat) (l : List UInt8) (w : World) (hr : Rd w w.heap.size 1 A n (l.map B8)) (hn : n ≤ 1000000) (hL : LayG w) (h4 : 4 ≤ w.heap.size) : Calls Tryd.prog 19 #[.slice A n c] w fun e w' => ∃ A' c', e = .returned (.slice A' 64 c') ∧ w'.ownsRow w.heap.size 5 1 (.slice A' 64 c') 64 ((sumOf K64 F64 l).map B8) ∧ Below w.heap.size w w' := by
  obtain rfl : l.length = n := by simpa using hr.len
  have Hr := Lib.hid hr
  have HL := Lib.hid hL
  have H4 := Lib.hid h4
  clear hr hL h4
  go_enter Tryd.func19, Tryd.ntmps19
  go_wp2_with fail
  refine (first'_64 _).mono ?_
  rintro e w1 ⟨V0, hV0, rfl, hb1⟩
  unfold w8_64
  have Ht1 : Hid ((w1.alloc (.cells #[.int .u64 0, .int .u64 0, .int .u64 0, .int .u64 0, .int .u64 0, .int .u64 0, .int .u64 0, .int .u64 0] 53)).there w1.heap.size 0 (#[.int .u64 (V0.a : Nat), .int .u64 (V0.b : Nat), .int .u64 (V0.c : Nat), .int .u64 (V0.d : Nat), .int .u64 (V0.e : Nat), .int .u64 (V0.f : Nat), .int .u64 (V0.g : Nat), .int .u64 (V0.h : Nat)] : Array Value).size) := there_blk (heap_alloc_new w1 _) rfl
  have Hi8 : Hid ((Tryd.prog.info? 53).map (·.size) = some (#[.int .u64 (V0.a : Nat), .int .u64 (V0.b : Nat), .int .u64 (V0.c : Nat), .int .u64 (V0.d : Nat), .int .u64 (V0.e : Nat), .int .u64 (V0.f : Nat), .int .u64 (V0.g : Nat), .int .u64 (V0.h : Nat)] : Array Value).size) := Lib.hid (by kernel_rfl)
  have Ho1 : Hid ((#[.int .u64 (V0.a : Nat), .int .u64 (V0.b : Nat), .int .u64 (V0.c : Nat), .int .u64 (V0.d : Nat), .int .u64 (V0.e : Nat), .int .u64 (V0.f : Nat), .int .u64 (V0.g : Nat), .int .u64 (V0.h : Nat)] : Array Value).all (·.oneCell') = true) := by unfold Hid; kernel_rfl
  obtain ⟨gv, hgv'⟩ : ∃ gv, Hid (gv = w1.heap.size) := ⟨_, Lib.hid rfl⟩
  go_wp2_with (
    refine wpList_store_mid rfl 53 (.tmp 3) (.tmp 5) rfl w1.heap.size 0 _ rfl rfl ?_ ?_ ?_ ?_
    · exact Ht1.out
    · exact Hi8.out
    · exact Ho1.out
    generalize hwf : World.setCells _ w1.heap.size 0 _ = wf
    have Hwf := Lib.hid hwf
    clear hwf)
  have hgv : Hid (wf.heap[gv]? = some (.cells #[.int .u64 (V0.a : Nat), .int .u64 (V0.b : Nat), .int .u64 (V0.c : Nat), .int .u64 (V0.d : Nat), .int .u64 (V0.e : Nat), .int .u64 (V0.f : Nat), .int .u64 (V0.g : Nat), .int .u64 (V0.h : Nat)] 53 (0, 0))) := by rw [← Hwf.out, hgv'.out]; exact set8 (heap_alloc_new w1 _) _ _ _ _ _ _ _ _
  have hgvb : w.heap.size ≤ gv := by rw [hgv'.out]; exact hb1.size
  have hgvl : gv < wf.heap.size := lt_of_blk hgv.out
  have hbf : Hid (Below w.heap.size w wf) := by rw [← Hwf.out]; exact below_setCells (hb1.trans ((Below.refl _ _).alloc hb1.size _)) 0 _ hb1.size (Nat.le_refl _)
  rw [← hgv'.out]
  refine (padded_128 A l.length c l.length l wf (Hr.out.to hbf.out) hn (by omega)).mono ?_
  rintro e w3 ⟨A3, k3, c3, rfl, hk3, ho3, hb3⟩
  obtain ⟨nb, hnb, hnb0⟩ := padd_length 128 (by decide) (by decide) l l.length
  obtain ⟨q, hq⟩ : ∃ q, Hid (q = padd 128 l l.length) := ⟨_, Lib.hid rfl⟩
  have hkq : Hid (k3 + 0 * 128 = nb * 128) := by unfold Hid; rw [hk3.out, hnb]; omega
  have hrq : Hid (OwnS w3 (gv + 1) A3 k3 c3 ((q.drop (0 * 128)).map B8)) := by unfold Hid; rw [Nat.zero_mul, List.drop_zero, hq.out]; exact (OwnS.of_own ho3).mono hgvl
  have hcap : k3 ≤ c3 := own_cap' ho3
  have hg3 : Hid (w3.heap[gv]? = some (.cells #[.int .u64 (V0.a : Nat), .int .u64 (V0.b : Nat), .int .u64 (V0.c : Nat), .int .u64 (V0.d : Nat), .int .u64 (V0.e : Nat), .int .u64 (V0.f : Nat), .int .u64 (V0.g : Nat), .int .u64 (V0.h : Nat)] 53 (0, 0))) := (hb3.block gv hgvl).trans hgv.out
  have hbw3 : Hid (Below w.heap.size w w3) := hbf.out.trans (hb3.mono hbf.out.size)
  have hV0o : Hid (V0.ok 64) := by unfold Hid; rw [hV0.out]; exact F64_ok
  have hV0c : Hid (V0 = comp K64 0 V0 q) := rfl
  have hnb2 : Hid (nb = (padd 128 l l.length).length / 128) := by unfold Hid; rw [hnb]; exact (Nat.mul_div_cancel _ (by decide)).symm
  clear ho3 hb3 hgv hnb
  go_wp2_with fail
  go_loopw [4] (fun x4 wr => ∃ (i n : Nat) (A : Option Addr) (c : Nat) (V : S8), x4 = .slice A n c ∧ Hid (n + i * 128 = nb * 128) ∧ n ≤ c ∧ Hid (V = comp K64 i V0 q) ∧ Hid (V.ok 64) ∧ Hid (wr.heap[gv]? = some (.cells #[.int .u64 (V.a : Nat), .int .u64 (V.b : Nat), .int .u64 (V.c : Nat), .int .u64 (V.d : Nat), .int .u64 (V.e : Nat), .int .u64 (V.f : Nat), .int .u64 (V.g : Nat), .int .u64 (V.h : Nat)] 53 (0, 0))) ∧ Hid (OwnS wr (gv + 1) A n c ((q.drop (i * 128)).map B8)) ∧ Hid (Below w.heap.size w wr)) (fun x4 _ => slN x4)
  case atStart => exact ⟨0, k3, A3, c3, V0, rfl, hkq, hcap, hV0c, hV0o, hg3, hrq, hbw3⟩
  case round =>
    obtain ⟨i, n, A, c, V, rfl, hni, hnc, hV, hVo, hgr, hrr, hbr⟩ := hrel
    obtain ⟨wq, hwq⟩ : ∃ wq, wq = wr := ⟨wr, rfl⟩
    subst hwq
    by_cases hn0 : 0 < n
    · obtain ⟨hnS, hni2⟩ := rounds_lt hni.out hn0
      have hni3 := Lib.hid hni2
      have hn0' : (0 : Int) < n := by omega
      have hc1 : (128 : Int) ≤ c := by omega
      have hc2 : (128 : Int) ≤ n := by omega
      have hc3 : 128 ≤ c := by omega
      clear hni2
      have hLr : Hid (LayG wq.drew) := (HL.out.to H4.out hbr.out).drew
      have hld : Hid ((Instr.loadAt 53 (.pointer (some ⟨gv, 0, none⟩))).run Tryd.prog wq.drew = .ok (.agg #[.int .u64 (V.a : Nat), .int .u64 (V.b : Nat), .int .u64 (V.c : Nat), .int .u64 (V.d : Nat), .int .u64 (V.e : Nat), .int .u64 (V.f : Nat), .int .u64 (V.g : Nat), .int .u64 (V.h : Nat)]) wq.drew) := Lib.hid (load_blk (w := wq.drew) hgr.out Tryd.underlying53 rfl (by kernel_rfl))
      have hlk : Hid ((Instr.loadAt 58 (.pointer (some ⟨0, 0, none⟩))).run Tryd.prog wq.drew = .ok (.agg #[.int .i64 64, .int .i64 80, .int .i64 28, .int .i64 34, .int .i64 39, .int .i64 14, .int .i64 18, .int .i64 41, .int .i64 1, .int .i64 8, .int .i64 7, .int .i64 19, .int .i64 61, .int .i64 6]) wq.drew) := Lib.hid (run_loadAt_mid (P := Tryd.prog) wq.drew 0 0 58 [.int .i64 64, .int .i64 80, .int .i64 28, .int .i64 34, .int .i64 39, .int .i64 14, .int .i64 18, .int .i64 41, .int .i64 1, .int .i64 8, .int .i64 7, .int .i64 19, .int .i64 61, .int .i64 6] _ hLr.out.kind Tryd.underlying58 rfl (by kernel_rfl))
      have hrS : Hid (Rd wq.drew wq.drew.heap.size 1 A 128 (((q.drop (i * 128)).take 128).map B8)) := by
        have h1 := hrr.out.rd.to (below_drew (Below.refl _ _))
        rw [List.map_take]
        exact h1.take hnS
      have hrT : Hid (OwnS wq (gv + 1) (if c = 128 then A else A.map (·.add (128 * 1))) (n - 128) (c - 128) ((q.drop ((i + 1) * 128)).map B8)) := by
        have h1 := hrr.out.cut (k := 128) hnS
        rw [← List.map_drop, List.drop_drop, show i * 128 + 128 = (i + 1) * 128 by rw [Nat.succ_mul]] at h1
        exact h1
      have hnx : Hid (blk K64 V ((q.drop (i * 128)).take 128) = comp K64 (i + 1) V0 q) := by
        unfold Hid
        rw [hV.out]
        exact (comp_snoc K64 i V0 q).symm
      have hgl : Hid (gv < wq.heap.size) := lt_of_blk hgr.out
      go_wp2_with fail
      refine wp_region_still_tail 4 (by kernel_rfl) (by kernel_rfl) ?_
      simp only [List.take_succ_cons, List.take_zero, List.drop_succ_cons, List.drop_zero]
      repeat (first
        | (refine still_load (.tmp 3) rfl rfl rfl hld.out ?_
           simp only [Act.put, List.setIfInBounds_toArray, List.set_cons_zero, List.set_cons_succ])
        | (refine still_load (.global 0) rfl rfl rfl hlk.out ?_
           simp only [Act.put, List.setIfInBounds_toArray, List.set_cons_zero, List.set_cons_succ])
        | still_step)
      refine wpStill_nil ?_
      change wpList _ _ _ _ _ wq.drew
      obtain ⟨W5, hW5⟩ : ∃ W, W = wq.drew := ⟨_, rfl⟩
      rw [← hW5] at hrS hLr
      rw [← hW5]
      have HW5 := Lib.hid hW5
      clear hW5
      go_wp2_with fail
      refine (pblock_64 A _ V ((q.drop (i * 128)).take 128) W5 hVo.out hrS.out hLr.out.key).mono ?_
      rintro e w5 ⟨rfl, hb5⟩
      obtain ⟨V2, hV2⟩ : ∃ V2, Hid (blk K64 V ((q.drop (i * 128)).take 128) = V2) := ⟨_, Lib.hid rfl⟩
      rw [hV2.out] at hnx ⊢
      have hVo2 : Hid (V2.ok 64) := by unfold Hid; rw [← hV2.out]; exact blk_ok K64 V _
      have hg5 : Hid (w5.heap[gv]? = some (.cells #[.int .u64 (V.a : Nat), .int .u64 (V.b : Nat), .int .u64 (V.c : Nat), .int .u64 (V.d : Nat), .int .u64 (V.e : Nat), .int .u64 (V.f : Nat), .int .u64 (V.g : Nat), .int .u64 (V.h : Nat)] 53 (0, 0))) := (hb5.block gv (by rw [HW5.out]; exact hgl.out)).trans (by rw [HW5.out]; exact hgr.out)
      have hb5' : Hid (Below wq.heap.size wq w5) := (by rw [HW5.out] at hb5; exact (below_drew (Below.refl _ _)).trans hb5)
      have Ht5 : Hid (w5.there gv 0 (#[.int .u64 (V2.a : Nat), .int .u64 (V2.b : Nat), .int .u64 (V2.c : Nat), .int .u64 (V2.d : Nat), .int .u64 (V2.e : Nat), .int .u64 (V2.f : Nat), .int .u64 (V2.g : Nat), .int .u64 (V2.h : Nat)] : Array Value).size) := there_blk hg5.out rfl
      have Ho5 : Hid ((#[.int .u64 (V2.a : Nat), .int .u64 (V2.b : Nat), .int .u64 (V2.c : Nat), .int .u64 (V2.d : Nat), .int .u64 (V2.e : Nat), .int .u64 (V2.f : Nat), .int .u64 (V2.g : Nat), .int .u64 (V2.h : Nat)] : Array Value).all (·.oneCell') = true) := by unfold Hid; kernel_rfl
      unfold w8_64
      go_wp2_with (
        refine wpList_store_mid rfl 53 (.tmp 3) (.tmp 19) rfl gv 0 _ rfl rfl ?_ ?_ ?_ ?_
        · exact Ht5.out
        · exact Hi8.out
        · exact Ho5.out
        generalize hwf : World.setCells w5 gv 0 _ = wf
        have Hwf2 := Lib.hid hwf
        clear hwf)
      have hg6 : Hid (wf.heap[gv]? = some (.cells #[.int .u64 (V2.a : Nat), .int .u64 (V2.b : Nat), .int .u64 (V2.c : Nat), .int .u64 (V2.d : Nat), .int .u64 (V2.e : Nat), .int .u64 (V2.f : Nat), .int .u64 (V2.g : Nat), .int .u64 (V2.h : Nat)] 53 (0, 0))) := by rw [← Hwf2.out]; exact set8 hg5.out _ _ _ _ _ _ _ _
      have hbA : Below w.heap.size w w5 := hbr.out.trans (hb5'.out.mono hbr.out.size)
      have hb6 : Hid (Below w.heap.size w wf) := by rw [← Hwf2.out]; exact below_setCells hbA 0 _ hgvb (Nat.le_refl _)
      have hr6 : Hid (OwnS wf (gv + 1) (if c = 128 then A else A.map (·.add (128 * 1))) (n - 128) (c - 128) ((q.drop ((i + 1) * 128)).map B8)) := by
        rw [← Hwf2.out]
        exact (hrT.out.to hb5'.out).setCells 0 _ (Nat.lt_succ_self _)
      go_roundw
      case rel => exact ⟨i + 1, n - 128, _, c - 128, V2, rfl, hni3, by omega, hnx, hVo2, hg6, hr6, hb6⟩
      case measure => simp only [slN]; omega
    · have hn0' : ¬ (0 : Int) < n := by omega
      have hnz : Hid (n = 0) := (by omega : n = 0)
      have hin : Hid (i = nb) := by
        have h1 := hni.out
        rw [hnz.out, Nat.zero_add] at h1
        exact Nat.eq_of_mul_eq_mul_right (by decide) h1
      have hrv : wq.rangeAt gv 0 [.int .u64 (V.a : Nat), .int .u64 (V.b : Nat), .int .u64 (V.c : Nat), .int .u64 (V.d : Nat), .int .u64 (V.e : Nat), .int .u64 (V.f : Nat), .int .u64 (V.g : Nat), .int .u64 (V.h : Nat)] := range_of hgr.out
      go_wp2_with (refine wpList_load_mid rfl 53 (.tmp 3) rfl gv 0 rfl [.int .u64 (V.a : Nat), .int .u64 (V.b : Nat), .int .u64 (V.c : Nat), .int .u64 (V.d : Nat), .int .u64 (V.e : Nat), .int .u64 (V.f : Nat), .int .u64 (V.g : Nat), .int .u64 (V.h : Nat)] _ hrv Tryd.underlying53 rfl (by kernel_rfl) ?_)
      refine (told_64 V wq hVo.out).mono ?_
      rintro e w7 ⟨A7, c7, rfl, ho7, hb7⟩
      have Ho7 := Lib.hid ho7
      clear ho7 hrv
      go_wp2_with fail
      go_ret
      have hsum : told 64 V = sumOf K64 F64 l := by
        rw [hV.out, hin.out, hq.out]
        unfold sumOf
        show _ = told 64 (comp K64 ((padd 128 l l.length).length / 128) F64 (padd 128 l l.length))
        rw [hV0.out]; rw [← hnb2.out]
      have ho8 := Ho7.out
      rw [hsum] at ho8
      exact ⟨A7, c7, rfl, own_mono ho8 hbr.out.size, hbr.out.trans (hb7.mono hbr.out.size)⟩
end Go.Proofs.YtclecmpmohoamaaDoor
