/- The two kinds; the document's Sum256 and Sum512. (Printed by gen_shag.py.) -/
import Derived.Test.YtclecmpmohoamaaDoorShaF
import Derived.Test.YtclecmpmohoamaaDoorShaK
namespace Go.Proofs.YtclecmpmohoamaaDoor
open Go.RowKit
set_option linter.unusedSimpArgs false
set_option linter.unusedVariables false
theorem results_cell {P : Program} {fn : Func} {tmps : Array Value} {w : World} {a : Nat} {t : TypeId} {v : Value} {p : Addr} (h : fn.results = #[.cell a t]) (ha : tmps.getD a undef = .pointer (some p)) (hl : (loadVar t p).run P w = .ok v w) : (results fn tmps).run P w = .ok v w := by
  unfold results
  rw [h]
  have ha' : tmps[a]?.getD undef = .pointer (some p) := by simpa using ha
  simp [ha', hl, asAddr]
theorem there_blk {w : World} {g : Nat} {cs : Array Value} {t : TypeId} (h : w.heap[g]? = some (.cells cs t (0, 0))) {n : Nat} (hn : cs.size = n) : w.there g 0 n := fun j hj => by
  rw [Nat.zero_add]
  constructor
  · simp only [World.cell?, h]
    rw [Array.getElem?_eq_getElem (by omega)]
    rfl
  · simp only [World.frozen?, h]
    simp
theorem OwnS.rd_far {w : World} {base n c : Nat} {A : Option Addr} {xs : List Value} (h : OwnS w base A n c xs) {g : Nat} (o : Nat) (vs : List Value) (hg : g < base) : Rd (w.setCells g o vs) (w.setCells g o vs).heap.size 1 A n xs := by
  refine ⟨by rw [h.len]; omega, fun hn => ?_⟩
  obtain ⟨g', o', rfl, hb, hc, ht⟩ := h.mem (Nat.lt_of_lt_of_le hn h.le)
  refine ⟨g', o', rfl, ?_, fun j u hu => ?_⟩
  · rw [(heap_of_setCells w g o vs).2]
    exact World.block_lt_of_cell? _ _ (Option.isSome_iff_exists.1 (ht 0 (Nat.lt_of_lt_of_le hn h.le)).1).choose_spec
  · rw [World.cell?_setCells_out g vs o w ⟨g', o' + j, none⟩ (fun e _ => by exact absurd e (by show ¬ g' = g; omega))]
    exact hc j u hu
theorem below_setCells {B : Nat} {w w' : World} (h : Below B w w') {g : Nat} (o : Nat) (vs : List Value) (hg : B ≤ g) (hB : B ≤ w.heap.size) : Below B w (w'.setCells g o vs) := by
  obtain ⟨htp, hsz⟩ := heap_of_setCells w' g o vs
  exact h.trans ⟨World.os_setCells _ _ _ _, htp, World.output_setCells _ _ _ _, by rw [hsz]; exact Nat.le_refl _, fun k hk => World.heap_setCells_other _ _ _ _ (Nat.lt_of_lt_of_le hk (Nat.le_trans hB h.size)) (by omega)⟩

set_option maxRecDepth 20000 in
set_option maxHeartbeats 4000000 in
theorem kind_32 (w : World) : Calls Tryd.prog 35 #[] w fun e w' => ∃ A1 c1 A2 c2, e = .returned (.agg #[.int .i64 32, .int .i64 64, .int .i64 2, .int .i64 13, .int .i64 22, .int .i64 6, .int .i64 11, .int .i64 25, .int .i64 7, .int .i64 18, .int .i64 3, .int .i64 17, .int .i64 19, .int .i64 10, .slice A1 64 c1, .slice A2 8 c2]) ∧ Rd w' w'.heap.size 1 A1 64 (K32.key.map U) ∧ Rd w' w'.heap.size 1 A2 8 (F32.l.map U) ∧ Below w.heap.size w w' := by
  go_enter Tryd.func35, Tryd.ntmps35
  go_wp2_with fail
  refine (numbers_32 64 3 _ (by omega) (.inr rfl)).mono ?_
  rintro e w1 ⟨A1, c1, rfl, h1, hb1⟩
  go_wp2_with fail
  refine (numbers_32 8 2 _ (by omega) (.inl rfl)).mono ?_
  rintro e w2 ⟨A2, c2, rfl, h2, hb2⟩
  have o1 := Lib.hid ((OwnS.of_own h1).to hb2)
  have o2 := Lib.hid (OwnS.of_own h2)
  clear h1 h2
  have hs1 := hb1.size
  have hb12 : Below w.heap.size w w2 := ((Below.refl _ _).alloc (Nat.le_refl _) _).trans ((hb1.trans (hb2.mono hs1)).mono (by simp))
  have hblk := (hb2.block w.heap.size (by simp at hs1; omega)).trans ((hb1.block w.heap.size (by simp)).trans (heap_alloc_new w _))
  have hth := Lib.hid (there_blk hblk (n := 16) rfl)
  have hsz1 : w.heap.size < w1.heap.size := by simp at hs1; omega
  clear hblk hb1 hb2 hs1
  have hi50 : (Tryd.prog.info? 50).map (·.size) = some (#[.int .i64 32, .int .i64 64, .int .i64 2, .int .i64 13, .int .i64 22, .int .i64 6, .int .i64 11, .int .i64 25, .int .i64 7, .int .i64 18, .int .i64 3, .int .i64 17, .int .i64 19, .int .i64 10, .slice A1 64 c1, .slice A2 8 c2] : Array Value).size := by kernel_rfl
  have hone : (#[.int .i64 32, .int .i64 64, .int .i64 2, .int .i64 13, .int .i64 22, .int .i64 6, .int .i64 11, .int .i64 25, .int .i64 7, .int .i64 18, .int .i64 3, .int .i64 17, .int .i64 19, .int .i64 10, .slice A1 64 c1, .slice A2 8 c2] : Array Value).all (·.oneCell') = true := by first | (simp [Value.oneCell']; done) | (exact Array.all_eq_true_iff_forall_mem.2 (fun v hv => by simp at hv; (rcases hv with h | h | h | h | h | h | h | h | h | h | h | h | h | h | h | h <;> (subst h; rfl))))
  have hth2 : w2.there w.heap.size 0 (#[.int .i64 32, .int .i64 64, .int .i64 2, .int .i64 13, .int .i64 22, .int .i64 6, .int .i64 11, .int .i64 25, .int .i64 7, .int .i64 18, .int .i64 3, .int .i64 17, .int .i64 19, .int .i64 10, .slice A1 64 c1, .slice A2 8 c2] : Array Value).size := hth.out
  have Hi := Lib.hid hi50
  have Ho := Lib.hid hone
  have Ht := Lib.hid hth2
  clear hi50 hone hth2
  go_wp2_with (first
             | (
                refine wpList_store_mid rfl 50 (.tmp 0) (.tmp 7) rfl w.heap.size 0 _ rfl rfl ?_ ?_ ?_ ?_
                · exact Ht.out
                · exact Hi.out
                · exact Ho.out
                generalize hwf : World.setCells w2 w.heap.size 0 _ = wf
                have Hwf := Lib.hid hwf
                clear hwf))
  have hra := World.rangeAt_setCells_same w2 w.heap.size 0 (#[.int .i64 32, .int .i64 64, .int .i64 2, .int .i64 13, .int .i64 22, .int .i64 6, .int .i64 11, .int .i64 25, .int .i64 7, .int .i64 18, .int .i64 3, .int .i64 17, .int .i64 19, .int .i64 10, .slice A1 64 c1, .slice A2 8 c2] : Array Value).toList Ht.out
  have rd1 := o1.out.rd_far (g := w.heap.size) 0 (#[.int .i64 32, .int .i64 64, .int .i64 2, .int .i64 13, .int .i64 22, .int .i64 6, .int .i64 11, .int .i64 25, .int .i64 7, .int .i64 18, .int .i64 3, .int .i64 17, .int .i64 19, .int .i64 10, .slice A1 64 c1, .slice A2 8 c2] : Array Value).toList (by simp)
  have rd2 := o2.out.rd_far (g := w.heap.size) 0 (#[.int .i64 32, .int .i64 64, .int .i64 2, .int .i64 13, .int .i64 22, .int .i64 6, .int .i64 11, .int .i64 25, .int .i64 7, .int .i64 18, .int .i64 3, .int .i64 17, .int .i64 19, .int .i64 10, .slice A1 64 c1, .slice A2 8 c2] : Array Value).toList hsz1
  have bel := below_setCells hb12 (g := w.heap.size) 0 (#[.int .i64 32, .int .i64 64, .int .i64 2, .int .i64 13, .int .i64 22, .int .i64 6, .int .i64 11, .int .i64 25, .int .i64 7, .int .i64 18, .int .i64 3, .int .i64 17, .int .i64 19, .int .i64 10, .slice A1 64 c1, .slice A2 8 c2] : Array Value).toList (Nat.le_refl _) (Nat.le_refl _)
  have hwf := Hwf.out
  rw [hwf] at hra rd1 rd2 bel
  rw [keys32] at rd1
  rw [firsts32] at rd2
  have hld := run_loadVar_mid (P := Tryd.prog) wf w.heap.size 0 50 _ _ hra Tryd.underlying50 rfl (by kernel_rfl)
  refine bodyPost_ret (v := .agg #[.int .i64 32, .int .i64 64, .int .i64 2, .int .i64 13, .int .i64 22, .int .i64 6, .int .i64 11, .int .i64 25, .int .i64 7, .int .i64 18, .int .i64 3, .int .i64 17, .int .i64 19, .int .i64 10, .slice A1 64 c1, .slice A2 8 c2]) ?_ rfl ⟨A1, c1, A2, ⟨c2, rfl⟩, rd1, rd2, bel⟩
  exact results_cell Tryd.results35 rfl hld

theorem refSum_32 (A : Option Addr) (n c : Nat) (l : List UInt8) (w : World) (hr : Rd w w.heap.size 1 A n (l.map B8)) (hn : n ≤ 1000000) :
    Calls Tryd.prog 18 #[.slice A n c] w fun e w' => ∃ A' c', e = .returned (.slice A' 32 c') ∧ w'.ownsRow w.heap.size 5 1 (.slice A' 32 c') 32 ((sumOf K32 F32 l).map B8) ∧ Below w.heap.size w w' := by
  have Hr := Lib.hid hr
  clear hr
  go_enter Tryd.func18, Tryd.ntmps18
  go_wp2_with fail
  refine (kind_32 _).mono ?_
  rintro e w1 ⟨A1, c1, A2, c2, rfl, h1, h2, hb1⟩
  have H1 := Lib.hid h1
  have H2 := Lib.hid h2
  clear h1 h2
  go_wp2_with fail
  refine (rsum_32 A n c l A1 A2 c1 c2 _ H1.out H2.out (Hr.out.to hb1) hn).mono ?_
  rintro e w2 ⟨A', c', rfl, h3, hb2⟩
  have H3 := Lib.hid h3
  clear h3
  go_wp2_with fail
  go_ret
  exact ⟨A', c', rfl, own_mono H3.out hb1.size, hb1.trans (hb2.mono hb1.size)⟩

set_option maxRecDepth 20000 in
set_option maxHeartbeats 4000000 in
theorem kind_64 (w : World) : Calls Tryd.prog 42 #[] w fun e w' => ∃ A1 c1 A2 c2, e = .returned (.agg #[.int .i64 64, .int .i64 80, .int .i64 28, .int .i64 34, .int .i64 39, .int .i64 14, .int .i64 18, .int .i64 41, .int .i64 1, .int .i64 8, .int .i64 7, .int .i64 19, .int .i64 61, .int .i64 6, .slice A1 80 c1, .slice A2 8 c2]) ∧ Rd w' w'.heap.size 1 A1 80 (K64.key.map U) ∧ Rd w' w'.heap.size 1 A2 8 (F64.l.map U) ∧ Below w.heap.size w w' := by
  go_enter Tryd.func42, Tryd.ntmps42
  go_wp2_with fail
  refine (numbers_64 80 3 _ (by omega) (.inr rfl)).mono ?_
  rintro e w1 ⟨A1, c1, rfl, h1, hb1⟩
  go_wp2_with fail
  refine (numbers_64 8 2 _ (by omega) (.inl rfl)).mono ?_
  rintro e w2 ⟨A2, c2, rfl, h2, hb2⟩
  have o1 := Lib.hid ((OwnS.of_own h1).to hb2)
  have o2 := Lib.hid (OwnS.of_own h2)
  clear h1 h2
  have hs1 := hb1.size
  have hb12 : Below w.heap.size w w2 := ((Below.refl _ _).alloc (Nat.le_refl _) _).trans ((hb1.trans (hb2.mono hs1)).mono (by simp))
  have hblk := (hb2.block w.heap.size (by simp at hs1; omega)).trans ((hb1.block w.heap.size (by simp)).trans (heap_alloc_new w _))
  have hth := Lib.hid (there_blk hblk (n := 16) rfl)
  have hsz1 : w.heap.size < w1.heap.size := by simp at hs1; omega
  clear hblk hb1 hb2 hs1
  have hi50 : (Tryd.prog.info? 50).map (·.size) = some (#[.int .i64 64, .int .i64 80, .int .i64 28, .int .i64 34, .int .i64 39, .int .i64 14, .int .i64 18, .int .i64 41, .int .i64 1, .int .i64 8, .int .i64 7, .int .i64 19, .int .i64 61, .int .i64 6, .slice A1 80 c1, .slice A2 8 c2] : Array Value).size := by kernel_rfl
  have hone : (#[.int .i64 64, .int .i64 80, .int .i64 28, .int .i64 34, .int .i64 39, .int .i64 14, .int .i64 18, .int .i64 41, .int .i64 1, .int .i64 8, .int .i64 7, .int .i64 19, .int .i64 61, .int .i64 6, .slice A1 80 c1, .slice A2 8 c2] : Array Value).all (·.oneCell') = true := by first | (simp [Value.oneCell']; done) | (exact Array.all_eq_true_iff_forall_mem.2 (fun v hv => by simp at hv; (rcases hv with h | h | h | h | h | h | h | h | h | h | h | h | h | h | h | h <;> (subst h; rfl))))
  have hth2 : w2.there w.heap.size 0 (#[.int .i64 64, .int .i64 80, .int .i64 28, .int .i64 34, .int .i64 39, .int .i64 14, .int .i64 18, .int .i64 41, .int .i64 1, .int .i64 8, .int .i64 7, .int .i64 19, .int .i64 61, .int .i64 6, .slice A1 80 c1, .slice A2 8 c2] : Array Value).size := hth.out
  have Hi := Lib.hid hi50
  have Ho := Lib.hid hone
  have Ht := Lib.hid hth2
  clear hi50 hone hth2
  go_wp2_with (first
             | (
                refine wpList_store_mid rfl 50 (.tmp 0) (.tmp 7) rfl w.heap.size 0 _ rfl rfl ?_ ?_ ?_ ?_
                · exact Ht.out
                · exact Hi.out
                · exact Ho.out
                generalize hwf : World.setCells w2 w.heap.size 0 _ = wf
                have Hwf := Lib.hid hwf
                clear hwf))
  have hra := World.rangeAt_setCells_same w2 w.heap.size 0 (#[.int .i64 64, .int .i64 80, .int .i64 28, .int .i64 34, .int .i64 39, .int .i64 14, .int .i64 18, .int .i64 41, .int .i64 1, .int .i64 8, .int .i64 7, .int .i64 19, .int .i64 61, .int .i64 6, .slice A1 80 c1, .slice A2 8 c2] : Array Value).toList Ht.out
  have rd1 := o1.out.rd_far (g := w.heap.size) 0 (#[.int .i64 64, .int .i64 80, .int .i64 28, .int .i64 34, .int .i64 39, .int .i64 14, .int .i64 18, .int .i64 41, .int .i64 1, .int .i64 8, .int .i64 7, .int .i64 19, .int .i64 61, .int .i64 6, .slice A1 80 c1, .slice A2 8 c2] : Array Value).toList (by simp)
  have rd2 := o2.out.rd_far (g := w.heap.size) 0 (#[.int .i64 64, .int .i64 80, .int .i64 28, .int .i64 34, .int .i64 39, .int .i64 14, .int .i64 18, .int .i64 41, .int .i64 1, .int .i64 8, .int .i64 7, .int .i64 19, .int .i64 61, .int .i64 6, .slice A1 80 c1, .slice A2 8 c2] : Array Value).toList hsz1
  have bel := below_setCells hb12 (g := w.heap.size) 0 (#[.int .i64 64, .int .i64 80, .int .i64 28, .int .i64 34, .int .i64 39, .int .i64 14, .int .i64 18, .int .i64 41, .int .i64 1, .int .i64 8, .int .i64 7, .int .i64 19, .int .i64 61, .int .i64 6, .slice A1 80 c1, .slice A2 8 c2] : Array Value).toList (Nat.le_refl _) (Nat.le_refl _)
  have hwf := Hwf.out
  rw [hwf] at hra rd1 rd2 bel
  rw [keys64] at rd1
  rw [firsts64] at rd2
  have hld := run_loadVar_mid (P := Tryd.prog) wf w.heap.size 0 50 _ _ hra Tryd.underlying50 rfl (by kernel_rfl)
  refine bodyPost_ret (v := .agg #[.int .i64 64, .int .i64 80, .int .i64 28, .int .i64 34, .int .i64 39, .int .i64 14, .int .i64 18, .int .i64 41, .int .i64 1, .int .i64 8, .int .i64 7, .int .i64 19, .int .i64 61, .int .i64 6, .slice A1 80 c1, .slice A2 8 c2]) ?_ rfl ⟨A1, c1, A2, ⟨c2, rfl⟩, rd1, rd2, bel⟩
  exact results_cell Tryd.results42 rfl hld

theorem refSum_64 (A : Option Addr) (n c : Nat) (l : List UInt8) (w : World) (hr : Rd w w.heap.size 1 A n (l.map B8)) (hn : n ≤ 1000000) :
    Calls Tryd.prog 20 #[.slice A n c] w fun e w' => ∃ A' c', e = .returned (.slice A' 64 c') ∧ w'.ownsRow w.heap.size 5 1 (.slice A' 64 c') 64 ((sumOf K64 F64 l).map B8) ∧ Below w.heap.size w w' := by
  have Hr := Lib.hid hr
  clear hr
  go_enter Tryd.func20, Tryd.ntmps20
  go_wp2_with fail
  refine (kind_64 _).mono ?_
  rintro e w1 ⟨A1, c1, A2, c2, rfl, h1, h2, hb1⟩
  have H1 := Lib.hid h1
  have H2 := Lib.hid h2
  clear h1 h2
  go_wp2_with fail
  refine (rsum_64 A n c l A1 A2 c1 c2 _ H1.out H2.out (Hr.out.to hb1) hn).mono ?_
  rintro e w2 ⟨A', c', rfl, h3, hb2⟩
  have H3 := Lib.hid h3
  clear h3
  go_wp2_with fail
  go_ret
  exact ⟨A', c', rfl, own_mono H3.out hb1.size, hb1.trans (hb2.mono hb1.size)⟩
end Go.Proofs.YtclecmpmohoamaaDoor
