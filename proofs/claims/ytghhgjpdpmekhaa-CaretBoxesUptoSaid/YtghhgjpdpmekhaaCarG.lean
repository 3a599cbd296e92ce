/- The contract of Box, the document's. -/
import Derived.Test.YtghhgjpdpmekhaaCarF
import Derived.Deep.RegionHeld3
import Derived.Deep.Cut
namespace Go.Proofs.Ytghhgjpdpmekhaa
open Go.RowKit

theorem refBox_no (s : ByteArray) (cols i k : Int) (w : World) (h : cols < 2 ∨ 200 < cols) :
    Calls Try.prog 30 #[.string s, .int .i64 cols, .int .i64 i, .int .i64 k] w fun e w' => e = .returned (.tuple #[.agg #[.int .i64 0, .int .i64 0], .agg #[.int .i64 0, .int .i64 0], .int .i64 6]) ∧ Below w.heap.size w w' := by
  go_enter Try.func30, Try.ntmps30
  go_wp2_with fail
  refine (refPlaces_no s cols _ h).mono ?_; rintro e w1 ⟨rfl, rfl⟩
  go_wp2_with fail
  go_returns
  exact ⟨rfl, ((Below.refl _ _).alloc (Nat.le_refl _) _).alloc (by simp) _⟩
/-- A block that holds one spot. -/
def Spo (w : World) (g : Nat) (p : Pen) : Prop := w.heap[g]? = some (.cells #[.int .i64 p.1, .int .i64 p.2] 42 (0, 0))
section
variable {w w' : World} {g : Nat} {p : Pen}
theorem Spo.c0 (h : Spo w g p) : w.cell? ⟨g, 0, none⟩ = some (.int .i64 p.1) := by unfold Spo at h; simp [World.cell?, h]
theorem Spo.c1 (h : Spo w g p) : w.cell? ⟨g, 1, none⟩ = some (.int .i64 p.2) := by unfold Spo at h; simp [World.cell?, h]
theorem Spo.fz (h : Spo w g p) (i : Nat) : w.frozen? ⟨g, i, none⟩ = false := by unfold Spo at h; simp [World.frozen?, h]
theorem Spo.lt (h : Spo w g p) : g < w.heap.size := (Array.getElem?_eq_some_iff.1 h).1
theorem Spo.to (h : Spo w g p) (hb : Below w.heap.size w w') : Spo w' g p := (hb.block g h.lt).trans h
end
theorem spo_new (w : World) (a b : Int) : Spo (w.alloc (.cells #[.int .i64 a, .int .i64 b] 42)) w.heap.size (a, b) := heap_alloc_new w _
theorem Spo.put {w : World} {g : Nat} {p : Pen} (h : Spo w g p) (a b : Int) : Spo ((w.setCell ⟨g, 0, none⟩ (.int .i64 a)).setCell ⟨g, 1, none⟩ (.int .i64 b)) g (a, b) := by
  unfold Spo at *
  simp [World.setCell, Array.getElem?_modify, h]
theorem Spo.far {w : World} {g : Nat} {p : Pen} (h : Spo w g p) {q : Addr} (hq : q.block ≠ g) (u : Value) : Spo (w.setCell q u) g p := (Below.heap_setCell _ _ _ _ (fun e => hq e.symm)).trans h
theorem refBox_range (s : ByteArray) (cols i k : Int) (w : World) (h1 : 2 ≤ cols) (h2 : cols ≤ 200) (hs : s.size ≤ 1048576) (h : i < 0 ∨ k < i ∨ ((carets s cols).length : Int) ≤ k) :
    Calls Try.prog 30 #[.string s, .int .i64 cols, .int .i64 i, .int .i64 k] w fun e w' => e = .returned (.tuple #[.agg #[.int .i64 0, .int .i64 0], .agg #[.int .i64 0, .int .i64 0], .int .i64 6]) ∧ Below w.heap.size w w' := by
  go_enter Try.func30, Try.ntmps30
  go_wp2_with fail
  refine (refPlaces_any s cols _ h1 h2 hs).mono ?_; rintro e w1 ⟨A1, c1, rfl, ho1, hb1⟩
  have e9 := (spo_new (w.alloc (.cells #[.int .i64 0, .int .i64 0] 42)) 0 0).to hb1
  have e8 := ((spo_new w 0 0).to ((Below.refl _ _).alloc (Nat.le_refl _) (.cells #[.int .i64 0, .int .i64 0] 42))).to hb1
  have e9' : Spo w1 (w.heap.size + 1) (0, 0) := by simpa using e9
  have hb0 : Below w.heap.size w w1 := (((Below.refl _ _).alloc (Nat.le_refl _) (.cells #[.int .i64 0, .int .i64 0] 42)).alloc (by simp) (.cells #[.int .i64 0, .int .i64 0] 42)).trans (hb1.mono (by simp; omega))
  have c80 := e8.c0
  have c81 := e8.c1
  have c90 := e9'.c0
  have c91 := e9'.c1
  have z8 := e8.fz
  have z9 := e9'.fz
  by_cases hi : i < 0
  · go_wp2_with fail
    (try simp only [Exit.inBlock, Exit.then])
    refine bodyPost_ret (by simp [results, Try.results30, go_sem, c80, c81, c90, c91]; try rfl) rfl ?_
    exact ⟨rfl, (((hb0.setCell (p := ⟨w.heap.size, 0, none⟩) (Nat.le_refl _) _).setCell (p := ⟨w.heap.size, 1, none⟩) (Nat.le_refl _) _).setCell (p := ⟨w.heap.size + 1, 0, none⟩) (Nat.le_succ _) _).setCell (p := ⟨w.heap.size + 1, 1, none⟩) (Nat.le_succ _) _⟩
  · by_cases hk : k < i
    · go_wp2_with fail
      (try simp only [Exit.inBlock, Exit.then])
      refine bodyPost_ret (by simp [results, Try.results30, go_sem, c80, c81, c90, c91]; try rfl) rfl ?_
      exact ⟨rfl, (((hb0.setCell (p := ⟨w.heap.size, 0, none⟩) (Nat.le_refl _) _).setCell (p := ⟨w.heap.size, 1, none⟩) (Nat.le_refl _) _).setCell (p := ⟨w.heap.size + 1, 0, none⟩) (Nat.le_succ _) _).setCell (p := ⟨w.heap.size + 1, 1, none⟩) (Nat.le_succ _) _⟩
    · have hl : ((carets s cols).length : Int) ≤ k := by omega
      go_wp2_with fail
      (try simp only [Exit.inBlock, Exit.then])
      refine bodyPost_ret (by simp [results, Try.results30, go_sem, c80, c81, c90, c91]; try rfl) rfl ?_
      exact ⟨rfl, (((hb0.setCell (p := ⟨w.heap.size, 0, none⟩) (Nat.le_refl _) _).setCell (p := ⟨w.heap.size, 1, none⟩) (Nat.le_refl _) _).setCell (p := ⟨w.heap.size + 1, 0, none⟩) (Nat.le_succ _) _).setCell (p := ⟨w.heap.size + 1, 1, none⟩) (Nat.le_succ _) _⟩

set_option maxHeartbeats 4000000 in
theorem refBox_any (s : ByteArray) (cols : Int) (i k : Nat) (w : World) (h1 : 2 ≤ cols) (h2 : cols ≤ 200) (hs : s.size ≤ 1048576) (hik : i ≤ k) (hk : k < (carets s cols).length) :
    Calls Try.prog 30 #[.string s, .int .i64 cols, .int .i64 i, .int .i64 k] w fun e w' =>
      e = .returned (.tuple #[.agg (S2 (boxTo min (carets s cols) i (k + 1 - i))).toArray, .agg (S2 (boxTo max (carets s cols) i (k + 1 - i))).toArray, .int .i64 0]) ∧ Below w.heap.size w w' := by
  have hL := Lib.hid (carets_bd s cols h1 h2 hs)
  have hlen := carets_le s cols
  have ht1 : ¬ (i : Int) < 0 := by omega
  have ht2 : ¬ (k : Int) < i := by omega
  have ht3 : ¬ ((carets s cols).length : Int) ≤ k := by omega
  go_enter Try.func30, Try.ntmps30
  go_wp2_with fail
  refine (refPlaces_any s cols _ h1 h2 hs).mono ?_; rintro e w1 ⟨A1, c1, rfl, ho1, hb1⟩
  have hr1 := Rd.of_own ho1
  obtain ⟨b1, o1, p, rfl, hbl, hp, hcp, hcp2⟩ := hr1.atS rfl (k := i) (by omega)
  have hx1 : (0 : Int) ≤ i := by omega
  have hx2 : (i : Int) < ((carets s cols).length : Int) := by omega
  have hz : ((carets s cols)[i]?).getD (0, 0) = p := by rw [hp.out]; rfl
  go_wp2_with fail
  go_cut [13, 14] from 16 (fun v13 v14 w' => ∃ g13 g14 : Nat, v13 = .pointer (some ⟨g13, 0, none⟩) ∧ v14 = .pointer (some ⟨g14, 0, none⟩) ∧ Spo w' g13 p ∧ Spo w' g14 p ∧ w1.heap.size ≤ g13 ∧ w1.heap.size ≤ g14 ∧ g13 ≠ g14 ∧ Below w1.heap.size w1 w')
  case first J' K2 hJ hK2 =>
    have sA0 := spo_new w1 p.1 p.2
    have sB0 : Spo ((w1.alloc (.cells #[.int .i64 p.1, .int .i64 p.2] 42)).alloc (.cells #[.int .i64 p.1, .int .i64 p.2] 42)) (w1.heap.size + 1) p := by simpa using spo_new (w1.alloc (.cells #[.int .i64 p.1, .int .i64 p.2] 42)) p.1 p.2
    have sA1 : Spo ((w1.alloc (.cells #[.int .i64 p.1, .int .i64 p.2] 42)).alloc (.cells #[.int .i64 p.1, .int .i64 p.2] 42)) w1.heap.size p := sA0.to ((Below.refl _ _).alloc (Nat.le_refl _) _)
    have sB : Spo ((w1.alloc (.cells #[.int .i64 p.1, .int .i64 p.2] 42)).alloc (.cells #[.int .i64 p.1, .int .i64 p.2] 42)).drew (w1.heap.size + 1) p := sB0
    have sA : Spo ((w1.alloc (.cells #[.int .i64 p.1, .int .i64 p.2] 42)).alloc (.cells #[.int .i64 p.1, .int .i64 p.2] 42)).drew w1.heap.size p := sA1
    have hbW : Below w1.heap.size w1 ((w1.alloc (.cells #[.int .i64 p.1, .int .i64 p.2] 42)).alloc (.cells #[.int .i64 p.1, .int .i64 p.2] 42)).drew := (((Below.refl _ _).alloc (Nat.le_refl _) _).alloc (by simp) _).trans ⟨rfl, rfl, rfl, Nat.le_refl _, fun _ _ => rfl⟩
    go_region_held3 (fun w' => w'.cell? ⟨b1, o1 + i * 2, none⟩ = some (.int .i64 p.1) ∧ w'.cell? ⟨b1, o1 + i * 2 + 1, none⟩ = some (.int .i64 p.2)) (go_keep) (fail)
    all_goals
      refine hK2 _ _ (Met.intro (hJ _ _ ?_))
      repeat apply Exists.intro
      refine ⟨?rel, rfl⟩
      case rel => first
        | exact ⟨_, _, rfl, rfl, sA, sB, Nat.le_refl _, Nat.le_succ _, by omega, hbW⟩
        | exact ⟨_, _, rfl, rfl, sB, sA, Nat.le_succ _, Nat.le_refl _, by omega, hbW⟩
  case rest =>
    obtain ⟨g13, g14, rfl, rfl, hg13, hg14, hl13, hl14, hne, hbc⟩ := hcut
    go_wp2_with fail
    go_loopw [15] (fun v15 wr => ∃ m : Nat, v15 = .int .i64 ((i + m : Nat) : Int) ∧ m ≤ k + 1 - i ∧ Spo wr g13 (boxTo min (carets s cols) i m) ∧ Spo wr g14 (boxTo max (carets s cols) i m) ∧ Below w1.heap.size w1 wr) (fun v15 _ => (k + 1) - (intOf v15).toNat)
    case atStart => exact ⟨0, rfl, Nat.zero_le _, by simpa only [boxTo, hz] using hg13, by simpa only [boxTo, hz] using hg14, hbc⟩
    case round =>
      obtain ⟨m, rfl, hm, h13, h14, hbr⟩ := hrel
      by_cases hlt : m < k + 1 - i
      · obtain ⟨b2, o2, q, hA, _, hq, hcq, hcq2⟩ := (hr1.below hbr).atS rfl (k := i + m) (by omega)
        injection hA with hA
        injection hA with hA1 hA2
        subst hA1 hA2
        have hy1 : (0 : Int) ≤ ((i + m : Nat) : Int) := by omega
        have hy2 : ((i + m : Nat) : Int) < ((carets s cols).length : Int) := by omega
        have hy3 : ((i + m : Nat) : Int) ≤ (k : Int) := by omega
        generalize hnm : i + m = n at *
        have hnm' := Lib.hid hnm
        clear hnm
        have hq' := hq.out
        generalize hM : boxTo min (carets s cols) i m = M at h13
        generalize hX : boxTo max (carets s cols) i m = X at h14
        have hM' := Lib.hid hM
        have hX' := Lib.hid hX
        have hq'' := Lib.hid hq'
        clear hM hX hq'
        have c0 := h13.c0
        have c1' := h13.c1
        have c2 := h14.c0
        have c3 := h14.c1
        have z0 := h13.fz
        have z2 := h14.fz
        obtain ⟨M1, M2⟩ := M
        obtain ⟨X1, X2⟩ := X
        obtain ⟨q1, q2⟩ := q
        dsimp only at *
        have hsq := Lib.hid (show boxTo min (carets s cols) i (m + 1) = (min M1 q1, min M2 q2) ∧ boxTo max (carets s cols) i (m + 1) = (max X1 q1, max X2 q2) from by
          have e : (carets s cols)[i + m]? = some (q1, q2) := by rw [hnm'.out]; exact hq''.out
          constructor
          · rw [boxTo_step e, hM'.out]
          · rw [boxTo_step e, hX'.out])
        obtain ⟨wa, hwa⟩ : ∃ wa, wa = ((wr.setCell ⟨g13, 0, none⟩ (.int .i64 (min M1 q1))).setCell ⟨g13, 1, none⟩ (.int .i64 (min M2 q2))).drew := ⟨_, rfl⟩
        have k13 : Spo wa g13 (min M1 q1, min M2 q2) := by rw [hwa]; exact Spo.put (w := wr) h13 _ _
        have k14 : Spo wa g14 (X1, X2) := by rw [hwa]; exact Spo.far (Spo.far (w := wr) h14 hne _) hne _
        have hbw : Below w1.heap.size wr wa := by
          rw [hwa]
          exact (((Below.refl _ wr).mono hbr.size).setCell (p := ⟨g13, 0, none⟩) hl13 _ |>.setCell (p := ⟨g13, 1, none⟩) hl13 _).trans ⟨rfl, rfl, rfl, Nat.le_refl _, fun _ _ => rfl⟩
        have d0 := k14.c0
        have d1 := k14.c1
        have dz := k14.fz
        have e0 := (hbw.cell (p := ⟨b1, _, none⟩) hbl).trans hcq
        have e1 := (hbw.cell (p := ⟨b1, _, none⟩) hbl).trans hcq2
        have hwa' := Lib.hid hwa
        clear hwa
        obtain ⟨wb, hwb⟩ : ∃ wb, wb = ((wa.setCell ⟨g14, 0, none⟩ (.int .i64 (max X1 q1))).setCell ⟨g14, 1, none⟩ (.int .i64 (max X2 q2))).drew := ⟨_, rfl⟩
        have m13 : Spo wb g13 (min M1 q1, min M2 q2) := by rw [hwb]; exact Spo.far (Spo.far (w := wa) k13 hne.symm _) hne.symm _
        have m14 : Spo wb g14 (max X1 q1, max X2 q2) := by rw [hwb]; exact Spo.put (w := wa) k14 _ _
        have hbw2 : Below w1.heap.size wa wb := by
          rw [hwb]
          exact (((Below.refl _ wa).mono (hbr.trans hbw).size).setCell (p := ⟨g14, 0, none⟩) hl14 _ |>.setCell (p := ⟨g14, 1, none⟩) hl14 _).trans ⟨rfl, rfl, rfl, Nat.le_refl _, fun _ _ => rfl⟩
        have hwb' := Lib.hid hwb
        clear hwb
        go_wp2_with fail
        go_region
        rw [← hwa'.out]
        go_wp2_with fail
        go_region
        rw [← hwb'.out]
        have hw1 : IntKind.i64.wrap ((n : Int) + 1) = (n : Int) + 1 := IntWalk.i64_in _ (by omega)
        go_wp2_with fail
        go_roundw
        case rel => exact ⟨m + 1, by have := hnm'.out; go_num, by omega, by rw [hsq.out.1]; exact m13, by rw [hsq.out.2]; exact m14, (hbr.trans hbw).trans hbw2⟩
        case measure => have := hnm'.out; simp only [intOf]; omega
      · obtain rfl : m = k + 1 - i := by omega
        have hy : ¬ ((i + (k + 1 - i) : Nat) : Int) ≤ (k : Int) := by omega
        have e9 := (spo_new (w.alloc (.cells #[.int .i64 0, .int .i64 0] 42)) 0 0).to hb1
        have e8 := ((spo_new w 0 0).to ((Below.refl _ _).alloc (Nat.le_refl _) (.cells #[.int .i64 0, .int .i64 0] 42))).to hb1
        have e9' : Spo w1 (w.heap.size + 1) (0, 0) := by simpa using e9
        have hb0 : Below w.heap.size w w1 := (((Below.refl _ _).alloc (Nat.le_refl _) (.cells #[.int .i64 0, .int .i64 0] 42)).alloc (by simp) (.cells #[.int .i64 0, .int .i64 0] 42)).trans (hb1.mono (by simp; omega))
        have q8 := e8.to hbr
        have q9 := e9'.to hbr
        generalize hM : boxTo min (carets s cols) i (k + 1 - i) = M at *
        generalize hX : boxTo max (carets s cols) i (k + 1 - i) = X at *
        obtain ⟨M1, M2⟩ := M
        obtain ⟨X1, X2⟩ := X
        have c0 := h13.c0
        have c1' := h13.c1
        have c2 := h14.c0
        have c3 := h14.c1
        have c80 := q8.c0
        have c81 := q8.c1
        have c90 := q9.c0
        have c91 := q9.c1
        have z8 := q8.fz
        have z9 := q9.fz
        have HM := Lib.hid hM
        have HX := Lib.hid hX
        dsimp only at *
        clear hM hX
        have hsz := hb1.size
        simp at hsz
        have n1 : ¬ g13 = w.heap.size := by omega
        have n2 : ¬ g13 = w.heap.size + 1 := by omega
        have n3 : ¬ g14 = w.heap.size := by omega
        have n4 : ¬ g14 = w.heap.size + 1 := by omega
        have n5 : ¬ w.heap.size = g13 := by omega
        have n6 : ¬ w.heap.size + 1 = g13 := by omega
        have n7 : ¬ w.heap.size = g14 := by omega
        have n8 : ¬ w.heap.size + 1 = g14 := by omega
        obtain ⟨wf, hwf⟩ : ∃ wf, wf = ((((wr.setCell ⟨w.heap.size, 0, none⟩ (.int .i64 M1)).setCell ⟨w.heap.size, 1, none⟩ (.int .i64 M2)).setCell ⟨w.heap.size + 1, 0, none⟩ (.int .i64 X1)).setCell ⟨w.heap.size + 1, 1, none⟩ (.int .i64 X2)).drew := ⟨_, rfl⟩
        have f9 : Spo wf (w.heap.size + 1) (X1, X2) := by
          rw [hwf]
          exact Spo.put (Spo.far (Spo.far q9 (q := ⟨w.heap.size, 0, none⟩) (Nat.ne_of_lt (Nat.lt_succ_self _)) _) (q := ⟨w.heap.size, 1, none⟩) (Nat.ne_of_lt (Nat.lt_succ_self _)) _) _ _
        have f8 : Spo wf w.heap.size (M1, M2) := by
          rw [hwf]
          exact Spo.far (Spo.far (Spo.put q8 _ _) (q := ⟨w.heap.size + 1, 0, none⟩) (Nat.succ_ne_self _) _) (q := ⟨w.heap.size + 1, 1, none⟩) (Nat.succ_ne_self _) _
        have hbf : Below w.heap.size w wf := by
          rw [hwf]
          exact (((((hb0.trans (hbr.mono (by omega))).setCell (p := ⟨w.heap.size, 0, none⟩) (Nat.le_refl _) _).setCell (p := ⟨w.heap.size, 1, none⟩) (Nat.le_refl _) _).setCell (p := ⟨w.heap.size + 1, 0, none⟩) (Nat.le_succ _) _).setCell (p := ⟨w.heap.size + 1, 1, none⟩) (Nat.le_succ _) _).trans ⟨rfl, rfl, rfl, Nat.le_refl _, fun _ _ => rfl⟩
        have g80 := f8.c0
        have g81 := f8.c1
        have g90 := f9.c0
        have g91 := f9.c1
        dsimp only at g80 g81 g90 g91
        have hwf' := Lib.hid hwf
        clear hwf
        go_wp2_with fail
        go_region
        rw [← hwf'.out]
        clear n1 n2 n3 n4 n5 n6 n7 n8 c0 c1' c2 c3 c80 c81 c90 c91 z8 z9
        go_wp2_with fail
        (try simp only [Exit.inBlock, Exit.then])
        have hgoal : Ending.returned (.tuple #[.agg #[.int .i64 M1, .int .i64 M2], .agg #[.int .i64 X1, .int .i64 X2], .int .i64 0]) = Ending.returned (.tuple #[.agg (S2 (boxTo min (carets s cols) i (k + 1 - i))).toArray, .agg (S2 (boxTo max (carets s cols) i (k + 1 - i))).toArray, .int .i64 0]) := by
          have e1 : ∀ p : Pen, boxTo min (carets s cols) i (k + 1 - i) = p → Value.agg #[.int .i64 p.1, .int .i64 p.2] = .agg (S2 (boxTo min (carets s cols) i (k + 1 - i))).toArray := by rintro _ rfl; rfl
          have e2 : ∀ p : Pen, boxTo max (carets s cols) i (k + 1 - i) = p → Value.agg #[.int .i64 p.1, .int .i64 p.2] = .agg (S2 (boxTo max (carets s cols) i (k + 1 - i))).toArray := by rintro _ rfl; rfl
          rw [← e1 _ HM.out, ← e2 _ HX.out]
        refine bodyPost_ret (v := .tuple #[.agg #[.int .i64 M1, .int .i64 M2], .agg #[.int .i64 X1, .int .i64 X2], .int .i64 0]) (by simp [results, Try.results30, go_sem, g80, g81, g90, g91]) rfl ?_
        exact ⟨hgoal, hbf⟩
end Go.Proofs.Ytghhgjpdpmekhaa
