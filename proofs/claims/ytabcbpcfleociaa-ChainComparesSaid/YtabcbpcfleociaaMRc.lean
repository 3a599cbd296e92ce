/- The document's Compare. (Regions printed by gen_rcm.py.) -/
import Derived.Test.YtabcbpcfleociaaMHd
import Derived.Test.YtabcbpcfleociaaMPv
namespace Go.Proofs.Ytabcbpcfleociaa
open Go.RowKit Go.Maps
attribute [local go_sem ↓] Go.wp_at_zero Go.wp_at_succ
set_option linter.unusedSimpArgs false
set_option linter.unusedVariables false
theorem foldl_none {a : Int} : ∀ (Hs : List Hd) (t : Int), (∀ x ∈ Hs, x.au ≠ a) → Hs.foldl (fun t h => if h.au = a then h.sq else t) t = t
  | [], t, _ => rfl
  | x :: r, t, h => by
    rw [List.foldl_cons, if_neg (h x (by simp))]
    exact foldl_none r t (fun y hy => h y (by simp [hy]))
theorem validP_lt : ∀ {Hs : List Hd} {last : Int}, validP last Hs = true → ∀ h ∈ Hs, last < h.au
  | [], _, _, _, hm => by cases hm
  | x :: t, last, hv, h, hm => by
    unfold validP at hv
    split at hv
    · cases hv
    · rename_i hb
      unfold badH at hb
      rcases List.mem_cons.1 hm with rfl | hm
      · omega
      · have := validP_lt hv h hm
        omega
theorem foldl_mem : ∀ {Hs : List Hd} {last : Int} (t : Int), validP last Hs = true → ∀ h ∈ Hs, Hs.foldl (fun t x => if x.au = h.au then x.sq else t) t = h.sq
  | [], _, _, _, _, hm => by cases hm
  | x :: r, last, t, hv, h, hm => by
    unfold validP at hv
    split at hv
    · cases hv
    · have hlt := validP_lt hv
      rw [List.foldl_cons]
      rcases List.mem_cons.1 hm with rfl | hm
      · rw [if_pos rfl]
        exact foldl_none r _ (fun y hy => by have := hlt y hy; omega)
      · exact foldl_mem _ hv h hm
theorem told_none {Hs : List Hd} {a : Int} (h : ∀ x ∈ Hs, x.au ≠ a) : told Hs a = 0 := foldl_none Hs 0 h
theorem told_mem {Hs : List Hd} (hv : validV Hs = true) {h : Hd} (hm : h ∈ Hs) : told Hs h.au = h.sq := foldl_mem 0 hv h hm
/-- The document's: is anything told that is not known? -/
def aheadR (S : Bk) (Hs : List Hd) : Nat → Bool
  | 0 => false
  | i + 1 => aheadR S Hs i || decide (((ofA S i).length : Int) < told Hs i)
theorem aheadR_iff (S : Bk) (Hs : List Hd) : ∀ i : Nat, aheadR S Hs i = true ↔ ∃ a : Nat, a < i ∧ ((ofA S a).length : Int) < told Hs a
  | 0 => by simp [aheadR]
  | i + 1 => by
    unfold aheadR
    rw [Bool.or_eq_true, aheadR_iff S Hs i, decide_eq_true_iff]
    constructor
    · rintro (⟨a, h1, h2⟩ | h)
      · exact ⟨a, by omega, h2⟩
      · exact ⟨i, by omega, h⟩
    · rintro ⟨a, h1, h2⟩
      by_cases h : a = i
      · subst h; exact Or.inr h2
      · exact Or.inl ⟨a, by omega, h2⟩
theorem kAt_none {S : Bk} {h : Hd} (hs : 1 ≤ h.sq) : (kAt S h).isNone = true ↔ ((ofA S h.au).length : Int) < h.sq := by
  unfold kAt
  rw [if_neg (by omega), Option.isNone_iff_eq_none, List.getElem?_eq_none_iff]
  omega
theorem ahead_eq {S : Bk} {Hs : List Hd} (hv : validV Hs = true) : aheadR S Hs 5 = aheadP S Hs := by
  have hok := validP_ok (Int.le_refl (-1)) hv
  rw [Bool.eq_iff_iff, aheadR_iff]
  unfold aheadP
  rw [List.any_eq_true]
  constructor
  · rintro ⟨a, h1, h2⟩
    have : ∃ x ∈ Hs, x.au = (a : Int) := by
      rcases Classical.em (∃ x ∈ Hs, x.au = (a : Int)) with h | h
      · exact h
      · rw [told_none (fun x hx e => h ⟨x, hx, e⟩)] at h2
        omega
    obtain ⟨x, hx, hxa⟩ := this
    rw [← hxa, told_mem hv hx] at h2
    exact ⟨x, hx, (kAt_none (hok x hx).s1).2 h2⟩
  · rintro ⟨x, hx, h⟩
    have h1 := (kAt_none (hok x hx).s1).1 h
    have h2 := (hok x hx).a0
    have h3 := (hok x hx).a5
    refine ⟨x.au.toNat, by omega, ?_⟩
    rw [show ((x.au.toNat : Nat) : Int) = x.au by omega, told_mem hv hx]
    exact h1
theorem atK_kAt (S : Bk) (h : Hd) : atK S h.au h.sq = kAt S h := rfl
/-- Does the document refuse the i-th head? -/
theorem bad_iff {last : Int} {h : Hd} {i : Nat} (h1 : -1 ≤ last) (h2 : i = 0 → last = -1) (h3 : last < 5) : (h.au < 0 ∨ 4 < h.au ∨ (0 < i ∧ h.au ≤ last) ∨ h.sq < 1 ∨ 1048576 < h.sq ∨ h.dg.length ≠ 32) ↔ badH last h := by
  unfold badH
  constructor
  · rintro (h | h | ⟨_, h⟩ | h | h | h)
    · exact Or.inl (by omega)
    · exact Or.inr (Or.inl (by omega))
    · exact Or.inl h
    · exact Or.inr (Or.inr (Or.inl h))
    · exact Or.inr (Or.inr (Or.inr (Or.inl h)))
    · exact Or.inr (Or.inr (Or.inr (Or.inr h)))
  · rintro (h | h | h | h | h)
    · by_cases h0 : i = 0
      · exact Or.inl (by have := h2 h0; omega)
      · exact Or.inr (Or.inr (Or.inl ⟨by omega, h⟩))
    · exact Or.inr (Or.inl (by omega))
    · exact Or.inr (Or.inr (Or.inr (Or.inl h)))
    · exact Or.inr (Or.inr (Or.inr (Or.inr (Or.inl h))))
    · exact Or.inr (Or.inr (Or.inr (Or.inr (Or.inr h))))
def lastOf (Hs : List Hd) (i : Nat) : Int := if i = 0 then -1 else ((Hs[i - 1]?).map (·.au)).getD (-1)
theorem lastOf_zero (Hs : List Hd) : lastOf Hs 0 = -1 := rfl
theorem lastOf_succ {Hs : List Hd} {i : Nat} {h : Hd} (e : Hs[i]? = some h) : lastOf Hs (i + 1) = h.au := by
  unfold lastOf
  rw [if_neg (by omega), Nat.add_sub_cancel, e]
  rfl
def toldC (Hs : List Hd) : Array Value := #[.int .i64 (told Hs 0), .int .i64 (told Hs 1), .int .i64 (told Hs 2), .int .i64 (told Hs 3), .int .i64 (told Hs 4)]
theorem toldC_set (Hs : List Hd) (h : Hd) (h0 : 0 ≤ h.au) (h5 : h.au < 5) : (toldC Hs).setIfInBounds h.au.toNat (.int .i64 h.sq) = toldC (Hs ++ [h]) := by
  have : h.au = 0 ∨ h.au = 1 ∨ h.au = 2 ∨ h.au = 3 ∨ h.au = 4 := by omega
  unfold toldC
  simp only [told_snoc]
  rcases this with e | e | e | e | e <;> rw [e] <;> simp
theorem toldC_at (Hs : List Hd) (k : Nat) (hk : k < 5) : (toldC Hs)[k]? = some (.int .i64 (told Hs (k : Int))) := by
  have : k = 0 ∨ k = 1 ∨ k = 2 ∨ k = 3 ∨ k = 4 := by omega
  rcases this with rfl | rfl | rfl | rfl | rfl <;> rfl
end Go.Proofs.Ytabcbpcfleociaa

/- The document's Compare, walked. (Regions printed by gen_rcm.py.) -/
namespace Go.Proofs.Ytabcbpcfleociaa
open Go.RowKit Go.Maps
attribute [local go_sem ↓] Go.wp_at_zero Go.wp_at_succ
set_option linter.unusedSimpArgs false
set_option linter.unusedVariables false
set_option maxRecDepth 20000 in
set_option maxHeartbeats 16000000 in
theorem rcompare_ (AB : Option Addr) (nB cB : Nat) (S : Bk) (no : List Nat) (A : Option Addr) (n c : Nat) (Hs : List Hd) (no' : List Nat) (w : World) (hv : RkN no w AB nB S) (hnB : nB ≤ 1000000) (hSok : S.ok) (hno : ∀ k, k ∈ no → k < w.heap.size) (hh : HdN no' w A n Hs) (hn : n ≤ 1000000) :
    Calls Try.prog 43 #[.agg #[.slice AB nB cB], .slice A n c] w fun e w' => ∃ F m d, e = .returned (.tuple #[.agg #[.bool (cmpB S Hs), .bool (cmpA S Hs)], .slice F m d, .int .i64 (cmpE Hs)]) ∧ Rd w' w'.heap.size 2 F m ((cmpF S Hs).flatMap fkC) ∧ (cmpF S Hs).length = m ∧ m ≤ d ∧ Below w.heap.size w w' := by
  obtain ⟨W, hW⟩ : ∃ W, Hid (W = ((w.alloc (.cells #[.slice AB nB cB] 30)).alloc (.cells #[.bool false, .bool false] 81)).alloc (.cells #[.int .i64 0, .int .i64 0, .int .i64 0, .int .i64 0, .int .i64 0] 133)) := ⟨_, Lib.hid rfl⟩
  obtain ⟨G, hG⟩ : ∃ g, Hid (g = w.heap.size) := ⟨_, Lib.hid rfl⟩
  have hs1 : (w.alloc (.cells #[.slice AB nB cB] 30)).heap.size = w.heap.size + 1 := szAlloc _ _
  have hs2 : ((w.alloc (.cells #[.slice AB nB cB] 30)).alloc (.cells #[.bool false, .bool false] 81)).heap.size = w.heap.size + 2 := by rw [szAlloc, hs1]
  have BW : Hid (Below w.heap.size w W) := by rw [hW.out]; exact (((Below.refl _ _).alloc (Nat.le_refl _) _).alloc (by rw [hs1]; omega) _).alloc (by rw [hs2]; omega) _
  have hWs : Hid (W.heap.size = G + 3) := by unfold Hid; rw [hW.out, szAlloc, hs2, hG.out]
  have R0 : Hid (W.heap[G]? = some (.cells #[.slice AB nB cB] 30 (0, 0))) := by unfold Hid; rw [hW.out, hG.out]; exact (heap_alloc_old _ _ (by rw [hs2]; omega)).trans ((heap_alloc_old _ _ (by rw [hs1]; omega)).trans (heap_alloc_new _ _))
  have R1 : Hid (W.heap[G + 1]? = some (.cells #[.bool false, .bool false] 81 (0, 0))) := by unfold Hid; rw [hW.out, hG.out]; exact (heap_alloc_old _ _ (by rw [hs2]; omega)).trans (by rw [← hs1]; exact heap_alloc_new _ _)
  have R2 : Hid (W.heap[G + 2]? = some (.cells (toldC (Hs.take 0)) 133 (0, 0))) := by unfold Hid; rw [hW.out, hG.out, ← hs2]; exact heap_alloc_new _ _
  have HV := Lib.hid hv
  have HNO := Lib.hid hno
  have HH := Lib.hid hh
  have hlen : Hid (Hs.length = n) := hh.len
  clear hv hno hh hs1 hs2
  go_enter Try.func43, Try.ntmps43
  go_wp2_with fail
  rw [← hW.out, ← hG.out]
  go_loopw [8] (fun x8 wr => ∃ (i : Nat), x8 = .int .i64 i ∧ i ≤ n ∧ Hid (Below w.heap.size w wr) ∧ Hid (Fr [G + 2] W wr [G + 2]) ∧ Hid (wr.heap[G + 2]? = some (.cells (toldC (Hs.take i)) 133 (0, 0))) ∧ Hid (validV Hs = validP (lastOf Hs i) (Hs.drop i)) ∧ Hid (-1 ≤ lastOf Hs i ∧ lastOf Hs i < 5)) (fun x8 _ => n - (intOf x8).toNat)
  case atStart => exact ⟨0, rfl, by omega, BW, Fr.refl _ _, R2, rfl, by rw [lastOf_zero]; unfold Hid; omega⟩
  case round =>
    obtain ⟨i, rfl, hi, hb, FW, T2, hvp, hlr⟩ := hrel
    by_cases hin : i < n
    · have hin' : (i : Int) < (n : Int) := by omega
      have hi0 : (0 : Int) ≤ (i : Int) := by omega
      have e8 : IntKind.i64.wrap ((i : Int) + 1) = ((i + 1 : Nat) : Int) := by rw [IntWalk.i64_in _ (by omega)]; omega
      obtain ⟨x, hx⟩ : ∃ x, Hs[i]? = some x := ⟨_, List.getElem?_eq_getElem (by rw [hlen.out]; exact hin)⟩
      have hts := Lib.hid (take_snoc hx)
      have HVA := Lib.hid (validP_at (last := lastOf Hs i) hx)
      have hls := Lib.hid (lastOf_succ hx)
      have hbi := Lib.hid (bad_iff (h := x) (i := i) hlr.out.1 (fun h0 => by rw [h0]; rfl) hlr.out.2)
      obtain ⟨b, o, q, hA, hbb, _, hrb, hqx⟩ := HH.out.at_ hx
      obtain ⟨⟨au, sq, D, dm, dc⟩, rfl⟩ : ∃ q', q' = q := ⟨q, rfl⟩
      obtain ⟨xau, xsq, xdg⟩ := x
      obtain rfl : au = xau := hqx.au
      obtain rfl : sq = xsq := hqx.sq
      have hdm : Hid (dm = xdg.length) := hqx.len
      have HD := Lib.hid hqx.dg.1
      obtain ⟨lst, hlst⟩ : ∃ l, Hid (lastOf Hs i = l) := ⟨_, Lib.hid rfl⟩
      have hprev : Hid (0 < i → wr.cell? ⟨b, o + (i - 1) * 3, none⟩ = some (.int .i64 lst)) := fun h0 => by
        obtain ⟨y, hy⟩ : ∃ y, Hs[i - 1]? = some y := ⟨_, List.getElem?_eq_getElem (by rw [hlen.out]; omega)⟩
        obtain ⟨b2, o2, q2, hA2, hbb2, _, hrb2, hqx2⟩ := HH.out.at_ hy
        rw [hA] at hA2
        injection hA2 with hA2
        injection hA2 with e1 e2
        subst e1 e2
        have e3 : lst = y.au := by rw [← hlst.out]; unfold lastOf; rw [if_neg (by omega), hy]; rfl
        rw [e3, ← hqx2.au]
        exact (World.cell?_of_block (a := ⟨b, o + (i - 1) * 3 + 0, none⟩) (hb.out.block b hbb2)).trans (hrb2 0 _ rfl)
      rw [hlst.out] at hvp HVA hbi
      subst hA
      have c0 : wr.cell? ⟨b, o + i * 3, none⟩ = some (.int .i64 au) := (World.cell?_of_block (a := ⟨b, o + i * 3 + 0, none⟩) (hb.out.block b hbb)).trans (hrb 0 _ rfl)
      have c1 : wr.cell? ⟨b, o + i * 3 + 1, none⟩ = some (.int .i64 sq) := (World.cell?_of_block (a := ⟨b, o + i * 3 + 1, none⟩) (hb.out.block b hbb)).trans (hrb 1 _ rfl)
      have c2 : wr.cell? ⟨b, o + i * 3 + 2, none⟩ = some (.slice D dm dc) := (World.cell?_of_block (a := ⟨b, o + i * 3 + 2, none⟩) (hb.out.block b hbb)).trans (hrb 2 _ rfl)
      clear hqx hx hrb
      obtain ⟨V, hV⟩ : ∃ V, Hid (V = wr.alloc (.cells #[.int .i64 au, .int .i64 sq, .slice D dm dc] 45)) := ⟨_, Lib.hid rfl⟩
      obtain ⟨G9, hG9⟩ : ∃ g, Hid (g = wr.heap.size) := ⟨_, Lib.hid rfl⟩
      have BV : Hid (Below wr.heap.size wr V) := by rw [hV.out]; exact (Below.refl _ _).alloc (Nat.le_refl _) _
      have BwV : Hid (Below w.heap.size w V) := hb.out.trans (BV.out.mono hb.out.size)
      have V9 : Hid (V.heap[G9]? = some (.cells #[.int .i64 au, .int .i64 sq, .slice D dm dc] 45 (0, 0))) := by unfold Hid; rw [hV.out, hG9.out]; exact heap_alloc_new _ _
      have T1 : wr.heap[G + 1]? = some (.cells #[.bool false, .bool false] 81 (0, 0)) := (FW.out.block (G + 1) (lt_of_blk R1.out) (by simp)).trans R1.out
      have V1 : Hid (V.heap[G + 1]? = some (.cells #[.bool false, .bool false] 81 (0, 0))) := (BV.out.block (G + 1) (lt_of_blk T1)).trans T1
      have V2 : Hid (V.heap[G + 2]? = some (.cells (toldC (Hs.take i)) 133 (0, 0))) := (BV.out.block (G + 2) (lt_of_blk T2.out)).trans T2.out
      have v0 : V.cell? ⟨G9, 0, none⟩ = some (.int .i64 au) := cell_blk V9.out 0 rfl
      have v1 : V.cell? ⟨G9, 1, none⟩ = some (.int .i64 sq) := cell_blk V9.out 1 rfl
      have v2 : V.cell? ⟨G9, 2, none⟩ = some (.slice D dm dc) := cell_blk V9.out 2 rfl
      have hbbw := Lib.hid (Nat.lt_of_lt_of_le hbb hb.out.size)
      clear T1 hbb
      go_wp2_with fail
      rw [← hV.out, ← hG9.out]
      clear c0 c1 c2
      by_cases hip : 0 < i
      · have hip' : (0 : Int) < (i : Int) := by omega
        have em : IntKind.i64.wrap ((i : Int) - 1) = ((i - 1 : Nat) : Int) := by rw [IntWalk.i64_in _ (by omega)]; omega
        have em0 : (0 : Int) ≤ ((i - 1 : Nat) : Int) := by omega
        have em1 : ((i - 1 : Nat) : Int) < (n : Int) := by omega
        have vp : V.cell? ⟨b, o + (i - 1) * 3, none⟩ = some (.int .i64 lst) := (World.cell?_of_block (a := ⟨b, o + (i - 1) * 3, none⟩) (BV.out.block b hbbw.out)).trans (hprev.out hip)
        by_cases h1 : au < 0
        · have hbad := hbi.out.1 (Or.inl h1)
          go_quiet (fail)
          generalize hY : World.drewN _ _ = Y
          have bY : Below V.heap.size V Y := by rw [← hY]; exact below_drewN (Below.refl _ _) _
          have Y1 : Y.heap[G + 1]? = some (.cells #[.bool false, .bool false] 81 (0, 0)) := (bY.block (G + 1) (lt_of_blk V1.out)).trans V1.out
          go_wp2_with (refine wpList_store_row rfl 81 (.tmp 4) (.tmp 66) rfl (G + 1) #[.bool false, .bool false] rfl (by first | rfl | kernel_rfl) _ _ Y1 (by kernel_rfl) rfl (by kernel_rfl) ?_)
          generalize hZ : World.setRow _ _ _ = Z
          have Zg : Z.heap[G + 1]? = some (.cells #[.bool false, .bool false] 81 (0, 0)) := by rw [← hZ]; exact setRow_heap _ _ _ _ _ _ Y1
          have BZ : Below w.heap.size w Z := by rw [← hZ]; exact below_setRow (BwV.out.trans (bY.mono BwV.out.size)) (by rw [hG.out]; exact Nat.le_succ _) _
          have hvf : ¬ validV Hs = true := by rw [hvp.out, HVA.out, if_pos hbad]; decide
          refine bodyPost_ret (v := .tuple #[.agg #[.bool false, .bool false], .slice none 0 0, .int .i64 1]) (results_cell_tmp2 Try.results43 rfl (run_loadVar_mid (P := Try.prog) Z (G + 1) 0 81 _ _ (range_of Zg) Try.underlying81 rfl (by kernel_rfl))) rfl ?_
          refine ⟨none, 0, 0, ?_, ?_, ?_, Nat.le_refl _, BZ⟩
          · unfold cmpB cmpA cmpE; rw [if_neg hvf, if_neg hvf, if_neg hvf]
          · unfold cmpF; rw [if_neg hvf]; exact Rd.nil _ _ _ _
          · unfold cmpF; rw [if_neg hvf]; rfl
        · by_cases h2 : 4 < au
          · have hbad := hbi.out.1 (Or.inr (Or.inl h2))
            go_quiet (fail)
            generalize hY : World.drewN _ _ = Y
            have bY : Below V.heap.size V Y := by rw [← hY]; exact below_drewN (Below.refl _ _) _
            have Y1 : Y.heap[G + 1]? = some (.cells #[.bool false, .bool false] 81 (0, 0)) := (bY.block (G + 1) (lt_of_blk V1.out)).trans V1.out
            go_wp2_with (refine wpList_store_row rfl 81 (.tmp 4) (.tmp 66) rfl (G + 1) #[.bool false, .bool false] rfl (by first | rfl | kernel_rfl) _ _ Y1 (by kernel_rfl) rfl (by kernel_rfl) ?_)
            generalize hZ : World.setRow _ _ _ = Z
            have Zg : Z.heap[G + 1]? = some (.cells #[.bool false, .bool false] 81 (0, 0)) := by rw [← hZ]; exact setRow_heap _ _ _ _ _ _ Y1
            have BZ : Below w.heap.size w Z := by rw [← hZ]; exact below_setRow (BwV.out.trans (bY.mono BwV.out.size)) (by rw [hG.out]; exact Nat.le_succ _) _
            have hvf : ¬ validV Hs = true := by rw [hvp.out, HVA.out, if_pos hbad]; decide
            refine bodyPost_ret (v := .tuple #[.agg #[.bool false, .bool false], .slice none 0 0, .int .i64 1]) (results_cell_tmp2 Try.results43 rfl (run_loadVar_mid (P := Try.prog) Z (G + 1) 0 81 _ _ (range_of Zg) Try.underlying81 rfl (by kernel_rfl))) rfl ?_
            refine ⟨none, 0, 0, ?_, ?_, ?_, Nat.le_refl _, BZ⟩
            · unfold cmpB cmpA cmpE; rw [if_neg hvf, if_neg hvf, if_neg hvf]
            · unfold cmpF; rw [if_neg hvf]; exact Rd.nil _ _ _ _
            · unfold cmpF; rw [if_neg hvf]; rfl
          · by_cases h3 : au ≤ lst
            · have hbad := hbi.out.1 (Or.inr (Or.inr (Or.inl ⟨hip, h3⟩)))
              go_quiet (fail)
              generalize hY : World.drewN _ _ = Y
              have bY : Below V.heap.size V Y := by rw [← hY]; exact below_drewN (Below.refl _ _) _
              have Y1 : Y.heap[G + 1]? = some (.cells #[.bool false, .bool false] 81 (0, 0)) := (bY.block (G + 1) (lt_of_blk V1.out)).trans V1.out
              go_wp2_with (refine wpList_store_row rfl 81 (.tmp 4) (.tmp 66) rfl (G + 1) #[.bool false, .bool false] rfl (by first | rfl | kernel_rfl) _ _ Y1 (by kernel_rfl) rfl (by kernel_rfl) ?_)
              generalize hZ : World.setRow _ _ _ = Z
              have Zg : Z.heap[G + 1]? = some (.cells #[.bool false, .bool false] 81 (0, 0)) := by rw [← hZ]; exact setRow_heap _ _ _ _ _ _ Y1
              have BZ : Below w.heap.size w Z := by rw [← hZ]; exact below_setRow (BwV.out.trans (bY.mono BwV.out.size)) (by rw [hG.out]; exact Nat.le_succ _) _
              have hvf : ¬ validV Hs = true := by rw [hvp.out, HVA.out, if_pos hbad]; decide
              refine bodyPost_ret (v := .tuple #[.agg #[.bool false, .bool false], .slice none 0 0, .int .i64 1]) (results_cell_tmp2 Try.results43 rfl (run_loadVar_mid (P := Try.prog) Z (G + 1) 0 81 _ _ (range_of Zg) Try.underlying81 rfl (by kernel_rfl))) rfl ?_
              refine ⟨none, 0, 0, ?_, ?_, ?_, Nat.le_refl _, BZ⟩
              · unfold cmpB cmpA cmpE; rw [if_neg hvf, if_neg hvf, if_neg hvf]
              · unfold cmpF; rw [if_neg hvf]; exact Rd.nil _ _ _ _
              · unfold cmpF; rw [if_neg hvf]; rfl
            · by_cases h4 : sq < 1
              · have hbad := hbi.out.1 (Or.inr (Or.inr (Or.inr (Or.inl h4))))
                go_quiet (fail)
                generalize hY : World.drewN _ _ = Y
                have bY : Below V.heap.size V Y := by rw [← hY]; exact below_drewN (Below.refl _ _) _
                have Y1 : Y.heap[G + 1]? = some (.cells #[.bool false, .bool false] 81 (0, 0)) := (bY.block (G + 1) (lt_of_blk V1.out)).trans V1.out
                go_wp2_with (refine wpList_store_row rfl 81 (.tmp 4) (.tmp 66) rfl (G + 1) #[.bool false, .bool false] rfl (by first | rfl | kernel_rfl) _ _ Y1 (by kernel_rfl) rfl (by kernel_rfl) ?_)
                generalize hZ : World.setRow _ _ _ = Z
                have Zg : Z.heap[G + 1]? = some (.cells #[.bool false, .bool false] 81 (0, 0)) := by rw [← hZ]; exact setRow_heap _ _ _ _ _ _ Y1
                have BZ : Below w.heap.size w Z := by rw [← hZ]; exact below_setRow (BwV.out.trans (bY.mono BwV.out.size)) (by rw [hG.out]; exact Nat.le_succ _) _
                have hvf : ¬ validV Hs = true := by rw [hvp.out, HVA.out, if_pos hbad]; decide
                refine bodyPost_ret (v := .tuple #[.agg #[.bool false, .bool false], .slice none 0 0, .int .i64 1]) (results_cell_tmp2 Try.results43 rfl (run_loadVar_mid (P := Try.prog) Z (G + 1) 0 81 _ _ (range_of Zg) Try.underlying81 rfl (by kernel_rfl))) rfl ?_
                refine ⟨none, 0, 0, ?_, ?_, ?_, Nat.le_refl _, BZ⟩
                · unfold cmpB cmpA cmpE; rw [if_neg hvf, if_neg hvf, if_neg hvf]
                · unfold cmpF; rw [if_neg hvf]; exact Rd.nil _ _ _ _
                · unfold cmpF; rw [if_neg hvf]; rfl
              · by_cases h5 : 1048576 < sq
                · have hbad := hbi.out.1 (Or.inr (Or.inr (Or.inr (Or.inr (Or.inl h5)))))
                  go_quiet (fail)
                  generalize hY : World.drewN _ _ = Y
                  have bY : Below V.heap.size V Y := by rw [← hY]; exact below_drewN (Below.refl _ _) _
                  have Y1 : Y.heap[G + 1]? = some (.cells #[.bool false, .bool false] 81 (0, 0)) := (bY.block (G + 1) (lt_of_blk V1.out)).trans V1.out
                  go_wp2_with (refine wpList_store_row rfl 81 (.tmp 4) (.tmp 66) rfl (G + 1) #[.bool false, .bool false] rfl (by first | rfl | kernel_rfl) _ _ Y1 (by kernel_rfl) rfl (by kernel_rfl) ?_)
                  generalize hZ : World.setRow _ _ _ = Z
                  have Zg : Z.heap[G + 1]? = some (.cells #[.bool false, .bool false] 81 (0, 0)) := by rw [← hZ]; exact setRow_heap _ _ _ _ _ _ Y1
                  have BZ : Below w.heap.size w Z := by rw [← hZ]; exact below_setRow (BwV.out.trans (bY.mono BwV.out.size)) (by rw [hG.out]; exact Nat.le_succ _) _
                  have hvf : ¬ validV Hs = true := by rw [hvp.out, HVA.out, if_pos hbad]; decide
                  refine bodyPost_ret (v := .tuple #[.agg #[.bool false, .bool false], .slice none 0 0, .int .i64 1]) (results_cell_tmp2 Try.results43 rfl (run_loadVar_mid (P := Try.prog) Z (G + 1) 0 81 _ _ (range_of Zg) Try.underlying81 rfl (by kernel_rfl))) rfl ?_
                  refine ⟨none, 0, 0, ?_, ?_, ?_, Nat.le_refl _, BZ⟩
                  · unfold cmpB cmpA cmpE; rw [if_neg hvf, if_neg hvf, if_neg hvf]
                  · unfold cmpF; rw [if_neg hvf]; exact Rd.nil _ _ _ _
                  · unfold cmpF; rw [if_neg hvf]; rfl
                · by_cases h6 : xdg.length = 32
                  · have hok : Hid (¬ badH lst ⟨au, sq, xdg⟩) := fun hbx => by
                      rcases hbi.out.2 hbx with h | h | h | h | h | h
                      · exact h1 h
                      · exact h2 h
                      · exact h3 h.2
                      · exact h4 h
                      · exact h5 h
                      · exact h h6
                    have h6' : (dm : Int) = 32 := by have := hdm.out; omega
                    go_quiet (fail)
                    generalize hY : World.drewN _ _ = Y
                    have bY : Below V.heap.size V Y := by rw [← hY]; exact below_drewN (Below.refl _ _) _
                    have Y9 : Y.heap[G9]? = some (.cells #[.int .i64 au, .int .i64 sq, .slice D dm dc] 45 (0, 0)) := (bY.block G9 (lt_of_blk V9.out)).trans V9.out
                    have Y2 : Hid (Y.heap[G + 2]? = some (.cells (toldC (Hs.take i)) 133 (0, 0))) := (bY.block (G + 2) (lt_of_blk V2.out)).trans V2.out
                    have y0 : Y.cell? ⟨G9, 0, none⟩ = some (.int .i64 au) := cell_blk Y9 0 rfl
                    have y1 : Y.cell? ⟨G9, 1, none⟩ = some (.int .i64 sq) := cell_blk Y9 1 rfl
                    have h0 : (0 : Int) ≤ au := by omega
                    have h5' : au < 5 := by omega
                    have yc : Y.cell? ⟨G + 1 + 1, au.toNat, none⟩ = some (.int .i64 (told (Hs.take i) au)) := by
                      have := cell_blk Y2.out au.toNat (toldC_at (Hs.take i) au.toNat (by omega))
                      rwa [show ((au.toNat : Nat) : Int) = au by omega] at this
                    have yf := frozen_blk Y2.out au.toNat
                    go_wp2_with fail
                    obtain ⟨Z, hZ⟩ : ∃ Z, Hid (Z = Y.setCell ⟨G + 1 + 1, au.toNat, none⟩ (.int .i64 sq)) := ⟨_, Lib.hid rfl⟩
                    rw [← hZ.out]
                    have FZ : Fr [G + 2] Y Z [G + 2] := by rw [hZ.out]; exact setCell_fr _ _ _ _
                    have Z2 : Hid (Z.heap[G + 2]? = some (.cells (toldC (Hs.take (i + 1))) 133 (0, 0))) := by
                      rw [hts.out, ← toldC_set _ _ h0 h5', hZ.out]
                      exact heap_set Y2.out _
                    have FWZ : Hid (Fr [G + 2] W Z [G + 2]) := FW.out.trans ((Fr.below (own := [G + 2]) (BV.out.trans (bY.mono BV.out.size))).trans FZ)
                    have BZ : Hid (Below w.heap.size w Z) := BW.out.trans (FWZ.out.toBelow (fun k hk => by simp at hk; have := hG.out; omega) BW.out.size)
                    have hvz : Hid (validV Hs = validP (lastOf Hs (i + 1)) (Hs.drop (i + 1))) := by unfold Hid; rw [hvp.out, HVA.out, if_neg hok.out, hls.out]
                    have hlz : Hid (-1 ≤ lastOf Hs (i + 1) ∧ lastOf Hs (i + 1) < 5) := by rw [hls.out]; exact ⟨by show -1 ≤ au; omega, h5'⟩
                    go_roundw
                    case rel => exact ⟨i + 1, by go_num, hin, BZ, FWZ, Z2, hvz, hlz⟩
                    case measure => simp only [intOf]; omega
                  · have h6' : ¬ (dm : Int) = 32 := by have := hdm.out; omega
                    have hbad := hbi.out.1 (Or.inr (Or.inr (Or.inr (Or.inr (Or.inr h6)))))
                    go_quiet (fail)
                    generalize hY : World.drewN _ _ = Y
                    have bY : Below V.heap.size V Y := by rw [← hY]; exact below_drewN (Below.refl _ _) _
                    have Y1 : Y.heap[G + 1]? = some (.cells #[.bool false, .bool false] 81 (0, 0)) := (bY.block (G + 1) (lt_of_blk V1.out)).trans V1.out
                    go_wp2_with (refine wpList_store_row rfl 81 (.tmp 4) (.tmp 66) rfl (G + 1) #[.bool false, .bool false] rfl (by first | rfl | kernel_rfl) _ _ Y1 (by kernel_rfl) rfl (by kernel_rfl) ?_)
                    generalize hZ : World.setRow _ _ _ = Z
                    have Zg : Z.heap[G + 1]? = some (.cells #[.bool false, .bool false] 81 (0, 0)) := by rw [← hZ]; exact setRow_heap _ _ _ _ _ _ Y1
                    have BZ : Below w.heap.size w Z := by rw [← hZ]; exact below_setRow (BwV.out.trans (bY.mono BwV.out.size)) (by rw [hG.out]; exact Nat.le_succ _) _
                    have hvf : ¬ validV Hs = true := by rw [hvp.out, HVA.out, if_pos hbad]; decide
                    refine bodyPost_ret (v := .tuple #[.agg #[.bool false, .bool false], .slice none 0 0, .int .i64 1]) (results_cell_tmp2 Try.results43 rfl (run_loadVar_mid (P := Try.prog) Z (G + 1) 0 81 _ _ (range_of Zg) Try.underlying81 rfl (by kernel_rfl))) rfl ?_
                    refine ⟨none, 0, 0, ?_, ?_, ?_, Nat.le_refl _, BZ⟩
                    · unfold cmpB cmpA cmpE; rw [if_neg hvf, if_neg hvf, if_neg hvf]
                    · unfold cmpF; rw [if_neg hvf]; exact Rd.nil _ _ _ _
                    · unfold cmpF; rw [if_neg hvf]; rfl
      · have hip' : ¬ (0 : Int) < (i : Int) := by omega
        by_cases h1 : au < 0
        · have hbad := hbi.out.1 (Or.inl h1)
          go_quiet (fail)
          generalize hY : World.drewN _ _ = Y
          have bY : Below V.heap.size V Y := by rw [← hY]; exact below_drewN (Below.refl _ _) _
          have Y1 : Y.heap[G + 1]? = some (.cells #[.bool false, .bool false] 81 (0, 0)) := (bY.block (G + 1) (lt_of_blk V1.out)).trans V1.out
          go_wp2_with (refine wpList_store_row rfl 81 (.tmp 4) (.tmp 66) rfl (G + 1) #[.bool false, .bool false] rfl (by first | rfl | kernel_rfl) _ _ Y1 (by kernel_rfl) rfl (by kernel_rfl) ?_)
          generalize hZ : World.setRow _ _ _ = Z
          have Zg : Z.heap[G + 1]? = some (.cells #[.bool false, .bool false] 81 (0, 0)) := by rw [← hZ]; exact setRow_heap _ _ _ _ _ _ Y1
          have BZ : Below w.heap.size w Z := by rw [← hZ]; exact below_setRow (BwV.out.trans (bY.mono BwV.out.size)) (by rw [hG.out]; exact Nat.le_succ _) _
          have hvf : ¬ validV Hs = true := by rw [hvp.out, HVA.out, if_pos hbad]; decide
          refine bodyPost_ret (v := .tuple #[.agg #[.bool false, .bool false], .slice none 0 0, .int .i64 1]) (results_cell_tmp2 Try.results43 rfl (run_loadVar_mid (P := Try.prog) Z (G + 1) 0 81 _ _ (range_of Zg) Try.underlying81 rfl (by kernel_rfl))) rfl ?_
          refine ⟨none, 0, 0, ?_, ?_, ?_, Nat.le_refl _, BZ⟩
          · unfold cmpB cmpA cmpE; rw [if_neg hvf, if_neg hvf, if_neg hvf]
          · unfold cmpF; rw [if_neg hvf]; exact Rd.nil _ _ _ _
          · unfold cmpF; rw [if_neg hvf]; rfl
        · by_cases h2 : 4 < au
          · have hbad := hbi.out.1 (Or.inr (Or.inl h2))
            go_quiet (fail)
            generalize hY : World.drewN _ _ = Y
            have bY : Below V.heap.size V Y := by rw [← hY]; exact below_drewN (Below.refl _ _) _
            have Y1 : Y.heap[G + 1]? = some (.cells #[.bool false, .bool false] 81 (0, 0)) := (bY.block (G + 1) (lt_of_blk V1.out)).trans V1.out
            go_wp2_with (refine wpList_store_row rfl 81 (.tmp 4) (.tmp 66) rfl (G + 1) #[.bool false, .bool false] rfl (by first | rfl | kernel_rfl) _ _ Y1 (by kernel_rfl) rfl (by kernel_rfl) ?_)
            generalize hZ : World.setRow _ _ _ = Z
            have Zg : Z.heap[G + 1]? = some (.cells #[.bool false, .bool false] 81 (0, 0)) := by rw [← hZ]; exact setRow_heap _ _ _ _ _ _ Y1
            have BZ : Below w.heap.size w Z := by rw [← hZ]; exact below_setRow (BwV.out.trans (bY.mono BwV.out.size)) (by rw [hG.out]; exact Nat.le_succ _) _
            have hvf : ¬ validV Hs = true := by rw [hvp.out, HVA.out, if_pos hbad]; decide
            refine bodyPost_ret (v := .tuple #[.agg #[.bool false, .bool false], .slice none 0 0, .int .i64 1]) (results_cell_tmp2 Try.results43 rfl (run_loadVar_mid (P := Try.prog) Z (G + 1) 0 81 _ _ (range_of Zg) Try.underlying81 rfl (by kernel_rfl))) rfl ?_
            refine ⟨none, 0, 0, ?_, ?_, ?_, Nat.le_refl _, BZ⟩
            · unfold cmpB cmpA cmpE; rw [if_neg hvf, if_neg hvf, if_neg hvf]
            · unfold cmpF; rw [if_neg hvf]; exact Rd.nil _ _ _ _
            · unfold cmpF; rw [if_neg hvf]; rfl
          · by_cases h4 : sq < 1
            · have hbad := hbi.out.1 (Or.inr (Or.inr (Or.inr (Or.inl h4))))
              go_quiet (fail)
              generalize hY : World.drewN _ _ = Y
              have bY : Below V.heap.size V Y := by rw [← hY]; exact below_drewN (Below.refl _ _) _
              have Y1 : Y.heap[G + 1]? = some (.cells #[.bool false, .bool false] 81 (0, 0)) := (bY.block (G + 1) (lt_of_blk V1.out)).trans V1.out
              go_wp2_with (refine wpList_store_row rfl 81 (.tmp 4) (.tmp 66) rfl (G + 1) #[.bool false, .bool false] rfl (by first | rfl | kernel_rfl) _ _ Y1 (by kernel_rfl) rfl (by kernel_rfl) ?_)
              generalize hZ : World.setRow _ _ _ = Z
              have Zg : Z.heap[G + 1]? = some (.cells #[.bool false, .bool false] 81 (0, 0)) := by rw [← hZ]; exact setRow_heap _ _ _ _ _ _ Y1
              have BZ : Below w.heap.size w Z := by rw [← hZ]; exact below_setRow (BwV.out.trans (bY.mono BwV.out.size)) (by rw [hG.out]; exact Nat.le_succ _) _
              have hvf : ¬ validV Hs = true := by rw [hvp.out, HVA.out, if_pos hbad]; decide
              refine bodyPost_ret (v := .tuple #[.agg #[.bool false, .bool false], .slice none 0 0, .int .i64 1]) (results_cell_tmp2 Try.results43 rfl (run_loadVar_mid (P := Try.prog) Z (G + 1) 0 81 _ _ (range_of Zg) Try.underlying81 rfl (by kernel_rfl))) rfl ?_
              refine ⟨none, 0, 0, ?_, ?_, ?_, Nat.le_refl _, BZ⟩
              · unfold cmpB cmpA cmpE; rw [if_neg hvf, if_neg hvf, if_neg hvf]
              · unfold cmpF; rw [if_neg hvf]; exact Rd.nil _ _ _ _
              · unfold cmpF; rw [if_neg hvf]; rfl
            · by_cases h5 : 1048576 < sq
              · have hbad := hbi.out.1 (Or.inr (Or.inr (Or.inr (Or.inr (Or.inl h5)))))
                go_quiet (fail)
                generalize hY : World.drewN _ _ = Y
                have bY : Below V.heap.size V Y := by rw [← hY]; exact below_drewN (Below.refl _ _) _
                have Y1 : Y.heap[G + 1]? = some (.cells #[.bool false, .bool false] 81 (0, 0)) := (bY.block (G + 1) (lt_of_blk V1.out)).trans V1.out
                go_wp2_with (refine wpList_store_row rfl 81 (.tmp 4) (.tmp 66) rfl (G + 1) #[.bool false, .bool false] rfl (by first | rfl | kernel_rfl) _ _ Y1 (by kernel_rfl) rfl (by kernel_rfl) ?_)
                generalize hZ : World.setRow _ _ _ = Z
                have Zg : Z.heap[G + 1]? = some (.cells #[.bool false, .bool false] 81 (0, 0)) := by rw [← hZ]; exact setRow_heap _ _ _ _ _ _ Y1
                have BZ : Below w.heap.size w Z := by rw [← hZ]; exact below_setRow (BwV.out.trans (bY.mono BwV.out.size)) (by rw [hG.out]; exact Nat.le_succ _) _
                have hvf : ¬ validV Hs = true := by rw [hvp.out, HVA.out, if_pos hbad]; decide
                refine bodyPost_ret (v := .tuple #[.agg #[.bool false, .bool false], .slice none 0 0, .int .i64 1]) (results_cell_tmp2 Try.results43 rfl (run_loadVar_mid (P := Try.prog) Z (G + 1) 0 81 _ _ (range_of Zg) Try.underlying81 rfl (by kernel_rfl))) rfl ?_
                refine ⟨none, 0, 0, ?_, ?_, ?_, Nat.le_refl _, BZ⟩
                · unfold cmpB cmpA cmpE; rw [if_neg hvf, if_neg hvf, if_neg hvf]
                · unfold cmpF; rw [if_neg hvf]; exact Rd.nil _ _ _ _
                · unfold cmpF; rw [if_neg hvf]; rfl
              · by_cases h6 : xdg.length = 32
                · have hok : Hid (¬ badH lst ⟨au, sq, xdg⟩) := fun hbx => by
                    rcases hbi.out.2 hbx with h | h | h | h | h | h
                    · exact h1 h
                    · exact h2 h
                    · exact hip h.1
                    · exact h4 h
                    · exact h5 h
                    · exact h h6
                  have h6' : (dm : Int) = 32 := by have := hdm.out; omega
                  go_quiet (fail)
                  generalize hY : World.drewN _ _ = Y
                  have bY : Below V.heap.size V Y := by rw [← hY]; exact below_drewN (Below.refl _ _) _
                  have Y9 : Y.heap[G9]? = some (.cells #[.int .i64 au, .int .i64 sq, .slice D dm dc] 45 (0, 0)) := (bY.block G9 (lt_of_blk V9.out)).trans V9.out
                  have Y2 : Hid (Y.heap[G + 2]? = some (.cells (toldC (Hs.take i)) 133 (0, 0))) := (bY.block (G + 2) (lt_of_blk V2.out)).trans V2.out
                  have y0 : Y.cell? ⟨G9, 0, none⟩ = some (.int .i64 au) := cell_blk Y9 0 rfl
                  have y1 : Y.cell? ⟨G9, 1, none⟩ = some (.int .i64 sq) := cell_blk Y9 1 rfl
                  have h0 : (0 : Int) ≤ au := by omega
                  have h5' : au < 5 := by omega
                  have yc : Y.cell? ⟨G + 1 + 1, au.toNat, none⟩ = some (.int .i64 (told (Hs.take i) au)) := by
                    have := cell_blk Y2.out au.toNat (toldC_at (Hs.take i) au.toNat (by omega))
                    rwa [show ((au.toNat : Nat) : Int) = au by omega] at this
                  have yf := frozen_blk Y2.out au.toNat
                  go_wp2_with fail
                  obtain ⟨Z, hZ⟩ : ∃ Z, Hid (Z = Y.setCell ⟨G + 1 + 1, au.toNat, none⟩ (.int .i64 sq)) := ⟨_, Lib.hid rfl⟩
                  rw [← hZ.out]
                  have FZ : Fr [G + 2] Y Z [G + 2] := by rw [hZ.out]; exact setCell_fr _ _ _ _
                  have Z2 : Hid (Z.heap[G + 2]? = some (.cells (toldC (Hs.take (i + 1))) 133 (0, 0))) := by
                    rw [hts.out, ← toldC_set _ _ h0 h5', hZ.out]
                    exact heap_set Y2.out _
                  have FWZ : Hid (Fr [G + 2] W Z [G + 2]) := FW.out.trans ((Fr.below (own := [G + 2]) (BV.out.trans (bY.mono BV.out.size))).trans FZ)
                  have BZ : Hid (Below w.heap.size w Z) := BW.out.trans (FWZ.out.toBelow (fun k hk => by simp at hk; have := hG.out; omega) BW.out.size)
                  have hvz : Hid (validV Hs = validP (lastOf Hs (i + 1)) (Hs.drop (i + 1))) := by unfold Hid; rw [hvp.out, HVA.out, if_neg hok.out, hls.out]
                  have hlz : Hid (-1 ≤ lastOf Hs (i + 1) ∧ lastOf Hs (i + 1) < 5) := by rw [hls.out]; exact ⟨by show -1 ≤ au; omega, h5'⟩
                  go_roundw
                  case rel => exact ⟨i + 1, by go_num, hin, BZ, FWZ, Z2, hvz, hlz⟩
                  case measure => simp only [intOf]; omega
                · have h6' : ¬ (dm : Int) = 32 := by have := hdm.out; omega
                  have hbad := hbi.out.1 (Or.inr (Or.inr (Or.inr (Or.inr (Or.inr h6)))))
                  go_quiet (fail)
                  generalize hY : World.drewN _ _ = Y
                  have bY : Below V.heap.size V Y := by rw [← hY]; exact below_drewN (Below.refl _ _) _
                  have Y1 : Y.heap[G + 1]? = some (.cells #[.bool false, .bool false] 81 (0, 0)) := (bY.block (G + 1) (lt_of_blk V1.out)).trans V1.out
                  go_wp2_with (refine wpList_store_row rfl 81 (.tmp 4) (.tmp 66) rfl (G + 1) #[.bool false, .bool false] rfl (by first | rfl | kernel_rfl) _ _ Y1 (by kernel_rfl) rfl (by kernel_rfl) ?_)
                  generalize hZ : World.setRow _ _ _ = Z
                  have Zg : Z.heap[G + 1]? = some (.cells #[.bool false, .bool false] 81 (0, 0)) := by rw [← hZ]; exact setRow_heap _ _ _ _ _ _ Y1
                  have BZ : Below w.heap.size w Z := by rw [← hZ]; exact below_setRow (BwV.out.trans (bY.mono BwV.out.size)) (by rw [hG.out]; exact Nat.le_succ _) _
                  have hvf : ¬ validV Hs = true := by rw [hvp.out, HVA.out, if_pos hbad]; decide
                  refine bodyPost_ret (v := .tuple #[.agg #[.bool false, .bool false], .slice none 0 0, .int .i64 1]) (results_cell_tmp2 Try.results43 rfl (run_loadVar_mid (P := Try.prog) Z (G + 1) 0 81 _ _ (range_of Zg) Try.underlying81 rfl (by kernel_rfl))) rfl ?_
                  refine ⟨none, 0, 0, ?_, ?_, ?_, Nat.le_refl _, BZ⟩
                  · unfold cmpB cmpA cmpE; rw [if_neg hvf, if_neg hvf, if_neg hvf]
                  · unfold cmpF; rw [if_neg hvf]; exact Rd.nil _ _ _ _
                  · unfold cmpF; rw [if_neg hvf]; rfl
    · have hiS : Hid (i = n) := (by omega : i = n)
      have hin' : ¬ (i : Int) < (n : Int) := by omega
      have hva : validV Hs = true := by rw [hvp.out, List.drop_of_length_le (by rw [hlen.out, hiS.out]; exact Nat.le_refl _)]; rfl
      rw [List.take_of_length_le (by rw [hlen.out, hiS.out]; exact Nat.le_refl _)] at T2
      have HVA := Lib.hid hva
      have hcB : Hid (cmpB S Hs = behindP S Hs 5) := by unfold Hid cmpB; rw [if_pos hva]
      have hcA : Hid (cmpA S Hs = aheadR S Hs 5) := by unfold Hid cmpA; rw [if_pos hva, ahead_eq hva]
      have hcF : Hid (cmpF S Hs = forksP S Hs) := by unfold Hid cmpF; rw [if_pos hva]
      have hcE : Hid (cmpE Hs = 0) := by unfold Hid cmpE; rw [if_pos hva]
      have hok := Lib.hid (validP_ok (Int.le_refl _) hva)
      clear hva hvp hlr
      obtain ⟨wo, hwo⟩ : ∃ wo, wo = wr := ⟨wr, rfl⟩
      subst hwo
      obtain ⟨U, hU⟩ : ∃ U, Hid (U = wo.alloc (.cells #[.bool false, .bool false] 81)) := ⟨_, Lib.hid rfl⟩
      obtain ⟨GT, hGT⟩ : ∃ g, Hid (g = wo.heap.size) := ⟨_, Lib.hid rfl⟩
      have BU : Below wo.heap.size wo U := by rw [hU.out]; exact (Below.refl _ _).alloc (Nat.le_refl _) _
      have UT : Hid (U.heap[GT]? = some (.cells #[.bool (behindP S Hs 0), .bool (aheadR S Hs 0)] 81 (0, 0))) := by unfold Hid; rw [hU.out, hGT.out]; exact heap_alloc_new _ _
      have T0 : wo.heap[G]? = some (.cells #[.slice AB nB cB] 30 (0, 0)) := (FW.out.block G (lt_of_blk R0.out) (by simp)).trans R0.out
      have T1 : wo.heap[G + 1]? = some (.cells #[.bool false, .bool false] 81 (0, 0)) := (FW.out.block (G + 1) (lt_of_blk R1.out) (by simp)).trans R1.out
      have U0 : Hid (U.heap[G]? = some (.cells #[.slice AB nB cB] 30 (0, 0))) := (BU.block G (lt_of_blk T0)).trans T0
      have U1 : Hid (U.heap[G + 1]? = some (.cells #[.bool false, .bool false] 81 (0, 0))) := (BU.block (G + 1) (lt_of_blk T1)).trans T1
      have U2 : Hid (U.heap[G + 2]? = some (.cells (toldC Hs) 133 (0, 0))) := (BU.block (G + 2) (lt_of_blk T2.out)).trans T2.out
      have BwU : Hid (Below w.heap.size w U) := hb.out.trans (BU.mono hb.out.size)
      have FWU : Hid (Fr [G + 2] W U [G + 2]) := FW.out.trans (Fr.below BU)
      have hGTg : Hid (G + 2 < GT) := by rw [hGT.out]; exact lt_of_blk T2.out
      go_wp2_with fail
      rw [← hU.out, ← hGT.out]
      clear BU T0 T1 hU
      go_loopw [11] (fun x11 wr => ∃ (k : Nat), x11 = .int .i64 k ∧ k ≤ 5 ∧ Hid (Fr [GT] U wr [GT]) ∧ Hid (wr.heap[GT]? = some (.cells #[.bool (behindP S Hs k), .bool (aheadR S Hs k)] 81 (0, 0)))) (fun x11 _ => 5 - (intOf x11).toNat)
      case atStart => exact ⟨0, rfl, by omega, Fr.refl _ _, UT⟩
      case round =>
        obtain ⟨k, rfl, hk5, FQ, QT⟩ := hrel
        by_cases hk : k < 5
        · have hk' : (k : Int) < 5 := by omega
          have hk0 : (0 : Int) ≤ (k : Int) := by omega
          have e8 : IntKind.i64.wrap ((k : Int) + 1) = ((k + 1 : Nat) : Int) := by rw [IntWalk.i64_in _ (by omega)]; omega
          have Q0 : Hid (wr.heap[G]? = some (.cells #[.slice AB nB cB] 30 (0, 0))) := (FQ.out.block G (lt_of_blk U0.out) (by have := hGTg.out; simp; omega)).trans U0.out
          have Q2 : Hid (wr.heap[G + 2]? = some (.cells (toldC Hs) 133 (0, 0))) := (FQ.out.block (G + 2) (lt_of_blk U2.out) (by have := hGTg.out; simp; omega)).trans U2.out
          have c0 := cell_blk Q0.out 0 rfl
          have BWq : Hid (Below w.heap.size w wr) := BwU.out.trans (FQ.out.toBelow (fun k hk => by simp at hk; have h1 := hGTg.out; have h2 := hG.out; omega) BwU.out.size)
          go_wp2_with fail
          clear c0
          refine (refOf_ AB nB cB S (k : Int) no wr (HV.out.below BWq.out) hnB (fun k hk => Nat.lt_of_lt_of_le (HNO.out k hk) BWq.out.size)).mono ?_
          rintro e v ⟨RA, L, rc, rfl, hLc, hrk, b0⟩
          have hL : Hid ((ofA S (k : Int)).length = L) := by rw [← selA_len]; exact hrk.len
          obtain ⟨tl, htl⟩ : ∃ t, Hid (told Hs (k : Int) = t) := ⟨_, Lib.hid rfl⟩
          have hbs : Hid (behindP S Hs (k + 1) = (behindP S Hs k || decide (tl < (L : Int)))) := by
            show (behindP S Hs k || decide (told Hs (k : Int) < ((ofA S (k : Int)).length : Nat))) = _
            rw [hL.out, htl.out]
          have has : Hid (aheadR S Hs (k + 1) = (aheadR S Hs k || decide ((L : Int) < tl))) := by
            show (aheadR S Hs k || decide (((ofA S (k : Int)).length : Int) < told Hs (k : Int))) = _
            rw [hL.out, htl.out]
          have vT : Hid (v.heap[GT]? = some (.cells #[.bool (behindP S Hs k), .bool (aheadR S Hs k)] 81 (0, 0))) := (b0.block GT (lt_of_blk QT.out)).trans QT.out
          have v2 : v.heap[G + 2]? = some (.cells (toldC Hs) 133 (0, 0)) := (b0.block (G + 2) (lt_of_blk Q2.out)).trans Q2.out
          have FV : Hid (Fr [GT] U v [GT]) := FQ.out.trans (Fr.below b0)
          have d2 : v.cell? ⟨G + 1 + 1, k, none⟩ = some (.int .i64 tl) := by rw [← htl.out]; exact cell_blk v2 k (toldC_at Hs k hk)
          have d2' : ∀ u, (v.setCell ⟨GT, 1, none⟩ u).cell? ⟨G + 1 + 1, k, none⟩ = some (.int .i64 tl) := fun u => by
            rw [World.cell?_setCell_other]
            · exact d2
            · intro e; injection e with e; have := hGTg.out; omega
          obtain ⟨av, hav⟩ : ∃ a, Hid (aheadR S Hs k = a) := ⟨_, Lib.hid rfl⟩
          obtain ⟨bv, hbv⟩ : ∃ a, Hid (behindP S Hs k = a) := ⟨_, Lib.hid rfl⟩
          rw [hav.out] at has
          rw [hbv.out] at hbs
          rw [hav.out, hbv.out] at vT
          have s0 := cell_blk vT.out 0 rfl
          have s1 := cell_blk vT.out 1 rfl
          have f0 := frozen_blk vT.out 0
          have f1 := frozen_blk vT.out 1
          clear hrk b0 v2
          rcases av with _ | _ <;> rcases bv with _ | _ <;> by_cases h1 : (L : Int) < tl <;> by_cases h2 : tl < (L : Int) <;> first
            | (exfalso; omega)
            | (go_wp2_with fail
               go_roundw
               case rel => exact ⟨k + 1, by go_num, by omega, (FV.out.trans (setCell_fr _ _ _ _)).trans (setCell_fr _ _ _ _), by unfold Hid; rw [hbs.out, has.out]; simp only [h1, h2, decide_true, decide_false, Bool.or_true, Bool.or_false, Bool.true_or, Bool.false_or]; exact heap_set (heap_set vT.out _) _⟩
               case measure => simp only [intOf]; omega)
        · have hkS : Hid (k = 5) := (by omega : k = 5)
          have hk' : ¬ (k : Int) < 5 := by omega
          rw [hkS.out] at QT
          obtain ⟨wt, hwt⟩ : ∃ wt, wt = wr := ⟨wr, rfl⟩
          subst hwt
          have Bt : Hid (Below w.heap.size w wt) := BwU.out.trans (FQ.out.toBelow (fun k hk => by simp at hk; have h1 := hGTg.out; have h2 := hG.out; omega) BwU.out.size)
          have t0 : Hid (wt.heap[G]? = some (.cells #[.slice AB nB cB] 30 (0, 0))) := (FQ.out.block G (lt_of_blk U0.out) (by have := hGTg.out; simp; omega)).trans U0.out
          have t1 : Hid (wt.heap[G + 1]? = some (.cells #[.bool false, .bool false] 81 (0, 0))) := (FQ.out.block (G + 1) (lt_of_blk U1.out) (by have := hGTg.out; simp; omega)).trans U1.out
          go_wp2_with fail
          go_loopw [13, 14] (fun x13 x14 wr => ∃ (i m : Nat) (F : Option Addr) (d : Nat), x13 = .slice F m d ∧ x14 = .int .i64 i ∧ i ≤ n ∧ m ≤ i ∧ Hid (Below wt.heap.size wt wr) ∧ Hid (wr.ownsRow wt.heap.size 132 2 (.slice F m d) m ((forksP S (Hs.take i)).flatMap fkC)) ∧ Hid ((forksP S (Hs.take i)).length = m)) (fun _ x14 _ => n - (intOf x14).toNat)
          case atStart => exact ⟨0, 0, none, 0, rfl, rfl, by omega, by omega, Below.refl _ _, World.ownsRow_nil _ _ _ _, rfl⟩
          case round =>
            obtain ⟨i, m, F, d, rfl, rfl, hi, hmi, hbt, hO, hFl⟩ := hrel
            by_cases hin : i < n
            · have hin' : (i : Int) < (n : Int) := by omega
              have hi0 : (0 : Int) ≤ (i : Int) := by omega
              have e8 : IntKind.i64.wrap ((i : Int) + 1) = ((i + 1 : Nat) : Int) := by rw [IntWalk.i64_in _ (by omega)]; omega
              obtain ⟨x, hx⟩ : ∃ x, Hs[i]? = some x := ⟨_, List.getElem?_eq_getElem (by rw [hlen.out]; exact hin)⟩
              have hts := Lib.hid (take_snoc hx)
              have hxo := Lib.hid (hok.out x (List.mem_of_getElem? hx))
              obtain ⟨b, o, q, rfl, hbb, _, hrb, hqx⟩ := HH.out.at_ hx
              obtain ⟨⟨au, sq, D, dm, dc⟩, rfl⟩ : ∃ q', q' = q := ⟨q, rfl⟩
              obtain ⟨xau, xsq, xdg⟩ := x
              obtain rfl : au = xau := hqx.au
              obtain rfl : sq = xsq := hqx.sq
              obtain ⟨X, hX⟩ : ∃ W, Hid (W = wr.drew) := ⟨_, Lib.hid rfl⟩
              have dX : Below wr.heap.size wr X := by rw [hX.out]; exact below_drew (Below.refl _ _)
              have BtX : Below wt.heap.size wt X := hbt.out.trans (dX.mono hbt.out.size)
              have BwX : Hid (Below w.heap.size w X) := Bt.out.trans (BtX.mono Bt.out.size)
              have RKX := Lib.hid (HV.out.below BwX.out)
              have NOX : Hid (∀ k, k ∈ no → k < X.heap.size) := fun k hk => Nat.lt_of_lt_of_le (HNO.out k hk) BwX.out.size
              have hcell : ∀ w', Below X.heap.size X w' → ∀ j v, (hqC ⟨au, sq, D, dm, dc⟩)[j]? = some v → w'.cell? ⟨b, o + i * 3 + j, none⟩ = some v := fun w' h' j v hj =>
                (World.cell?_of_block (a := ⟨b, o + i * 3 + j, none⟩) ((h'.block b (Nat.lt_of_lt_of_le hbb BwX.out.size)).trans (BwX.out.block b hbb))).trans (hrb j v hj)
              have hcellt : ∀ w', Below wt.heap.size wt w' → ∀ j v, (hqC ⟨au, sq, D, dm, dc⟩)[j]? = some v → w'.cell? ⟨b, o + i * 3 + j, none⟩ = some v := fun w' h' j v hj =>
                (World.cell?_of_block (a := ⟨b, o + i * 3 + j, none⟩) ((h'.block b (Nat.lt_of_lt_of_le hbb Bt.out.size)).trans (Bt.out.block b hbb))).trans (hrb j v hj)
              have XCa : Hid (∀ w', Below X.heap.size X w' → w'.cell? ⟨b, o + i * 3, none⟩ = some (.int .i64 au)) := fun w' h' => hcell w' h' 0 _ rfl
              have XCs : Hid (∀ w', Below X.heap.size X w' → w'.cell? ⟨b, o + i * 3 + 1, none⟩ = some (.int .i64 sq)) := fun w' h' => hcell w' h' 1 _ rfl
              have XCd : Hid (∀ w', Below X.heap.size X w' → w'.cell? ⟨b, o + i * 3 + 2, none⟩ = some (.slice D dm dc)) := fun w' h' => hcell w' h' 2 _ rfl
              have XTa : Hid (∀ w', Below wt.heap.size wt w' → w'.cell? ⟨b, o + i * 3, none⟩ = some (.int .i64 au)) := fun w' h' => hcellt w' h' 0 _ rfl
              have XTs : Hid (∀ w', Below wt.heap.size wt w' → w'.cell? ⟨b, o + i * 3 + 1, none⟩ = some (.int .i64 sq)) := fun w' h' => hcellt w' h' 1 _ rfl
              have XC0 : Hid (∀ w', Below X.heap.size X w' → w'.cell? ⟨G, 0, none⟩ = some (.slice AB nB cB)) := fun w' h' => cell_blk ((h'.block G (Nat.lt_of_lt_of_le (lt_of_blk t0.out) BtX.size)).trans ((BtX.block G (lt_of_blk t0.out)).trans t0.out)) 0 rfl
              have HDX : Hid (Rd X X.heap.size 1 D dm (xdg.map B8)) := (hqx.dg.1.below BwX.out).more BwX.out.size
              have hbX := Lib.hid BtX
              have OX := Lib.hid (own_to hO.out dX)
              clear hqx hx hrb hbb hcell hcellt dX BtX
              go_wp2_with fail
              refine wp_region_noPanic ?_
              refine wp_region_held_drew (S := fun w' => Below X.heap.size X w') (by kernel_rfl) (by rw [← hX.out]; exact Below.refl _ _) (fun hS => ?_)
              rw [← hX.out]
              clear hS
              have hS : Below X.heap.size X X := Below.refl _ _
              refine wpAnyH_take (i := 0) (v := .agg #[.slice AB nB cB]) rfl (by kernel_rfl) (by kernel_rfl) (by kernel_rfl) (fun _ _ _ h => h) (Or.inl ⟨by rfl, ?hyp0⟩) hS ?restp0
              case hyp0 => (intro w' hSw; have c0 : w'.cell? ⟨G, 0, none⟩ = some (.slice AB nB cB) := XC0.out w' hSw; go_simp; first | done | with_reducible rfl)
              try simp only [Act.put, List.getElem_toArray, List.getElem_cons_zero, List.getElem_cons_succ, List.setIfInBounds_toArray, List.set_cons_zero, List.set_cons_succ]
              refine wpAnyH_take (i := 1) (v := ?vp1) rfl (by kernel_rfl) (by kernel_rfl) (by kernel_rfl) (fun _ _ _ h => h) (Or.inl ⟨by rfl, ?hyp1⟩) hS ?restp1
              case hyp1 => (intro w' hSw; go_simp; first | done | with_reducible rfl)
              try simp only [Act.put, List.getElem_toArray, List.getElem_cons_zero, List.getElem_cons_succ, List.setIfInBounds_toArray, List.set_cons_zero, List.set_cons_succ]
              refine wpAnyH_take (i := 2) (v := ?vp2) rfl (by kernel_rfl) (by kernel_rfl) (by kernel_rfl) (fun _ _ _ h => h) (Or.inl ⟨by rfl, ?hyp2⟩) hS ?restp2
              case hyp2 => (intro w' hSw; go_simp; first | done | with_reducible rfl)
              try simp only [Act.put, List.getElem_toArray, List.getElem_cons_zero, List.getElem_cons_succ, List.setIfInBounds_toArray, List.set_cons_zero, List.set_cons_succ]
              refine wpAnyH_take (i := 3) (v := ?vp3) rfl (by kernel_rfl) (by kernel_rfl) (by kernel_rfl) (fun _ _ _ h => h) (Or.inl ⟨by rfl, ?hyp3⟩) hS ?restp3
              case hyp3 => (intro w' hSw; go_simp; first | done | with_reducible rfl)
              try simp only [Act.put, List.getElem_toArray, List.getElem_cons_zero, List.getElem_cons_succ, List.setIfInBounds_toArray, List.set_cons_zero, List.set_cons_succ]
              refine wpAnyH_take (i := 4) (v := ?vp4) rfl (by kernel_rfl) (by kernel_rfl) (by kernel_rfl) (fun _ _ _ h => h) (Or.inl ⟨by rfl, ?hyp4⟩) hS ?restp4
              case hyp4 => (intro w' hSw; go_simp; first | done | with_reducible rfl)
              try simp only [Act.put, List.getElem_toArray, List.getElem_cons_zero, List.getElem_cons_succ, List.setIfInBounds_toArray, List.set_cons_zero, List.set_cons_succ]
              refine wpAnyH_take (i := 5) (v := .int .i64 au) rfl (by kernel_rfl) (by kernel_rfl) (by kernel_rfl) (fun _ _ _ h => h) (Or.inl ⟨by rfl, ?hyp5⟩) hS ?restp5
              case hyp5 => (intro w' hSw; have c0 : w'.cell? ⟨b, o + i * 3, none⟩ = some (.int .i64 au) := XCa.out w' hSw; go_simp; first | done | with_reducible rfl)
              try simp only [Act.put, List.getElem_toArray, List.getElem_cons_zero, List.getElem_cons_succ, List.setIfInBounds_toArray, List.set_cons_zero, List.set_cons_succ]
              refine wpAnyH_take (i := 6) (v := ?vp6) rfl (by kernel_rfl) (by kernel_rfl) (by kernel_rfl) (fun _ _ _ h => h) (Or.inl ⟨by rfl, ?hyp6⟩) hS ?restp6
              case hyp6 => (intro w' hSw; go_simp; first | done | with_reducible rfl)
              try simp only [Act.put, List.getElem_toArray, List.getElem_cons_zero, List.getElem_cons_succ, List.setIfInBounds_toArray, List.set_cons_zero, List.set_cons_succ]
              refine wpAnyH_take (i := 7) (v := ?vp7) rfl (by kernel_rfl) (by kernel_rfl) (by kernel_rfl) (fun _ _ _ h => h) (Or.inl ⟨by rfl, ?hyp7⟩) hS ?restp7
              case hyp7 => (intro w' hSw; go_simp; first | done | with_reducible rfl)
              try simp only [Act.put, List.getElem_toArray, List.getElem_cons_zero, List.getElem_cons_succ, List.setIfInBounds_toArray, List.set_cons_zero, List.set_cons_succ]
              refine wpAnyH_take (i := 8) (v := ?vp8) rfl (by kernel_rfl) (by kernel_rfl) (by kernel_rfl) (fun _ _ _ h => h) (Or.inl ⟨by rfl, ?hyp8⟩) hS ?restp8
              case hyp8 => (intro w' hSw; go_simp; first | done | with_reducible rfl)
              try simp only [Act.put, List.getElem_toArray, List.getElem_cons_zero, List.getElem_cons_succ, List.setIfInBounds_toArray, List.set_cons_zero, List.set_cons_succ]
              refine wpAnyH_take (i := 9) (v := ?vp9) rfl (by kernel_rfl) (by kernel_rfl) (by kernel_rfl) (fun _ _ _ h => h) (Or.inl ⟨by rfl, ?hyp9⟩) hS ?restp9
              case hyp9 => (intro w' hSw; go_simp; first | done | with_reducible rfl)
              try simp only [Act.put, List.getElem_toArray, List.getElem_cons_zero, List.getElem_cons_succ, List.setIfInBounds_toArray, List.set_cons_zero, List.set_cons_succ]
              refine wpAnyH_take (i := 10) (v := .int .i64 sq) rfl (by kernel_rfl) (by kernel_rfl) (by kernel_rfl) (fun _ _ _ h => h) (Or.inl ⟨by rfl, ?hyp10⟩) hS ?restp10
              case hyp10 => (intro w' hSw; have c0 : w'.cell? ⟨b, o + i * 3 + 1, none⟩ = some (.int .i64 sq) := XCs.out w' hSw; go_simp; first | done | with_reducible rfl)
              try simp only [Act.put, List.getElem_toArray, List.getElem_cons_zero, List.getElem_cons_succ, List.setIfInBounds_toArray, List.set_cons_zero, List.set_cons_succ]
              refine wpAnyH_ready (rs := [11]) (by kernel_rfl) (by simp) ?_
              refine AllReadyH.cons rfl (fun K hK => ?_) AllReadyH.nil
              go_simp
              refine (rat_any AB nB cB S au sq _ X RKX.out hnB NOX.out).mono ?_
              rintro e yp1 ⟨Da, da, dac, rfl, rda, bk⟩
              have RDA := Lib.hid rda
              clear rda
              go_wp2_with fail
              have Bp1 := Lib.hid bk
              refine hK.out _ _ bk ?_
              intro hS
              clear hK K hS bk
              try simp only [Act.put, List.getElem_toArray, List.getElem_cons_zero, List.getElem_cons_succ, List.setIfInBounds_toArray, List.set_cons_zero, List.set_cons_succ]
              refine wpAnyH_strong (S2 := fun w' => Below yp1.heap.size yp1 w') (fun w' h' => Bp1.out.trans (h'.mono Bp1.out.size)) _ _ _ _ ?_
              have hS : Below yp1.heap.size yp1 yp1 := Below.refl _ _
              refine wpAnyH_take (i := 12) (v := ?vp12) rfl (by kernel_rfl) (by kernel_rfl) (by kernel_rfl) (fun _ _ _ h => h) (Or.inl ⟨by rfl, ?hyp12⟩) hS ?restp12
              case hyp12 => (intro w' hSw; go_simp; first | done | with_reducible rfl)
              try simp only [Act.put, List.getElem_toArray, List.getElem_cons_zero, List.getElem_cons_succ, List.setIfInBounds_toArray, List.set_cons_zero, List.set_cons_succ]
              refine wpAnyH_take (i := 13) (v := ?vp13) rfl (by kernel_rfl) (by kernel_rfl) (by kernel_rfl) (fun _ _ _ h => h) (Or.inl ⟨by rfl, ?hyp13⟩) hS ?restp13
              case hyp13 => (intro w' hSw; go_simp; first | done | with_reducible rfl)
              try simp only [Act.put, List.getElem_toArray, List.getElem_cons_zero, List.getElem_cons_succ, List.setIfInBounds_toArray, List.set_cons_zero, List.set_cons_succ]
              refine wpAnyH_take (i := 14) (v := ?vp14) rfl (by kernel_rfl) (by kernel_rfl) (by kernel_rfl) (fun _ _ _ h => h) (Or.inl ⟨by rfl, ?hyp14⟩) hS ?restp14
              case hyp14 => (intro w' hSw; go_simp; first | done | with_reducible rfl)
              try simp only [Act.put, List.getElem_toArray, List.getElem_cons_zero, List.getElem_cons_succ, List.setIfInBounds_toArray, List.set_cons_zero, List.set_cons_succ]
              refine wpAnyH_take (i := 15) (v := ?vp15) rfl (by kernel_rfl) (by kernel_rfl) (by kernel_rfl) (fun _ _ _ h => h) (Or.inl ⟨by rfl, ?hyp15⟩) hS ?restp15
              case hyp15 => (intro w' hSw; go_simp; first | done | with_reducible rfl)
              try simp only [Act.put, List.getElem_toArray, List.getElem_cons_zero, List.getElem_cons_succ, List.setIfInBounds_toArray, List.set_cons_zero, List.set_cons_succ]
              refine wpAnyH_take (i := 16) (v := ?vp16) rfl (by kernel_rfl) (by kernel_rfl) (by kernel_rfl) (fun _ _ _ h => h) (Or.inl ⟨by rfl, ?hyp16⟩) hS ?restp16
              case hyp16 => (intro w' hSw; go_simp; first | done | with_reducible rfl)
              try simp only [Act.put, List.getElem_toArray, List.getElem_cons_zero, List.getElem_cons_succ, List.setIfInBounds_toArray, List.set_cons_zero, List.set_cons_succ]
              refine wpAnyH_done (by kernel_rfl) (NoPanic.normal ?_) _
              have BY1 : Hid (Below X.heap.size X yp1) := Bp1.out
              obtain ⟨Y1, hY1⟩ : ∃ y, y = yp1 := ⟨_, rfl⟩
              subst hY1
              go_wp2_with fail
              obtain ⟨X2, hX2⟩ : ∃ W, Hid (W = Y1.drew) := ⟨_, Lib.hid rfl⟩
              have dX2 : Hid (Below Y1.heap.size Y1 X2) := by rw [hX2.out]; exact below_drew (Below.refl _ _)
              have hbX2 : Hid (Below wt.heap.size wt X2) := hbX.out.trans ((BY1.out.trans (dX2.out.mono BY1.out.size)).mono hbX.out.size)
              have OX2 := Lib.hid (own_to OX.out (BY1.out.trans (dX2.out.mono BY1.out.size)))
              rcases hka : kAt S ⟨au, sq, xdg⟩ with _ | k
              · have he : atE S au sq = 0 := by show ((kAt S ⟨au, sq, xdg⟩).map (·.ep)).getD 0 = 0; rw [hka]; rfl
                have hfo : Hid (forksP S (Hs.take (i + 1)) = forksP S (Hs.take i)) := by unfold Hid forksP; rw [hts.out, List.filterMap_append]; simp [forkO, hka]
                rw [he]
                clear hka he
                go_quiet (fail)
                generalize hY : World.drewN _ _ = Y
                have bY : Below Y1.heap.size Y1 Y := by rw [← hY]; exact below_drewN (Below.refl _ _) _
                have hbY : Hid (Below wt.heap.size wt Y) := hbX.out.trans ((BY1.out.trans (bY.mono BY1.out.size)).mono hbX.out.size)
                have OY := Lib.hid (own_to OX.out (BY1.out.trans (bY.mono BY1.out.size)))
                clear bY hY
                go_wp2_with fail
                go_roundw
                case rel => exact ⟨i + 1, m, F, d, rfl, by go_num, hin, by omega, hbY, by rw [hfo.out]; exact OY, by rw [hfo.out]; exact hFl⟩
                case measure => simp only [intOf]; omega
              · have he : atE S au sq = k.ep := by show ((kAt S ⟨au, sq, xdg⟩).map (·.ep)).getD 0 = k.ep; rw [hka]; rfl
                have hdd0 : atD S au sq = k.dg := by show ((kAt S ⟨au, sq, xdg⟩).map (·.dg)).getD [] = k.dg; rw [hka]; rfl
                have hkm : (ofA S au)[(sq - 1).toNat]? = some k := by
                  have h1 := hka
                  unfold kAt at h1
                  split at h1
                  · cases h1
                  · exact h1
                have hep : 0 < k.ep := by have := (hSok.of (List.mem_of_getElem? hkm)).lo; omega
                rw [he]
                rw [hdd0] at RDA
                by_cases hkd : k.dg = xdg
                · have hfo : Hid (forksP S (Hs.take (i + 1)) = forksP S (Hs.take i)) := by unfold Hid forksP; rw [hts.out, List.filterMap_append]; simp [forkO, hka, hkd]
                  have hdd : ((str k.dg).toList == (str xdg).toList) = true := by rw [eq_str]; exact decide_eq_true hkd
                  clear hka he hdd0 hkm hkd
                  refine wp_region_noPanic ?_
                  refine wp_region_held_drew (S := fun w' => Below X2.heap.size X2 w') (by kernel_rfl) (by rw [← hX2.out]; exact Below.refl _ _) (fun hS => ?_)
                  rw [← hX2.out]
                  clear hS
                  have hS : Below X2.heap.size X2 X2 := Below.refl _ _
                  refine wpAnyH_take (i := 0) (v := ?vs0) rfl (by kernel_rfl) (by kernel_rfl) (by kernel_rfl) (fun _ _ _ h => h) (Or.inl ⟨by rfl, ?hys0⟩) hS ?rests0
                  case hys0 => (intro w' hSw; go_simp; first | done | with_reducible rfl)
                  try simp only [Act.put, List.getElem_toArray, List.getElem_cons_zero, List.getElem_cons_succ, List.setIfInBounds_toArray, List.set_cons_zero, List.set_cons_succ]
                  refine wpAnyH_take (i := 1) (v := .bool true) rfl (by kernel_rfl) (by kernel_rfl) (by kernel_rfl) (fun _ _ _ h => h) (Or.inl ⟨by rfl, ?hys1⟩) hS ?rests1
                  case hys1 => (intro w' hSw; have h := hep; go_simp; first | done | with_reducible rfl)
                  try simp only [Act.put, List.getElem_toArray, List.getElem_cons_zero, List.getElem_cons_succ, List.setIfInBounds_toArray, List.set_cons_zero, List.set_cons_succ]
                  refine wpAnyH_take (i := 2) (v := .bool true) rfl (by kernel_rfl) (by kernel_rfl) (by kernel_rfl) (fun _ _ _ h => h) (Or.inl ⟨by rfl, ?hys2⟩) hS ?rests2
                  case hys2 => (intro w' hSw; have h := hep; go_simp; first | done | with_reducible rfl)
                  try simp only [Act.put, List.getElem_toArray, List.getElem_cons_zero, List.getElem_cons_succ, List.setIfInBounds_toArray, List.set_cons_zero, List.set_cons_succ]
                  refine wpAnyH_take (i := 3) (v := ?vs3) rfl (by kernel_rfl) (by kernel_rfl) (by kernel_rfl) (fun _ _ _ h => h) (Or.inl ⟨by rfl, ?hys3⟩) hS ?rests3
                  case hys3 => (intro w' hSw; go_simp; first | done | with_reducible rfl)
                  try simp only [Act.put, List.getElem_toArray, List.getElem_cons_zero, List.getElem_cons_succ, List.setIfInBounds_toArray, List.set_cons_zero, List.set_cons_succ]
                  refine wpAnyH_take (i := 4) (v := .string (str k.dg)) rfl (by kernel_rfl) (by kernel_rfl) (by kernel_rfl) (fun _ _ _ h => h) (Or.inl ⟨by rfl, ?hys4⟩) hS ?rests4
                  case hys4 => (intro w' hSw; have hc := conv8 w' Da da dac _ (RDA.out.to (dX2.out.trans (hSw.mono dX2.out.size))); go_simp; first | done | with_reducible rfl)
                  try simp only [Act.put, List.getElem_toArray, List.getElem_cons_zero, List.getElem_cons_succ, List.setIfInBounds_toArray, List.set_cons_zero, List.set_cons_succ]
                  refine wpAnyH_take (i := 5) (v := ?vs5) rfl (by kernel_rfl) (by kernel_rfl) (by kernel_rfl) (fun _ _ _ h => h) (Or.inl ⟨by rfl, ?hys5⟩) hS ?rests5
                  case hys5 => (intro w' hSw; go_simp; first | done | with_reducible rfl)
                  try simp only [Act.put, List.getElem_toArray, List.getElem_cons_zero, List.getElem_cons_succ, List.setIfInBounds_toArray, List.set_cons_zero, List.set_cons_succ]
                  refine wpAnyH_take (i := 6) (v := ?vs6) rfl (by kernel_rfl) (by kernel_rfl) (by kernel_rfl) (fun _ _ _ h => h) (Or.inl ⟨by rfl, ?hys6⟩) hS ?rests6
                  case hys6 => (intro w' hSw; go_simp; first | done | with_reducible rfl)
                  try simp only [Act.put, List.getElem_toArray, List.getElem_cons_zero, List.getElem_cons_succ, List.setIfInBounds_toArray, List.set_cons_zero, List.set_cons_succ]
                  refine wpAnyH_take (i := 7) (v := ?vs7) rfl (by kernel_rfl) (by kernel_rfl) (by kernel_rfl) (fun _ _ _ h => h) (Or.inl ⟨by rfl, ?hys7⟩) hS ?rests7
                  case hys7 => (intro w' hSw; go_simp; first | done | with_reducible rfl)
                  try simp only [Act.put, List.getElem_toArray, List.getElem_cons_zero, List.getElem_cons_succ, List.setIfInBounds_toArray, List.set_cons_zero, List.set_cons_succ]
                  refine wpAnyH_take (i := 8) (v := ?vs8) rfl (by kernel_rfl) (by kernel_rfl) (by kernel_rfl) (fun _ _ _ h => h) (Or.inl ⟨by rfl, ?hys8⟩) hS ?rests8
                  case hys8 => (intro w' hSw; go_simp; first | done | with_reducible rfl)
                  try simp only [Act.put, List.getElem_toArray, List.getElem_cons_zero, List.getElem_cons_succ, List.setIfInBounds_toArray, List.set_cons_zero, List.set_cons_succ]
                  refine wpAnyH_take (i := 9) (v := .slice D dm dc) rfl (by kernel_rfl) (by kernel_rfl) (by kernel_rfl) (fun _ _ _ h => h) (Or.inl ⟨by rfl, ?hys9⟩) hS ?rests9
                  case hys9 => (intro w' hSw; have c0 : w'.cell? ⟨b, o + i * 3 + 2, none⟩ = some (.slice D dm dc) := XCd.out w' (BY1.out.trans ((dX2.out.trans (hSw.mono dX2.out.size)).mono BY1.out.size)); go_simp; first | done | with_reducible rfl)
                  try simp only [Act.put, List.getElem_toArray, List.getElem_cons_zero, List.getElem_cons_succ, List.setIfInBounds_toArray, List.set_cons_zero, List.set_cons_succ]
                  refine wpAnyH_take (i := 10) (v := .string (str xdg)) rfl (by kernel_rfl) (by kernel_rfl) (by kernel_rfl) (fun _ _ _ h => h) (Or.inl ⟨by rfl, ?hys10⟩) hS ?rests10
                  case hys10 => (intro w' hSw; have hc := conv8 w' D dm dc _ (HDX.out.to (BY1.out.trans ((dX2.out.trans (hSw.mono dX2.out.size)).mono BY1.out.size))); go_simp; first | done | with_reducible rfl)
                  try simp only [Act.put, List.getElem_toArray, List.getElem_cons_zero, List.getElem_cons_succ, List.setIfInBounds_toArray, List.set_cons_zero, List.set_cons_succ]
                  refine wpAnyH_take (i := 11) (v := .bool false) rfl (by kernel_rfl) (by kernel_rfl) (by kernel_rfl) (fun _ _ _ h => h) (Or.inl ⟨by rfl, ?hys11⟩) hS ?rests11
                  case hys11 => (intro w' hSw; have h := hdd; go_simp; first | done | with_reducible rfl)
                  try simp only [Act.put, List.getElem_toArray, List.getElem_cons_zero, List.getElem_cons_succ, List.setIfInBounds_toArray, List.set_cons_zero, List.set_cons_succ]
                  refine wpAnyH_take (i := 12) (v := .bool false) rfl (by kernel_rfl) (by kernel_rfl) (by kernel_rfl) (fun _ _ _ h => h) (Or.inl ⟨by rfl, ?hys12⟩) hS ?rests12
                  case hys12 => (intro w' hSw; go_simp; first | done | with_reducible rfl)
                  try simp only [Act.put, List.getElem_toArray, List.getElem_cons_zero, List.getElem_cons_succ, List.setIfInBounds_toArray, List.set_cons_zero, List.set_cons_succ]
                  refine wpAnyH_done (by kernel_rfl) (NoPanic.normal ?_) _
                  go_wp2_with fail
                  go_roundw
                  case rel => exact ⟨i + 1, m, F, d, rfl, by go_num, hin, by omega, hbX2, by rw [hfo.out]; exact OX2, by rw [hfo.out]; exact hFl⟩
                  case measure => simp only [intOf]; omega
                · have hfo : Hid (forksP S (Hs.take (i + 1)) = forksP S (Hs.take i) ++ [(au, sq)]) := by unfold Hid forksP; rw [hts.out, List.filterMap_append]; simp [forkO, hka, hkd]
                  have hdd : ((str k.dg).toList == (str xdg).toList) = false := by rw [eq_str]; exact decide_eq_false hkd
                  clear hka he hdd0 hkm hkd
                  refine wp_region_noPanic ?_
                  refine wp_region_held_drew (S := fun w' => Below X2.heap.size X2 w') (by kernel_rfl) (by rw [← hX2.out]; exact Below.refl _ _) (fun hS => ?_)
                  rw [← hX2.out]
                  clear hS
                  have hS : Below X2.heap.size X2 X2 := Below.refl _ _
                  refine wpAnyH_take (i := 0) (v := ?vq0) rfl (by kernel_rfl) (by kernel_rfl) (by kernel_rfl) (fun _ _ _ h => h) (Or.inl ⟨by rfl, ?hyq0⟩) hS ?restq0
                  case hyq0 => (intro w' hSw; go_simp; first | done | with_reducible rfl)
                  try simp only [Act.put, List.getElem_toArray, List.getElem_cons_zero, List.getElem_cons_succ, List.setIfInBounds_toArray, List.set_cons_zero, List.set_cons_succ]
                  refine wpAnyH_take (i := 1) (v := .bool true) rfl (by kernel_rfl) (by kernel_rfl) (by kernel_rfl) (fun _ _ _ h => h) (Or.inl ⟨by rfl, ?hyq1⟩) hS ?restq1
                  case hyq1 => (intro w' hSw; have h := hep; go_simp; first | done | with_reducible rfl)
                  try simp only [Act.put, List.getElem_toArray, List.getElem_cons_zero, List.getElem_cons_succ, List.setIfInBounds_toArray, List.set_cons_zero, List.set_cons_succ]
                  refine wpAnyH_take (i := 2) (v := .bool true) rfl (by kernel_rfl) (by kernel_rfl) (by kernel_rfl) (fun _ _ _ h => h) (Or.inl ⟨by rfl, ?hyq2⟩) hS ?restq2
                  case hyq2 => (intro w' hSw; have h := hep; go_simp; first | done | with_reducible rfl)
                  try simp only [Act.put, List.getElem_toArray, List.getElem_cons_zero, List.getElem_cons_succ, List.setIfInBounds_toArray, List.set_cons_zero, List.set_cons_succ]
                  refine wpAnyH_take (i := 3) (v := ?vq3) rfl (by kernel_rfl) (by kernel_rfl) (by kernel_rfl) (fun _ _ _ h => h) (Or.inl ⟨by rfl, ?hyq3⟩) hS ?restq3
                  case hyq3 => (intro w' hSw; go_simp; first | done | with_reducible rfl)
                  try simp only [Act.put, List.getElem_toArray, List.getElem_cons_zero, List.getElem_cons_succ, List.setIfInBounds_toArray, List.set_cons_zero, List.set_cons_succ]
                  refine wpAnyH_take (i := 4) (v := .string (str k.dg)) rfl (by kernel_rfl) (by kernel_rfl) (by kernel_rfl) (fun _ _ _ h => h) (Or.inl ⟨by rfl, ?hyq4⟩) hS ?restq4
                  case hyq4 => (intro w' hSw; have hc := conv8 w' Da da dac _ (RDA.out.to (dX2.out.trans (hSw.mono dX2.out.size))); go_simp; first | done | with_reducible rfl)
                  try simp only [Act.put, List.getElem_toArray, List.getElem_cons_zero, List.getElem_cons_succ, List.setIfInBounds_toArray, List.set_cons_zero, List.set_cons_succ]
                  refine wpAnyH_take (i := 5) (v := ?vq5) rfl (by kernel_rfl) (by kernel_rfl) (by kernel_rfl) (fun _ _ _ h => h) (Or.inl ⟨by rfl, ?hyq5⟩) hS ?restq5
                  case hyq5 => (intro w' hSw; go_simp; first | done | with_reducible rfl)
                  try simp only [Act.put, List.getElem_toArray, List.getElem_cons_zero, List.getElem_cons_succ, List.setIfInBounds_toArray, List.set_cons_zero, List.set_cons_succ]
                  refine wpAnyH_take (i := 6) (v := ?vq6) rfl (by kernel_rfl) (by kernel_rfl) (by kernel_rfl) (fun _ _ _ h => h) (Or.inl ⟨by rfl, ?hyq6⟩) hS ?restq6
                  case hyq6 => (intro w' hSw; go_simp; first | done | with_reducible rfl)
                  try simp only [Act.put, List.getElem_toArray, List.getElem_cons_zero, List.getElem_cons_succ, List.setIfInBounds_toArray, List.set_cons_zero, List.set_cons_succ]
                  refine wpAnyH_take (i := 7) (v := ?vq7) rfl (by kernel_rfl) (by kernel_rfl) (by kernel_rfl) (fun _ _ _ h => h) (Or.inl ⟨by rfl, ?hyq7⟩) hS ?restq7
                  case hyq7 => (intro w' hSw; go_simp; first | done | with_reducible rfl)
                  try simp only [Act.put, List.getElem_toArray, List.getElem_cons_zero, List.getElem_cons_succ, List.setIfInBounds_toArray, List.set_cons_zero, List.set_cons_succ]
                  refine wpAnyH_take (i := 8) (v := ?vq8) rfl (by kernel_rfl) (by kernel_rfl) (by kernel_rfl) (fun _ _ _ h => h) (Or.inl ⟨by rfl, ?hyq8⟩) hS ?restq8
                  case hyq8 => (intro w' hSw; go_simp; first | done | with_reducible rfl)
                  try simp only [Act.put, List.getElem_toArray, List.getElem_cons_zero, List.getElem_cons_succ, List.setIfInBounds_toArray, List.set_cons_zero, List.set_cons_succ]
                  refine wpAnyH_take (i := 9) (v := .slice D dm dc) rfl (by kernel_rfl) (by kernel_rfl) (by kernel_rfl) (fun _ _ _ h => h) (Or.inl ⟨by rfl, ?hyq9⟩) hS ?restq9
                  case hyq9 => (intro w' hSw; have c0 : w'.cell? ⟨b, o + i * 3 + 2, none⟩ = some (.slice D dm dc) := XCd.out w' (BY1.out.trans ((dX2.out.trans (hSw.mono dX2.out.size)).mono BY1.out.size)); go_simp; first | done | with_reducible rfl)
                  try simp only [Act.put, List.getElem_toArray, List.getElem_cons_zero, List.getElem_cons_succ, List.setIfInBounds_toArray, List.set_cons_zero, List.set_cons_succ]
                  refine wpAnyH_take (i := 10) (v := .string (str xdg)) rfl (by kernel_rfl) (by kernel_rfl) (by kernel_rfl) (fun _ _ _ h => h) (Or.inl ⟨by rfl, ?hyq10⟩) hS ?restq10
                  case hyq10 => (intro w' hSw; have hc := conv8 w' D dm dc _ (HDX.out.to (BY1.out.trans ((dX2.out.trans (hSw.mono dX2.out.size)).mono BY1.out.size))); go_simp; first | done | with_reducible rfl)
                  try simp only [Act.put, List.getElem_toArray, List.getElem_cons_zero, List.getElem_cons_succ, List.setIfInBounds_toArray, List.set_cons_zero, List.set_cons_succ]
                  refine wpAnyH_take (i := 11) (v := .bool true) rfl (by kernel_rfl) (by kernel_rfl) (by kernel_rfl) (fun _ _ _ h => h) (Or.inl ⟨by rfl, ?hyq11⟩) hS ?restq11
                  case hyq11 => (intro w' hSw; have h := hdd; go_simp; first | done | with_reducible rfl)
                  try simp only [Act.put, List.getElem_toArray, List.getElem_cons_zero, List.getElem_cons_succ, List.setIfInBounds_toArray, List.set_cons_zero, List.set_cons_succ]
                  refine wpAnyH_take (i := 12) (v := .bool true) rfl (by kernel_rfl) (by kernel_rfl) (by kernel_rfl) (fun _ _ _ h => h) (Or.inl ⟨by rfl, ?hyq12⟩) hS ?restq12
                  case hyq12 => (intro w' hSw; go_simp; first | done | with_reducible rfl)
                  try simp only [Act.put, List.getElem_toArray, List.getElem_cons_zero, List.getElem_cons_succ, List.setIfInBounds_toArray, List.set_cons_zero, List.set_cons_succ]
                  refine wpAnyH_done (by kernel_rfl) (NoPanic.normal ?_) _
                  obtain ⟨X3, hX3⟩ : ∃ W, Hid (W = X2.drew) := ⟨_, Lib.hid rfl⟩
                  have dX3 : Below X2.heap.size X2 X3 := by rw [hX3.out]; exact below_drew (Below.refl _ _)
                  have hbt3 : Hid (Below wt.heap.size wt X3) := hbX2.out.trans (dX3.mono hbX2.out.size)
                  have OX3 := Lib.hid (own_to OX2.out dX3)
                  clear dX3
                  go_wp2_with fail
                  refine wp_region_noPanic ?_
                  refine wp_region_held_drew (S := fun w' => Below wt.heap.size wt w') (by kernel_rfl) (by rw [← hX3.out]; exact hbt3.out) (fun hS => ?_)
                  rw [← hX3.out]
                  clear hS
                  have hS : Below wt.heap.size wt X3 := hbt3.out
                  refine wpAnyH_take (i := 0) (v := ?vr0) rfl (by kernel_rfl) (by kernel_rfl) (by kernel_rfl) (fun _ _ _ h => h) (Or.inl ⟨by rfl, ?hyr0⟩) hS ?restr0
                  case hyr0 => (intro w' hSw; go_simp; first | done | with_reducible rfl)
                  try simp only [Act.put, List.getElem_toArray, List.getElem_cons_zero, List.getElem_cons_succ, List.setIfInBounds_toArray, List.set_cons_zero, List.set_cons_succ]
                  refine wpAnyH_take (i := 1) (v := ?vr1) rfl (by kernel_rfl) (by kernel_rfl) (by kernel_rfl) (fun _ _ _ h => h) (Or.inl ⟨by rfl, ?hyr1⟩) hS ?restr1
                  case hyr1 => (intro w' hSw; go_simp; first | done | with_reducible rfl)
                  try simp only [Act.put, List.getElem_toArray, List.getElem_cons_zero, List.getElem_cons_succ, List.setIfInBounds_toArray, List.set_cons_zero, List.set_cons_succ]
                  refine wpAnyH_take (i := 2) (v := ?vr2) rfl (by kernel_rfl) (by kernel_rfl) (by kernel_rfl) (fun _ _ _ h => h) (Or.inl ⟨by rfl, ?hyr2⟩) hS ?restr2
                  case hyr2 => (intro w' hSw; go_simp; first | done | with_reducible rfl)
                  try simp only [Act.put, List.getElem_toArray, List.getElem_cons_zero, List.getElem_cons_succ, List.setIfInBounds_toArray, List.set_cons_zero, List.set_cons_succ]
                  refine wpAnyH_take (i := 3) (v := ?vr3) rfl (by kernel_rfl) (by kernel_rfl) (by kernel_rfl) (fun _ _ _ h => h) (Or.inl ⟨by rfl, ?hyr3⟩) hS ?restr3
                  case hyr3 => (intro w' hSw; go_simp; first | done | with_reducible rfl)
                  try simp only [Act.put, List.getElem_toArray, List.getElem_cons_zero, List.getElem_cons_succ, List.setIfInBounds_toArray, List.set_cons_zero, List.set_cons_succ]
                  refine wpAnyH_take (i := 4) (v := ?vr4) rfl (by kernel_rfl) (by kernel_rfl) (by kernel_rfl) (fun _ _ _ h => h) (Or.inl ⟨by rfl, ?hyr4⟩) hS ?restr4
                  case hyr4 => (intro w' hSw; go_simp; first | done | with_reducible rfl)
                  try simp only [Act.put, List.getElem_toArray, List.getElem_cons_zero, List.getElem_cons_succ, List.setIfInBounds_toArray, List.set_cons_zero, List.set_cons_succ]
                  refine wpAnyH_take (i := 5) (v := .int .i64 au) rfl (by kernel_rfl) (by kernel_rfl) (by kernel_rfl) (fun _ _ _ h => h) (Or.inl ⟨by rfl, ?hyr5⟩) hS ?restr5
                  case hyr5 => (intro w' hSw; have c0 : w'.cell? ⟨b, o + i * 3, none⟩ = some (.int .i64 au) := XTa.out w' hSw; go_simp; first | done | with_reducible rfl)
                  try simp only [Act.put, List.getElem_toArray, List.getElem_cons_zero, List.getElem_cons_succ, List.setIfInBounds_toArray, List.set_cons_zero, List.set_cons_succ]
                  refine wpAnyH_take (i := 6) (v := ?vr6) rfl (by kernel_rfl) (by kernel_rfl) (by kernel_rfl) (fun _ _ _ h => h) (Or.inl ⟨by rfl, ?hyr6⟩) hS ?restr6
                  case hyr6 => (intro w' hSw; go_simp; first | done | with_reducible rfl)
                  try simp only [Act.put, List.getElem_toArray, List.getElem_cons_zero, List.getElem_cons_succ, List.setIfInBounds_toArray, List.set_cons_zero, List.set_cons_succ]
                  refine wpAnyH_take (i := 7) (v := ?vr7) rfl (by kernel_rfl) (by kernel_rfl) (by kernel_rfl) (fun _ _ _ h => h) (Or.inl ⟨by rfl, ?hyr7⟩) hS ?restr7
                  case hyr7 => (intro w' hSw; go_simp; first | done | with_reducible rfl)
                  try simp only [Act.put, List.getElem_toArray, List.getElem_cons_zero, List.getElem_cons_succ, List.setIfInBounds_toArray, List.set_cons_zero, List.set_cons_succ]
                  refine wpAnyH_take (i := 8) (v := ?vr8) rfl (by kernel_rfl) (by kernel_rfl) (by kernel_rfl) (fun _ _ _ h => h) (Or.inl ⟨by rfl, ?hyr8⟩) hS ?restr8
                  case hyr8 => (intro w' hSw; go_simp; first | done | with_reducible rfl)
                  try simp only [Act.put, List.getElem_toArray, List.getElem_cons_zero, List.getElem_cons_succ, List.setIfInBounds_toArray, List.set_cons_zero, List.set_cons_succ]
                  refine wpAnyH_take (i := 9) (v := ?vr9) rfl (by kernel_rfl) (by kernel_rfl) (by kernel_rfl) (fun _ _ _ h => h) (Or.inl ⟨by rfl, ?hyr9⟩) hS ?restr9
                  case hyr9 => (intro w' hSw; go_simp; first | done | with_reducible rfl)
                  try simp only [Act.put, List.getElem_toArray, List.getElem_cons_zero, List.getElem_cons_succ, List.setIfInBounds_toArray, List.set_cons_zero, List.set_cons_succ]
                  refine wpAnyH_take (i := 10) (v := .int .i64 sq) rfl (by kernel_rfl) (by kernel_rfl) (by kernel_rfl) (fun _ _ _ h => h) (Or.inl ⟨by rfl, ?hyr10⟩) hS ?restr10
                  case hyr10 => (intro w' hSw; have c0 : w'.cell? ⟨b, o + i * 3 + 1, none⟩ = some (.int .i64 sq) := XTs.out w' hSw; go_simp; first | done | with_reducible rfl)
                  try simp only [Act.put, List.getElem_toArray, List.getElem_cons_zero, List.getElem_cons_succ, List.setIfInBounds_toArray, List.set_cons_zero, List.set_cons_succ]
                  refine wpAnyH_take (i := 11) (v := ?vr11) rfl (by kernel_rfl) (by kernel_rfl) (by kernel_rfl) (fun _ _ _ h => h) (Or.inl ⟨by rfl, ?hyr11⟩) hS ?restr11
                  case hyr11 => (intro w' hSw; go_simp; first | done | with_reducible rfl)
                  try simp only [Act.put, List.getElem_toArray, List.getElem_cons_zero, List.getElem_cons_succ, List.setIfInBounds_toArray, List.set_cons_zero, List.set_cons_succ]
                  refine wpAnyH_ready (rs := [12]) (by kernel_rfl) (by simp) ?_
                  refine AllReadyH.cons rfl (fun K hK => ?_) AllReadyH.nil
                  go_simp
                  have bk : Below X3.heap.size X3 (X3.alloc (.cells #[.int .i64 au, .int .i64 sq] 132)) := (Below.refl _ _).alloc (Nat.le_refl _) _
                  have rf := Lib.hid (rowF X3 (au, sq) 132)
                  obtain ⟨yr1, hyr1⟩ : ∃ W0, Hid (W0 = X3.alloc (.cells #[.int .i64 au, .int .i64 sq] 132)) := ⟨_, Lib.hid rfl⟩
                  rw [← hyr1.out] at bk ⊢
                  have Br1 := Lib.hid bk
                  refine hK.out _ _ (hbt3.out.trans (bk.mono hbt3.out.size)) ?_
                  intro hS
                  clear hK K hS
                  try simp only [Act.put, List.getElem_toArray, List.getElem_cons_zero, List.getElem_cons_succ, List.setIfInBounds_toArray, List.set_cons_zero, List.set_cons_succ]
                  have hS : Below wt.heap.size wt yr1 := hbt3.out.trans (bk.mono hbt3.out.size)
                  clear bk
                  refine wpAnyH_ready (rs := [13]) (by kernel_rfl) (by simp) ?_
                  refine AllReadyH.cons rfl (fun K hK => ?_) AllReadyH.nil
                  have ow := own_to OX3.out Br1.out
                  have rf2 : Hid (Rd yr1 (X3.heap.size + 1) 2 (some ⟨X3.heap.size, 0, none⟩) 1 (fkC (au, sq))) := by rw [hyr1.out]; exact rf.out
                  refine step_app (.tmp 135) (.tmp 147) 82 rfl rfl (wt.heap.size) 132 2 16 _ Try.underlying82 infoF rfl (by decide) (.slice F m d) m _ rfl ow _ (some ⟨X3.heap.size, 0, none⟩) 1 1 (fkC (au, sq)) rfl rf2.out (fkC_one _) (by simp only [maxLen]; omega) (by omega) (Nat.le_trans hbt3.out.size Br1.out.size) ?_
                  intro F6 d6 yr2 o6 g6 _
                  have O6 := Lib.hid o6
                  have B6 : Hid (Below wt.heap.size wt yr2) := (hbt3.out.trans (Br1.out.mono hbt3.out.size)).trans (below_grown g6 (own_block_ge2 ow) (Nat.le_trans hbt3.out.size Br1.out.size))
                  refine hK.out _ _ B6.out ?_
                  intro hS
                  clear hK K hS o6 g6 ow
                  try simp only [Act.put, List.getElem_toArray, List.getElem_cons_zero, List.getElem_cons_succ, List.setIfInBounds_toArray, List.set_cons_zero, List.set_cons_succ]
                  have hS : Below wt.heap.size wt yr2 := B6.out
                  refine wpAnyH_take (i := 14) (v := ?vr14) rfl (by kernel_rfl) (by kernel_rfl) (by kernel_rfl) (fun _ _ _ h => h) (Or.inl ⟨by rfl, ?hyr14⟩) hS ?restr14
                  case hyr14 => (intro w' hSw; go_simp; first | done | with_reducible rfl)
                  try simp only [Act.put, List.getElem_toArray, List.getElem_cons_zero, List.getElem_cons_succ, List.setIfInBounds_toArray, List.set_cons_zero, List.set_cons_succ]
                  refine wpAnyH_done (by kernel_rfl) (NoPanic.normal ?_) _
                  obtain ⟨Y6, hY6⟩ : ∃ y, y = yr2 := ⟨_, rfl⟩
                  subst hY6
                  go_wp2_with fail
                  go_roundw
                  case rel => exact ⟨i + 1, m + 1, F6, d6, rfl, by go_num, hin, by omega, B6, by rw [hfo.out, List.flatMap_append, show [(au, sq)].flatMap fkC = fkC (au, sq) by simp]; exact O6.out, by rw [hfo.out, List.length_append, hFl.out]; rfl⟩
                  case measure => simp only [intOf]; omega
            · have hiS : Hid (i = n) := (by omega : i = n)
              have hin' : ¬ (i : Int) < (n : Int) := by omega
              rw [List.take_of_length_le (by rw [hlen.out, hiS.out]; exact Nat.le_refl _)] at hO hFl
              have zT := (hbt.out.block GT (lt_of_blk QT.out)).trans QT.out
              have z1 := (hbt.out.block (G + 1) (lt_of_blk t1.out)).trans t1.out
              have x0 := cell_blk zT 0 rfl
              have x1 := cell_blk zT 1 rfl
              go_wp2_with (refine wpList_store_row rfl 81 (.tmp 4) (.tmp 149) rfl (G + 1) #[.bool (behindP S Hs 5), .bool (aheadR S Hs 5)] rfl (by first | rfl | kernel_rfl) _ _ z1 (by kernel_rfl) rfl (by kernel_rfl) ?_)
              generalize hZ : World.setRow _ _ _ = Z
              have Zg : Z.heap[G + 1]? = some (.cells #[.bool (behindP S Hs 5), .bool (aheadR S Hs 5)] 81 (0, 0)) := by rw [← hZ]; exact setRow_heap _ _ _ _ _ _ z1
              have FZ : Fr [G + 1] wr Z [G + 1] := by rw [← hZ]; exact setRow_fr _ _ _
              have hbw : Below w.heap.size w wr := Bt.out.trans (hbt.out.mono Bt.out.size)
              have BZ : Below w.heap.size w Z := hbw.trans (FZ.toBelow (fun k hk => by simp at hk; rw [hk, hG.out]; omega) hbw.size)
              have hOZ := hO.out.kept (row := some (G + 1)) ⟨FZ.os, FZ.tape, FZ.output, FZ.size, fun k hk hn => FZ.block k hk (by simp; intro e; exact hn (by rw [e]))⟩ (Or.inr (fun e => by
                have h9 := lt_of_blk t1.out
                rcases hO.out.2 with ⟨hv, _⟩ | ⟨g', cap, cur, hv, hb', _⟩
                · rw [hv] at e; simp [Value.ownBlock] at e
                · rw [hv] at e; simp [Value.ownBlock] at e; omega))
              refine bodyPost_ret (v := .tuple #[.agg #[.bool (behindP S Hs 5), .bool (aheadR S Hs 5)], .slice F m d, .int .i64 0]) (results_cell_tmp2 Try.results43 rfl (run_loadVar_mid (P := Try.prog) Z (G + 1) 0 81 _ _ (range_of Zg) Try.underlying81 rfl (by kernel_rfl))) rfl ?_
              rw [hcB.out, hcA.out, hcF.out, hcE.out]
              exact ⟨F, m, d, rfl, Rd.of_own hOZ, hFl.out, own_cap hOZ, BZ⟩
end Go.Proofs.Ytabcbpcfleociaa
