/- A book's Clone. (The drawn region is printed by gen_bcl.py.) -/
import Derived.Test.YtabcbpcfleociaaMChk
import Derived.Test.YtabcbpcfleociaaMVak
import Derived.Test.YtabcbpcfleociaaMRbC
import Derived.Maps.RangeWalk
import Derived.Test.YtabcbpcfleociaaMPlyW
namespace Go.Proofs.Ytabcbpcfleociaa
open Go.RowKit Go.Maps
attribute [local go_sem ↓] Go.wp_at_zero Go.wp_at_succ
set_option linter.unusedSimpArgs false
set_option linter.unusedVariables false
/-- The rows of a clone: those that were copied, and those that are to come. -/
def CRow (w : World) (no : List Nat) (S : Bk) (f : Lit → Value) (left : Lit → Bool) : Prop :=
  ∀ a : Int, (left (.int .i64 a) = true → ∃ A c, f (.int .i64 a) = .slice A 0 c) ∧ (left (.int .i64 a) = false → ∃ A c, f (.int .i64 a) = .slice A (ofA S a).length c ∧ (ofA S a).length ≤ c ∧ RdN no w 65 A (ofA S a).length ((ofA S a).flatMap knC))
theorem CRow.fr {w w' : World} {no own own' : List Nat} {S : Bk} {f : Lit → Value} {left : Lit → Bool} (h : CRow w no S f left) (hf : Fr own w w' own') (hs : ∀ k, k ∈ own → k ∈ no) : CRow w' no S f left := fun a =>
  ⟨(h a).1, fun hl => by obtain ⟨A, c, e, hc, hr⟩ := (h a).2 hl; exact ⟨A, c, e, hc, hr.fr hf hs (fun _ h => Or.inl h)⟩⟩
theorem sameKey_int (a b : Int) : (Lit.int .i64 a).sameKey (.int .i64 b) = decide (a = b) := by simp [Lit.sameKey]
set_option maxRecDepth 20000 in
set_option maxHeartbeats 8000000 in
theorem bclone_ (g : Nat) (S : Bk) (own R R' : List Nat) (w : World) (hB : BookAt w g S own R) (hR' : ∀ k, k ∈ R' → k < w.heap.size) :
    Calls Try.prog 22 #[.pointer (some ⟨g, 0, none⟩)] w fun e w' => ∃ g' own', e = .returned (.pointer (some ⟨g', 0, none⟩)) ∧ BookAt w' g' S own' R' ∧ (∀ k, k ∈ own' → w.heap.size ≤ k) ∧ Below w.heap.size w w' := by
  have HB := Lib.hid hB
  have hok := Lib.hid hB.ok
  have HR' := Lib.hid hR'
  clear hB hR'
  go_enter Try.func22, Try.ntmps22
  go_wp2_with fail
  refine (new_ w).mono ?_
  rintro e w1 ⟨g', own', rfl, hN, hnew, b1⟩
  obtain ⟨b', n', f', hv'⟩ := hN
  have hn0 : n' = 0 := Nat.le_zero.1 hv'.le
  subst hn0
  have HN := Lib.hid hv'
  have HNEW := Lib.hid hnew
  have B1 := Lib.hid b1
  clear hv' hnew b1
  obtain ⟨b, n, f, hv0⟩ := HB.out
  have HV := Lib.hid hv0
  have hv := hv0.below B1.out
  clear hv0
  obtain ⟨D0, hown, hIM, hat⟩ := hv.map
  have HO := Lib.hid hown
  have HAT := Lib.hid hat
  have hcell : w1.cell? ⟨g, 0, none⟩ = some (.map (some b)) := cell_blk hv.blk 0 rfl
  have hbg : Hid (g' ≠ b') := HN.out.ne
  have hgw : Hid (w.heap.size ≤ g' ∧ w.heap.size ≤ b') := ⟨HNEW.out g' HN.out.og, HNEW.out b' HN.out.ob⟩
  have hgw1 : Hid (g' < w1.heap.size ∧ b' < w1.heap.size) := ⟨HN.out.lt g' HN.out.og, HN.out.lt b' HN.out.ob⟩
  have hblow : Hid (b < w1.heap.size) := hown.lt
  clear hv hown hat hIM
  go_wp2_with (at_range; refine wpList_range_own _ rfl _ 103 rfl 3 102 keyedI Try.underlying103 _ b n _ rfl HO.out ?_; intro w0 hrg0 hg0 hs0)
  go_frame
  obtain ⟨r, hr⟩ : ∃ r, Hid (r = w1.heap.size) := ⟨_, Lib.hid rfl⟩
  rw [← hr.out] at hrg0 ⊢
  have B0 : Hid (Below w.heap.size w w0) := B1.out.trans ((Below.refl w1.heap.size w1).grown hg0 (Nat.le_refl _) (fun k hk => by cases hk) |>.mono B1.out.size)
  have hg0' : ∀ k, k < w1.heap.size → w0.heap[k]? = w1.heap[k]? := fun k hk => hg0.block k hk (by simp)
  have G0 : Hid (w0.heap[g']? = some (.cells #[.map (some b')] 105 (0, 0))) := (hg0' g' hgw1.out.1).trans HN.out.blk
  have M0 : Hid (MapV Try.prog 3 w0 b' 0 (.slice none 0 0) f') := HN.out.map.same (hg0' b' hgw1.out.2)
  have hnS : Hid (n ≤ S.length) := HV.out.le
  have C0 : Hid (CRow w0 (r :: g' :: b' :: R') S f' (Maps.has D0)) := fun a => by
    obtain ⟨A0, c0, e0, _, _⟩ := HN.out.rows a
    refine ⟨fun _ => ⟨A0, c0, e0⟩, fun hl => ?_⟩
    obtain ⟨A, c, e, hc, _⟩ := HV.out.rows a
    have h1 := HAT.out (.int .i64 a)
    rw [atKey_of_not_has hl] at h1
    injection h1 with h1
    rw [e] at h1
    injection h1 with _ h2 _
    have hz : ofA S a = [] := List.eq_nil_of_length_eq_zero h2.symm
    exact ⟨A0, c0, by rw [hz]; exact e0, by rw [hz]; exact Nat.zero_le _, by rw [hz]; exact ⟨Rd.nil _ _ _ _, fun b o h => absurd h (by simp)⟩⟩
  have hrw : Hid (w.heap.size ≤ r) := by rw [hr.out]; exact B1.out.size
  have hrn : Hid (r ≠ g' ∧ r ≠ b') := by have h1 := hgw1.out; have h2 := hr.out; unfold Hid; omega
  clear hcell hg0 hg0' hs0
  go_loopw [4] (fun _ wr => ∃ (left : Lit → Bool) (cnt nb : Nat) (f2 : Lit → Value), wr.ranges Try.prog 3 heldR b r n D0 left cnt ∧ nb + cnt ≤ n ∧ Hid (wr.heap[g']? = some (.cells #[.map (some b')] 105 (0, 0))) ∧ Hid (MapV Try.prog 3 wr b' nb (.slice none 0 0) f2) ∧ Hid (CRow wr (r :: g' :: b' :: R') S f2 left) ∧ Hid (Below w.heap.size w wr)) (fun _ wr => wr.rangeLeft b r)
  case atStart => exact ⟨_, _, 0, f', hrg0, by have := HO.out.size_le; omega, G0, M0, C0, B0⟩
  case round =>
    obtain ⟨left, cnt, nb, f2, hrg, hcn, HG, HM, HC, hb⟩ := hrel
    go_wp2_with (at_next; refine wpList_next_ranges _ rfl _ rfl 3 keyedI heldR (fun x : Int => Value.int .i64 x) (fun v : Value => v) (fun key kl h => by obtain ⟨x, h1, _⟩ := Maps.keyOf_int_inv Try.underlying3 h; exact ⟨x, h1⟩) (fun v y _ => ⟨v, rfl⟩) b r n _ _ _ rfl hrg ?_ ?_)
    · intro hc0 hl0
      go_wp2_with fail
      go_ret
      refine ⟨g', [g', b'], rfl, ⟨b', nb, f2, ⟨HG.out, HM.out, by have := hnS.out; omega, HV.out.sm, fun a => ?_, hok.out, by simp, by simp, fun k hk => ?_⟩⟩, fun k hk => ?_, hb.out⟩
      · obtain ⟨A, c, e, h1, h2⟩ := (HC.out a).2 (hl0 _)
        exact ⟨A, c, e, h1, h2.less (fun k hk => Or.inl (by simp at hk; rcases hk with h | h | h <;> simp [h]))⟩
      · simp at hk
        rcases hk with h | h
        · rw [h]; exact lt_of_blk HG.out
        · rw [h]; exact HM.out.lt
      · simp at hk
        rcases hk with h | h
        · rw [h]; exact hgw.out.1
        · rw [h]; exact hgw.out.2
    · intro x c kl ya yb w2 cnt2 hkx hlx hRc hat2 hrg2 hlt hg2 hs2 hen
      obtain ⟨x', hx1, rfl, _⟩ := Maps.keyOf_int_inv Try.underlying3 hkx
      injection hx1 with _ hx1
      subst hx1
      obtain ⟨A, cc, e, hcc, hrow⟩ := HV.out.rows x
      obtain ⟨L, hL⟩ : ∃ L, Hid ((ofA S x).length = L) := ⟨_, Lib.hid rfl⟩
      have hcv : c = .slice A L cc := by
        have h1 := hat2 (.held (.slice none 0 0))
        rw [HAT.out, e] at h1
        unfold heldR at hRc
        injection hRc with hRc
        injection hRc with hRc _
        rw [← hRc] at h1
        injection h1 with h1
        rw [← h1, hL.out]
      rw [hL.out] at hrow
      subst hcv
      have HKX := Lib.hid hkx
      have HHEN := Lib.hid hen
      have HRG2 := Lib.hid hrg2
      have HLT := Lib.hid hlt
      have hG2 : Hid (w2.heap[g']? = some (.cells #[.map (some b')] 105 (0, 0))) := (hg2.block g' (lt_of_blk HG.out) (by have := hrn.out.1; simp; omega)).trans HG.out
      have hM2 : Hid (MapV Try.prog 3 w2 b' nb (.slice none 0 0) f2) := HM.out.same (hg2.block b' HM.out.lt (by have := hrn.out.2; simp; omega))
      have FG2 : Hid (Fr [r] wr w2 [r]) := Fr.one hg2
      have hLS : Hid (L ≤ 1048576) := by rw [← hL.out]; exact Nat.le_trans (ofA_len _ _) HV.out.sm
      have Bw2 : Hid (Below w.heap.size w w2) := hb.out.trans (FG2.out.toBelow (fun k hk => by simp at hk; rw [hk]; exact hrw.out) hb.out.size)
      obtain ⟨X, hX⟩ : ∃ W, Hid (W = w2.drew) := ⟨_, Lib.hid rfl⟩
      have dX : Hid (Below w2.heap.size w2 X) := by rw [hX.out]; exact below_drew (Below.refl _ _)
      have hrow0 : Hid (RdN (own ++ R) w 65 A L ((ofA S x).flatMap knC)) := hrow
      have hrg0L : Hid (wr.rangeLeft b r = cnt) := hrg.left_eq
      clear hrow hat2 hRc e hkx hrg hlt hg2 hs2
      go_wp2_with fail
      clear hen
      have BwX : Hid (Below w.heap.size w X) := Bw2.out.trans (dX.out.mono Bw2.out.size)
      have XG : Hid (X.heap[g']? = some (.cells #[.map (some b')] 105 (0, 0))) := (dX.out.block g' (lt_of_blk hG2.out)).trans hG2.out
      have XM : Hid (MapV Try.prog 3 X b' nb (.slice none 0 0) f2) := hM2.out.same (dX.out.block b' hM2.out.lt)
      have hone : Hid (∀ v ∈ (ofA S x).flatMap knC, v.oneCell' = true) := fun v hv => by
        obtain ⟨k, _, hk⟩ := List.mem_flatMap.1 hv
        exact knC_one k v hk
      have hrowX : Hid (Rd X X.heap.size 65 A L ((ofA S x).flatMap knC)) := (hrow0.out.1.below BwX.out).more BwX.out.size
      obtain ⟨i65, z65, q1, q2, q3, q4, q5⟩ := info65z
      have hi65 : Hid ((Try.prog.info? 114).map (fun i => (i.zero, i.size, i.bytes)) = some (some z65, 65, 72)) := by unfold Hid; rw [q1]; simp [q2, q3, q4]
      have hSX : X.cell? ⟨g', 0, none⟩ = some (.map (some b')) := cell_blk XG.out 0 rfl
      refine wp_region_noPanic ?_
      refine wp_region_held_drew (S := fun w' => w'.cell? ⟨g', 0, none⟩ = some (.map (some b'))) (by kernel_rfl) (by rw [← hX.out]; exact hSX) (fun hS => ?_)
      rw [← hX.out]
      clear hS
      have hS : X.cell? ⟨g', 0, none⟩ = some (.map (some b')) := hSX
      refine wpAnyH_take (i := 0) (v := ?v0) rfl (by kernel_rfl) (by kernel_rfl) (by kernel_rfl) (fun _ _ _ h => h) (Or.inl ⟨by rfl, ?hy0⟩) hS ?rest0
      case hy0 => (intro w' hSw; go_simp; first | done | with_reducible rfl)
      try simp only [Act.put, List.getElem_toArray, List.getElem_cons_zero, List.getElem_cons_succ, List.setIfInBounds_toArray, List.set_cons_zero, List.set_cons_succ]
      refine wpAnyH_take (i := 1) (v := ?v1) rfl (by kernel_rfl) (by kernel_rfl) (by kernel_rfl) (fun _ _ _ h => h) (Or.inl ⟨by rfl, ?hy1⟩) hS ?rest1
      case hy1 => (intro w' hSw; go_simp; first | done | with_reducible rfl)
      try simp only [Act.put, List.getElem_toArray, List.getElem_cons_zero, List.getElem_cons_succ, List.setIfInBounds_toArray, List.set_cons_zero, List.set_cons_succ]
      refine wpAnyH_take (i := 2) (v := ?v2) rfl (by kernel_rfl) (by kernel_rfl) (by kernel_rfl) (fun _ _ _ h => h) (Or.inl ⟨by rfl, ?hy2⟩) hS ?rest2
      case hy2 => (intro w' hSw; go_simp; first | done | with_reducible rfl)
      try simp only [Act.put, List.getElem_toArray, List.getElem_cons_zero, List.getElem_cons_succ, List.setIfInBounds_toArray, List.set_cons_zero, List.set_cons_succ]
      refine wpAnyH_take (i := 3) (v := .map (some b')) rfl (by kernel_rfl) (by kernel_rfl) (by kernel_rfl) (fun _ _ _ h => h) (Or.inl ⟨by rfl, ?hy3⟩) hS ?rest3
      case hy3 => (intro w' hSw; have c0 := hSw; go_simp; first | done | with_reducible rfl)
      try simp only [Act.put, List.getElem_toArray, List.getElem_cons_zero, List.getElem_cons_succ, List.setIfInBounds_toArray, List.set_cons_zero, List.set_cons_succ]
      refine wpAnyH_take (i := 4) (v := ?v4) rfl (by kernel_rfl) (by kernel_rfl) (by kernel_rfl) (fun _ _ _ h => h) (Or.inl ⟨by rfl, ?hy4⟩) hS ?rest4
      case hy4 => (intro w' hSw; go_simp; first | done | with_reducible rfl)
      try simp only [Act.put, List.getElem_toArray, List.getElem_cons_zero, List.getElem_cons_succ, List.setIfInBounds_toArray, List.set_cons_zero, List.set_cons_succ]
      refine wpAnyH_take (i := 6) (v := ?v6) rfl (by kernel_rfl) (by kernel_rfl) (by kernel_rfl) (fun _ _ _ h => h) (Or.inl ⟨by rfl, ?hy6⟩) hS ?rest6
      case hy6 => (intro w' hSw; go_simp; first | done | with_reducible rfl)
      try simp only [Act.put, List.getElem_toArray, List.getElem_cons_zero, List.getElem_cons_succ, List.setIfInBounds_toArray, List.set_cons_zero, List.set_cons_succ]
      refine wpAnyH_ready (rs := [5]) (by kernel_rfl) (by simp) ?_
      refine AllReadyH.cons rfl (fun K hK => ?_) AllReadyH.nil
      go_simp
      obtain ⟨U, hU⟩ : ∃ U, Hid (U = X.alloc (.cells #[] 114)) := ⟨_, Lib.hid rfl⟩
      have bU : Hid (Below X.heap.size X U) := by rw [hU.out]; exact (Below.refl _ _).alloc (Nat.le_refl _) _
      have lU : Hid (U.ownsRow X.heap.size 114 65 (.slice (some ⟨X.heap.size, 0, none⟩) 0 0) 0 []) := by rw [hU.out]; exact World.ownsRow_lit X #[] 0 (Nat.le_refl _) (by simp [maxLen]) rfl
      have hSU : U.cell? ⟨g', 0, none⟩ = some (.map (some b')) := cell_blk ((bU.out.block g' (lt_of_blk XG.out)).trans XG.out) 0 rfl
      rw [← hU.out]
      refine hK.out _ _ hSU ?_
      intro hS
      clear hK K hS
      try simp only [Act.put, List.getElem_toArray, List.getElem_cons_zero, List.getElem_cons_succ, List.setIfInBounds_toArray, List.set_cons_zero, List.set_cons_succ]
      have hS := hSU
      refine wpAnyH_ready (rs := [7]) (by kernel_rfl) (by simp) ?_
      refine AllReadyH.cons rfl (fun K hK => ?_) AllReadyH.nil
      have hrU : Hid (Rd U U.heap.size 65 A L ((ofA S x).flatMap knC)) := (hrowX.out.below bU.out).more bU.out.size
      refine step_app (.tmp 24) (.tmp 25) 102 rfl rfl X.heap.size 114 65 72 z65 Try.underlying102 hi65.out q5 (by decide) _ 0 [] rfl lU.out _ A L cc _ rfl hrU.out hone.out (by have := hLS.out; simp only [maxLen]; omega) (by have := hLS.out; omega) bU.out.size ?_
      intro A' cA v o' g6 k6
      simp only [Nat.zero_add, List.nil_append] at o' k6 ⊢
      have OV := Lib.hid o'
      have bV : Hid (Below X.heap.size X v) := bU.out.trans (below_grown g6 (own_block_ge2 lU.out) bU.out.size)
      have hSV : v.cell? ⟨g', 0, none⟩ = some (.map (some b')) := cell_blk ((bV.out.block g' (lt_of_blk XG.out)).trans XG.out) 0 rfl
      refine hK.out _ _ hSV ?_
      intro hS
      clear hK K hS o' g6 k6
      try simp only [Act.put, List.getElem_toArray, List.getElem_cons_zero, List.getElem_cons_succ, List.setIfInBounds_toArray, List.set_cons_zero, List.set_cons_succ]
      have hS := hSV
      refine wpAnyH_ready (rs := [8]) (by kernel_rfl) (by simp) ?_
      refine AllReadyH.cons rfl (fun K hK => ?_) AllReadyH.nil
      have VM : Hid (MapV Try.prog 3 v b' nb (.slice none 0 0) f2) := XM.out.same (bV.out.block b' XM.out.lt)
      refine step_updV (.tmp 22) (.tmp 23) (.tmp 26) 103 rfl rfl 3 102 keyedI Try.underlying103 (.slice none 0 0) b' nb f2 rfl VM.out (by have h1 := hcn; have h2 := hnS.out; have h3 := HV.out.sm; simp only [maxLen]; omega) (.int .i64 x) (.slice A' L cA) (.int .i64 x) rfl rfl HKX.out ?_
      intro wz mW gV
      have gVz : Fr [b'] v wz [b'] := Fr.one gV
      have hSW : wz.cell? ⟨g', 0, none⟩ = some (.map (some b')) := cell_blk ((gVz.block g' (Nat.lt_of_lt_of_le (lt_of_blk XG.out) bV.out.size) (by simp; exact hbg.out)).trans ((bV.out.block g' (lt_of_blk XG.out)).trans XG.out)) 0 rfl
      refine hK.out _ _ hSW ?_
      intro hS
      clear hK K hS
      try simp only [Act.put, List.getElem_toArray, List.getElem_cons_zero, List.getElem_cons_succ, List.setIfInBounds_toArray, List.set_cons_zero, List.set_cons_succ]
      have hS := hSW
      refine wpAnyH_done (by kernel_rfl) (NoPanic.normal ?_) _
      have hRG := Lib.hid ((HRG2.out.kept (row := none) ⟨(dX.out.trans (bV.out.mono dX.out.size)).os, (dX.out.trans (bV.out.mono dX.out.size)).tape, (dX.out.trans (bV.out.mono dX.out.size)).output, (dX.out.trans (bV.out.mono dX.out.size)).size, fun k hk _ => (dX.out.trans (bV.out.mono dX.out.size)).block k hk⟩ (by simp) (by simp)).kept (row := some b') gV (fun e => by injection e with e; have h1 := hgw.out.2; have h2 := HV.out.lt b HV.out.ob; omega) (fun e => by injection e with e; exact hrn.out.2 e))
      have gX : Fr [b'] X wz [b'] := (Fr.below bV.out).trans gVz
      have hrX : r < X.heap.size ∧ g' < X.heap.size ∧ b' < X.heap.size := ⟨Nat.lt_of_lt_of_le HRG2.out.lt dX.out.size, lt_of_blk XG.out, XM.out.lt⟩
      have hA' : L ≤ cA ∧ RdN (r :: g' :: b' :: R') wz 65 A' L ((ofA S x).flatMap knC) := by
        refine ⟨own_cap OV.out, RdN.fr (no := r :: g' :: b' :: R') ⟨Rd.of_own OV.out, fun b o h0 e hm => ?_⟩ gVz (fun k hk => by simp at hk; simp [hk]) (fun _ h => Or.inl h)⟩
        obtain ⟨g2, e', h3, _⟩ := own_addr OV.out h0
        rw [e] at e'; injection e' with e'; injection e' with e5
        have h7 := BwX.out.size
        simp only [List.mem_cons] at hm
        rcases hm with h | h | h | h
        · omega
        · omega
        · omega
        · have := HR'.out b h; omega
      have hGz : Hid (wz.heap[g']? = some (.cells #[.map (some b')] 105 (0, 0))) := (gX.block g' (lt_of_blk XG.out) (by simp; exact hbg.out)).trans XG.out
      have Bwz : Hid (Below w.heap.size w wz) := BwX.out.trans (gX.toBelow (fun k hk => by simp at hk; rw [hk]; exact hgw.out.2) BwX.out.size)
      have hCz : Hid (CRow wz (r :: g' :: b' :: R') S (updV f2 (.int .i64 x) (.slice A' L cA)) (fun z => left z && !z.sameKey (.int .i64 x))) := by
        have hfr : Fr [r] wr X [r] := FG2.out.trans (Fr.below dX.out)
        intro a
        by_cases hax : a = x
        · subst hax
          refine ⟨fun h => ?_, fun _ => ?_⟩
          · simp [sameKey_int] at h
          · rw [updV_same]
            refine ⟨A', cA, by rw [hL.out], by rw [hL.out]; exact hA'.1, by rw [hL.out]; exact hA'.2⟩
        · rw [updV_other _ _ (fun e => hax (by injection e))]
          have hs : (Lit.int .i64 a).sameKey (.int .i64 x) = false := by rw [sameKey_int]; exact decide_eq_false hax
          simp only [hs, Bool.not_false, Bool.and_true]
          refine ⟨(HC.out a).1, fun h => ?_⟩
          obtain ⟨A3, c3, e3, h3, r3⟩ := (HC.out a).2 h
          refine ⟨A3, c3, e3, h3, ?_⟩
          exact (r3.fr hfr (fun k hk => by simp at hk; simp [hk]) (fun _ h => Or.inl h)).fr gX (fun k hk => by simp at hk; simp [hk]) (fun _ h => Or.inl h)
      go_wp2_with fail
      go_roundw
      case rel => exact ⟨_, cnt2, nb + 1, _, hRG.out, by have := HLT.out; omega, hGz, mW, hCz, Bwz⟩
      case measure => rw [hRG.out.left_eq, hrg0L.out]; exact HLT.out
end Go.Proofs.Ytabcbpcfleociaa

/- The ideal suite's Clone. (The drawn region is printed by gen_icl.py.) -/
namespace Go.Proofs.Ytabcbpcfleociaa
open Go.RowKit Go.Maps
attribute [local go_sem ↓] Go.wp_at_zero Go.wp_at_succ
set_option linter.unusedSimpArgs false
set_option linter.unusedVariables false
theorem setCell_same {w : World} {g j : Nat} {v : Value} {cs : Array Value} {t : TypeId} {f : Nat × Nat} (h : w.heap[g]? = some (.cells cs t f)) (hv : cs[j]? = some v) : w.setCell ⟨g, j, none⟩ v = w := by
  have hc : cs.setIfInBounds j v = cs := by
    apply Array.ext
    · simp
    · intro i h1 h2
      by_cases e : j = i
      · subst e
        rw [Array.getElem_setIfInBounds_self]
        rw [Array.getElem?_eq_getElem h2] at hv
        injection hv with hv
        exact hv.symm
      · rw [Array.getElem_setIfInBounds_ne _ e]
  have e : (w.setCell ⟨g, j, none⟩ v).heap = w.heap := by
    apply Array.ext
    · simp [World.setCell]
    · intro i h1 h2
      by_cases e : g = i
      · subst e
        have h3 := heap_set h (j := j) v
        rw [hc, ← h] at h3
        rw [Array.getElem?_eq_getElem h1, Array.getElem?_eq_getElem h2] at h3
        injection h3
      · have h3 := Below.heap_setCell w ⟨g, j, none⟩ v i (fun e' => e (by simpa using e'.symm))
        rw [Array.getElem?_eq_getElem h1, Array.getElem?_eq_getElem h2] at h3
        injection h3
  cases w
  simp only [World.setCell] at e ⊢
  rw [e]
theorem note_take {hs : List (List UInt8)} {i : Nat} {h : List UInt8} (hn : hs.Nodup) (hi : hs[i]? = some h) : note (hs.take i) h = hs.take (i + 1) := by
  have hni : h ∉ hs.take i := by
    intro hm
    obtain ⟨j, hj⟩ := List.getElem?_of_mem hm
    have hji : j < i := by
      rcases Nat.lt_or_ge j i with h1 | h1
      · exact h1
      · rw [List.getElem?_eq_none (by simp; omega)] at hj; cases hj
    rw [List.getElem?_take_of_lt hji] at hj
    have hil := (List.getElem?_eq_some_iff.1 hi).1
    have := (List.getElem?_inj (List.getElem?_eq_some_iff.1 hj).1 hn).1 (hj.trans hi.symm)
    omega
  unfold note
  rw [if_neg hni, List.take_add_one, hi]
  rfl
theorem two_cells_row (Qs : List (Option Addr × Nat)) : termCells Qs = Qs.flatMap fun q => [Value.int .u8 104, .slice q.1 1 q.2] := rfl
theorem RdL.up {w : World} {B B' n : Nat} {A : Option Addr} {ls : List (List UInt8)} (h : RdL w B A n ls) (hB : B ≤ B') : RdL w B' A n ls := by
  refine ⟨h.1, fun i l hl => ?_⟩
  obtain ⟨qb, qo, A', c, e, hb, hc, hr, hle⟩ := h.2 i l hl
  exact ⟨qb, qo, A', c, e, by omega, hc, hr.more hB, hle⟩
set_option maxRecDepth 20000 in
set_option maxHeartbeats 8000000 in
theorem iclone_ (g : Nat) (hs : List (List UInt8)) (own R R' : List Nat) (w : World) (hI : IdealAt w g hs own R) (hnd : hs.Nodup) (hhl : ∀ h ∈ hs, h.length ≤ 1000000) (hn : hs.length ≤ 1000000) (hR' : ∀ k, k ∈ R' → k < w.heap.size) :
    Calls Try.prog 41 #[.pointer (some ⟨g, 0, none⟩)] w fun e w' => ∃ g' own', e = .returned (.pointer (some ⟨g', 0, none⟩)) ∧ IdealAt w' g' hs own' R' ∧ (∀ k, k ∈ own' → w.heap.size ≤ k) ∧ Below w.heap.size w w' := by
  have HI := Lib.hid hI
  have HND := Lib.hid hnd
  have HHL := Lib.hid hhl
  have HR' := Lib.hid hR'
  obtain ⟨N, hN⟩ : ∃ N, Hid (hs.length = N) := ⟨_, Lib.hid rfl⟩
  rw [hN.out] at hn
  have HN := Lib.hid hn
  clear hI hnd hhl hR'
  go_enter Try.func41, Try.ntmps41
  go_wp2_with fail
  refine (made_ g hs own R w HI.out).mono ?_
  rintro e w0 ⟨rfl, rfl⟩
  go_wp2_with fail
  refine (newIdeal_ w0).mono ?_
  rintro e w1 ⟨g', own', rfl, hN', hnew, b1⟩
  have HN' : Hid (IdealAt w1 g' [] own' R') := hN'.anyR R'
  have HNEW := Lib.hid hnew
  have B1 := Lib.hid b1
  obtain ⟨A, c, b, Qs, f, hv⟩ := HI.out
  have HV := Lib.hid hv
  have hblk1 : w1.heap[g]? = some (.cells #[.slice A N c, .map (some b), .int .i64 0] 120 (0, 0)) := (b1.block g (hv.lt g hv.og)).trans (by have := hv.blk; rwa [hN.out] at this)
  have hd : w1.cell? ⟨g, 2, none⟩ = some (.int .i64 0) := cell_blk hblk1 2 rfl
  have ht : w1.cell? ⟨g, 0, none⟩ = some (.slice A N c) := cell_blk hblk1 0 rfl
  obtain ⟨A', c', b', Qs', f', hv'⟩ := HN'.out
  have hd1 : w1.cell? ⟨g', 2, none⟩ = some (.int .i64 0) := cell_blk hv'.blk 2 rfl
  have hd2 := frozen_blk hv'.blk 2
  have hsame : w1.setCell ⟨g', 2, none⟩ (.int .i64 0) = w1 := setCell_same hv'.blk rfl
  clear hN' hnew b1 hv'
  go_wp2_with fail
  clear hd ht hd1 hd2 hsame hblk1
  go_loopw [23] (fun x23 wr => ∃ (i : Nat) (o2 : List Nat), x23 = .int .i64 i ∧ i ≤ N ∧ Hid (IdealAt wr g' (hs.take i) o2 R') ∧ Hid (∀ k, k ∈ o2 → w0.heap.size ≤ k) ∧ Hid (Below w0.heap.size w0 wr)) (fun x23 _ => N - (intOf x23).toNat)
  case atStart => exact ⟨0, own', rfl, by omega, HN'.out, HNEW.out, B1.out⟩
  case round =>
    obtain ⟨i, o2, rfl, hi, HJ, HO2, hb⟩ := hrel
    by_cases hin : i < N
    · have hin' : (i : Int) < (N : Int) := by omega
      have hi0 : (0 : Int) ≤ (i : Int) := by omega
      have e8 : IntKind.i64.wrap ((i : Int) + 1) = ((i + 1 : Nat) : Int) := by rw [IntWalk.i64_in _ (by omega)]; omega
      obtain ⟨h, hh⟩ : ∃ h, hs[i]? = some h := ⟨_, List.getElem?_eq_getElem (by rw [hN.out]; exact hin)⟩
      obtain ⟨q, hq⟩ : ∃ q, Qs[i]? = some q := ⟨_, List.getElem?_eq_getElem (by rw [HV.out.qs, hN.out]; exact hin)⟩
      have hpart := HV.out.parts i q h hq hh
      have hnt := Lib.hid (note_take HND.out hh)
      have hlh := Lib.hid (HHL.out h (List.mem_of_getElem? hh))
      obtain ⟨rb, ro, rfl, hrb, hrg⟩ := (Rd.of_own HV.out.row).elem (f := fun q : Option Addr × Nat => [Value.int .u8 104, .slice q.1 1 q.2]) (fun _ _ => rfl) HV.out.qs hq
      have c0 : wr.cell? ⟨rb, ro + i * 2, none⟩ = some (.int .u8 104) := (World.cell?_of_block (a := ⟨rb, ro + i * 2 + 0, none⟩) (hb.out.block rb hrb)).trans (hrg 0 _ rfl)
      have c1 : wr.cell? ⟨rb, ro + i * 2 + 1, none⟩ = some (.slice q.1 1 q.2) := (World.cell?_of_block (a := ⟨rb, ro + i * 2 + 1, none⟩) (hb.out.block rb hrb)).trans (hrg 1 _ rfl)
      obtain ⟨q1, q2⟩ := q
      have HRL : Hid (RdL w0 w0.heap.size q1 1 [h]) := hpart.rdl
      clear hpart hrg hrb hh hq
      obtain ⟨D, hD⟩ : ∃ D, Hid (D = wr.alloc (.cells #[.int .u8 104, .slice q1 1 q2] 68)) := ⟨_, Lib.hid rfl⟩
      obtain ⟨G5, hG5⟩ : ∃ g, Hid (g = wr.heap.size) := ⟨_, Lib.hid rfl⟩
      have bD : Hid (Below wr.heap.size wr D) := by rw [hD.out]; exact (Below.refl _ _).alloc (Nat.le_refl _) _
      have D5 : Hid (D.heap[G5]? = some (.cells #[.int .u8 104, .slice q1 1 q2] 68 (0, 0))) := by unfold Hid; rw [hD.out, hG5.out]; exact heap_alloc_new _ _
      go_wp2_with fail
      rw [← hD.out, ← hG5.out]
      clear c0 c1
      obtain ⟨X, hX⟩ : ∃ W, Hid (W = D.drew) := ⟨_, Lib.hid rfl⟩
      have dX : Hid (Below D.heap.size D X) := by rw [hX.out]; exact below_drew (Below.refl _ _)
      have brX : Hid (Below wr.heap.size wr X) := bD.out.trans (dX.out.mono bD.out.size)
      have bwX : Hid (Below w0.heap.size w0 X) := hb.out.trans (brX.out.mono hb.out.size)
      have JX := Lib.hid (HJ.out.below brX.out)
      have X5 : Hid (X.heap[G5]? = some (.cells #[.int .u8 104, .slice q1 1 q2] 68 (0, 0))) := (dX.out.block G5 (lt_of_blk D5.out)).trans D5.out
      have hSX : X.cell? ⟨G5, 0, none⟩ = some (.int .u8 104) ∧ X.cell? ⟨G5, 1, none⟩ = some (.slice q1 1 q2) := ⟨cell_blk X5.out 0 rfl, cell_blk X5.out 1 rfl⟩
      have hG5o : Hid (G5 ∉ o2) := fun hm => by have h1 := note_lt HJ.out G5 hm; have h2 := hG5.out; omega
      have RLX : Hid (RdL X X.heap.size q1 1 [h]) := (HRL.out.to bwX.out).up bwX.out.size
      refine wp_region_noPanic ?_
      refine wp_region_held_drew (S := fun w' => w'.cell? ⟨G5, 0, none⟩ = some (.int .u8 104) ∧ w'.cell? ⟨G5, 1, none⟩ = some (.slice q1 1 q2)) (by kernel_rfl) (by rw [← hX.out]; exact hSX) (fun hS => ?_)
      rw [← hX.out]
      clear hS
      have hS : X.cell? ⟨G5, 0, none⟩ = some (.int .u8 104) ∧ X.cell? ⟨G5, 1, none⟩ = some (.slice q1 1 q2) := hSX
      refine wpAnyH_take (i := 0) (v := ?v0) rfl (by kernel_rfl) (by kernel_rfl) (by kernel_rfl) (fun _ _ _ h => h) (Or.inl ⟨by rfl, ?hy0⟩) hS ?rest0
      case hy0 => (intro w' hSw; go_simp; first | done | with_reducible rfl)
      try simp only [Act.put, List.getElem_toArray, List.getElem_cons_zero, List.getElem_cons_succ, List.setIfInBounds_toArray, List.set_cons_zero, List.set_cons_succ]
      refine wpAnyH_take (i := 1) (v := ?v1) rfl (by kernel_rfl) (by kernel_rfl) (by kernel_rfl) (fun _ _ _ h => h) (Or.inl ⟨by rfl, ?hy1⟩) hS ?rest1
      case hy1 => (intro w' hSw; go_simp; first | done | with_reducible rfl)
      try simp only [Act.put, List.getElem_toArray, List.getElem_cons_zero, List.getElem_cons_succ, List.setIfInBounds_toArray, List.set_cons_zero, List.set_cons_succ]
      refine wpAnyH_take (i := 2) (v := ?v2) rfl (by kernel_rfl) (by kernel_rfl) (by kernel_rfl) (fun _ _ _ h => h) (Or.inl ⟨by rfl, ?hy2⟩) hS ?rest2
      case hy2 => (intro w' hSw; go_simp; first | done | with_reducible rfl)
      try simp only [Act.put, List.getElem_toArray, List.getElem_cons_zero, List.getElem_cons_succ, List.setIfInBounds_toArray, List.set_cons_zero, List.set_cons_succ]
      refine wpAnyH_take (i := 3) (v := .agg #[.int .u8 104, .slice q1 1 q2]) rfl (by kernel_rfl) (by kernel_rfl) (by kernel_rfl) (fun _ _ _ h => h) (Or.inl ⟨by rfl, ?hy3⟩) hS ?rest3
      case hy3 => (intro w' hSw; obtain ⟨c0, c1⟩ := hSw; go_simp; first | done | with_reducible rfl)
      try simp only [Act.put, List.getElem_toArray, List.getElem_cons_zero, List.getElem_cons_succ, List.setIfInBounds_toArray, List.set_cons_zero, List.set_cons_succ]
      refine wpAnyH_ready (rs := [4]) (by kernel_rfl) (by simp) ?_
      refine AllReadyH.cons rfl (fun K hK => ?_) AllReadyH.nil
      go_simp
      refine (number_ g' (hs.take i) o2 R' q1 q2 h X JX.out RLX.out hlh.out (by rw [List.length_take]; omega) (fun k hk => Nat.lt_of_lt_of_le (HR'.out k hk) bwX.out.size)).mono ?_
      rintro e v ⟨o3, rfl, j3, f3⟩
      have JV := Lib.hid j3
      have OV : Hid (∀ k, k ∈ o3 → w0.heap.size ≤ k) := fun k hk => by
        rcases f3.sub k hk with h1 | h1
        · exact HO2.out k h1
        · exact Nat.le_trans bwX.out.size h1
      have BV : Hid (Below w0.heap.size w0 v) := bwX.out.trans (f3.toBelow (fun k hk => HO2.out k hk) bwX.out.size)
      have hSV : v.cell? ⟨G5, 0, none⟩ = some (.int .u8 104) ∧ v.cell? ⟨G5, 1, none⟩ = some (.slice q1 1 q2) := by
        have h5 := (f3.block G5 (lt_of_blk X5.out) hG5o.out).trans X5.out
        exact ⟨cell_blk h5 0 rfl, cell_blk h5 1 rfl⟩
      clear j3 f3
      go_wp2_with fail
      refine hK.out _ _ hSV ?_
      intro hS
      clear hK K hS
      try simp only [Act.put, List.getElem_toArray, List.getElem_cons_zero, List.getElem_cons_succ, List.setIfInBounds_toArray, List.set_cons_zero, List.set_cons_succ]
      refine wpAnyH_done (by kernel_rfl) (NoPanic.normal ?_) _
      go_wp2_with fail
      go_roundw
      case rel => exact ⟨i + 1, o3, by go_num, hin, by rw [← hnt.out]; exact JV, OV, BV⟩
      case measure => simp only [intOf]; omega
    · have hiS : Hid (i = N) := (by omega : i = N)
      have hin' : ¬ (i : Int) < (N : Int) := by omega
      go_wp2_with fail
      go_ret
      have h1 := HJ.out
      rw [List.take_of_length_le (by rw [hN.out, hiS.out]; exact Nat.le_refl _)] at h1
      exact ⟨g', rfl, o2, h1, HO2.out, hb.out⟩
end Go.Proofs.Ytabcbpcfleociaa

/- The law ChainClones, walked. (Printed by gen_cln.py.) -/
namespace Go.Proofs.Ytabcbpcfleociaa
open Go.RowKit
attribute [local go_sem ↓] Go.wp_at_zero Go.wp_at_succ
set_option linter.unusedSimpArgs false
set_option linter.unusedVariables false
theorem note_nodup {hs : List (List UInt8)} (h : hs.Nodup) (b : List UInt8) : (note hs b).Nodup := by
  unfold note
  split
  · exact h
  · rename_i hb
    rw [List.nodup_append]
    exact ⟨h, by simp, fun x hx y hy => by simp at hy; subst hy; exact fun e => hb (e ▸ hx)⟩
theorem checkH_nodup {S : Bk} {hs : List (List UInt8)} (h : hs.Nodup) (l : Ln) : (checkH S hs l).Nodup := by
  unfold checkH
  split
  · exact note_nodup h _
  · exact h
theorem takeH_nodup {S : Bk} {hs : List (List UInt8)} (h : hs.Nodup) (l : Ln) : (takeH S hs l).Nodup := by
  unfold takeH
  split
  · exact note_nodup h _
  · exact checkH_nodup h l
theorem Reach.nodup {n : Nat} {S : Bk} {hs : List (List UInt8)} (h : Reach n S hs) : hs.Nodup := by
  induction h with
  | nil => exact List.nodup_nil
  | step l h ih => exact takeH_nodup (checkH_nodup ih l) l
theorem note_all {hs : List (List UInt8)} {b : List UInt8} (h : ∀ x ∈ hs, x.length ≤ 100) (hb : b.length ≤ 100) : ∀ x ∈ note hs b, x.length ≤ 100 := by
  unfold note
  split
  · exact h
  · intro x hx
    rcases List.mem_append.1 hx with h1 | h1
    · exact h x h1
    · simp at h1; rw [h1]; exact hb
theorem checkH_all {S : Bk} {hs : List (List UInt8)} {l : Ln} (h : ∀ x ∈ hs, x.length ≤ 100) : ∀ x ∈ checkH S hs l, x.length ≤ 100 := by
  unfold checkH
  split
  · rename_i hr; exact note_all h (bytesL_len hr.1)
  · exact h
theorem takeH_all {S : Bk} {hs : List (List UInt8)} {l : Ln} (h : ∀ x ∈ hs, x.length ≤ 100) : ∀ x ∈ takeH S hs l, x.length ≤ 100 := by
  unfold takeH
  split
  · rename_i hr; exact note_all h (bytesL_len (checkE_right hr))
  · exact checkH_all h
theorem Reach.short {n : Nat} {S : Bk} {hs : List (List UInt8)} (h : Reach n S hs) : ∀ x ∈ hs, x.length ≤ 100 := by
  induction h with
  | nil => intro x hx; cases hx
  | step l h ih => exact takeH_all (checkH_all ih)
theorem small_any (A : Option Addr) (n c : Nat) (ls : List Dn) (w : World) (hr : RdD w w.heap.size A n ls) (hn : n ≤ 140737488351232) :
    Calls Try.prog 14 #[.slice A n c] w fun e w' => (∃ b, e = .returned (.bool b) ∧ (b = true → n ≤ 40)) ∧ Below w.heap.size w w' := small_ A n c ls w hr hn
set_option maxRecDepth 20000 in
set_option maxHeartbeats 16000000 in
theorem chainClones_walk (A : Option Addr) (n c : Nat) (ls : List Dn) (Aa : Option Addr) (na ca : Nat) (la : List Dn) (Ab : Option Addr) (nb cb : Nat) (lb : List Dn) (w : World) (hr : RdD w w.heap.size A n ls) (hc : n ≤ c) (hq : n ≤ 140737488351232 ∧ Reaches w A n) (hra : RdD w w.heap.size Aa na la) (hca : na ≤ ca) (hqa : na ≤ 140737488351232 ∧ Reaches w Aa na) (hrb : RdD w w.heap.size Ab nb lb) (hcb : nb ≤ cb) (hqb : nb ≤ 140737488351232 ∧ Reaches w Ab nb) :
    Calls Try.prog 7 #[.slice A n c, .slice Aa na ca, .slice Ab nb cb] w fun e w' => e = .returned (.bool true) ∧ Below w.heap.size w w' := by
  have HR := Lib.hid hr
  have HQ := Lib.hid hq
  have HRa := Lib.hid hra
  have HQa := Lib.hid hqa
  have HRb := Lib.hid hrb
  have HQb := Lib.hid hqb
  clear hr hq hra hqa hrb hqb
  go_enter Try.func7, Try.ntmps7
  go_wp2_with fail
  refine (small_ A n c ls w ((HR.out.to (Below.refl w.heap.size w)).more (Below.refl w.heap.size w).size) HQ.out.1).mono ?_
  rintro e w1 ⟨⟨b, rfl, hb40⟩, b1⟩
  have B1 := Lib.hid ((Below.refl w.heap.size w).trans (b1.mono (Below.refl w.heap.size w).size))
  clear b1
  rcases b with _ | _
  · clear hb40
    go_wp2_with fail
    refine (awake_ w1).mono ?_
    rintro e wz ⟨rfl, bz⟩
    have BZ := Lib.hid (B1.out.trans (bz.mono B1.out.size))
    clear bz
    go_wp2_with fail
    go_ret
    exact ⟨rfl, BZ.out⟩
  · have HN : Hid (n ≤ 40) := hb40 rfl
    clear hb40
    go_wp2_with fail
    refine (small_ Aa na ca la w1 ((HRa.out.to B1.out).more B1.out.size) HQa.out.1).mono ?_
    rintro e w2 ⟨⟨b, rfl, hb40⟩, b1⟩
    have B2 := Lib.hid (B1.out.trans (b1.mono B1.out.size))
    clear b1
    rcases b with _ | _
    · clear hb40
      go_wp2_with fail
      refine (awake_ w2).mono ?_
      rintro e wz ⟨rfl, bz⟩
      have BZ := Lib.hid (B2.out.trans (bz.mono B2.out.size))
      clear bz
      go_wp2_with fail
      go_ret
      exact ⟨rfl, BZ.out⟩
    · have HNa : Hid (na ≤ 40) := hb40 rfl
      clear hb40
      go_wp2_with fail
      refine (small_ Ab nb cb lb w2 ((HRb.out.to B2.out).more B2.out.size) HQb.out.1).mono ?_
      rintro e w3 ⟨⟨b, rfl, hb40⟩, b1⟩
      have B3 := Lib.hid (B2.out.trans (b1.mono B2.out.size))
      clear b1
      rcases b with _ | _
      · clear hb40
        go_wp2_with fail
        refine (awake_ w3).mono ?_
        rintro e wz ⟨rfl, bz⟩
        have BZ := Lib.hid (B3.out.trans (bz.mono B3.out.size))
        clear bz
        go_wp2_with fail
        go_ret
        exact ⟨rfl, BZ.out⟩
      · have HNb : Hid (nb ≤ 40) := hb40 rfl
        clear hb40
        go_wp2_with fail
        have BwB : Hid (Below w.heap.size w w3) := B3.out
        have HR3 : Hid (RdD w3 w3.heap.size A n ls) := (HR.out.to B3.out).more B3.out.size
        refine (played_ A n c ls w3 HR3.out (HQ.out.2.to HR.out B3.out) HN.out).mono ?_
        rintro e w4 ⟨p, S, hs, rfl, hp, hre, b4⟩
        have HP0 := Lib.hid hp
        have HRe := Lib.hid hre
        have B4 := Lib.hid b4
        clear hp hre b4
        unfold plV
        have hs1 : (w4.alloc (.cells #[.pointer (some ⟨p.gb, 0, none⟩), .pointer (some ⟨p.gi, 0, none⟩), .slice p.A p.n p.c, .slice p.V p.vn p.vc, .int .i64 0] 35)).heap.size = w4.heap.size + 1 := szAlloc _ _
        obtain ⟨D, hD⟩ : ∃ D, Hid (D = (w4.alloc (.cells #[.pointer (some ⟨p.gb, 0, none⟩), .pointer (some ⟨p.gi, 0, none⟩), .slice p.A p.n p.c, .slice p.V p.vn p.vc, .int .i64 0] 35)).alloc (.cells #[.pointer (some ⟨p.gb, 0, none⟩), .pointer (some ⟨p.gi, 0, none⟩), .slice p.A p.n p.c, .slice p.V p.vn p.vc, .int .i64 0] 35)) := ⟨_, Lib.hid rfl⟩
        obtain ⟨G7, hG7⟩ : ∃ g, Hid (g = w4.heap.size) := ⟨_, Lib.hid rfl⟩
        have bD : Hid (Below w4.heap.size w4 D) := by rw [hD.out]; exact ((Below.refl _ _).alloc (Nat.le_refl _) _).alloc (by rw [hs1]; omega) _
        have D7 : Hid (D.heap[G7]? = some (.cells (plC p).toArray 35 (0, 0))) := by unfold Hid; rw [hD.out, hG7.out]; exact (heap_alloc_old _ _ (by rw [hs1]; omega)).trans (heap_alloc_new _ _)
        have D9 : Hid (D.heap[G7 + 1]? = some (.cells (plC p).toArray 35 (0, 0))) := by unfold Hid; rw [hD.out, hG7.out, ← hs1]; exact heap_alloc_new _ _
        go_wp2_with fail
        rw [← hD.out, ← hG7.out]
        obtain ⟨X, hX⟩ : ∃ W, Hid (W = D.drew) := ⟨_, Lib.hid rfl⟩
        have dX : Below D.heap.size D X := by rw [hX.out]; exact below_drew (Below.refl _ _)
        have bX : Hid (Below w4.heap.size w4 X) := bD.out.trans (dX.mono bD.out.size)
        have X7 : Hid (X.heap[G7]? = some (.cells (plC p).toArray 35 (0, 0))) := (dX.block G7 (lt_of_blk D7.out)).trans D7.out
        have X9 : Hid (X.heap[G7 + 1]? = some (.cells (plC p).toArray 35 (0, 0))) := (dX.block (G7 + 1) (lt_of_blk D9.out)).trans D9.out
        have HPX : Hid (Play X w3.heap.size p S hs [G7 + 1, G7]) := HP0.out.keep (Fr.below (own := []) bX.out) (fun _ h => absurd h (by simp)) (fun k hk => by simp at hk; exact Or.inr (by have := hG7.out; omega)) (fun k hk => by simp at hk; rcases hk with h | h; rw [h]; exact lt_of_blk X9.out; rw [h]; exact lt_of_blk X7.out)
        have hSX : X.cell? ⟨G7, 0, none⟩ = some (.pointer (some ⟨p.gb, 0, none⟩)) ∧ X.cell? ⟨G7, 1, none⟩ = some (.pointer (some ⟨p.gi, 0, none⟩)) := ⟨cell_blk X7.out 0 rfl, cell_blk X7.out 1 rfl⟩
        have hXq : Hid (∀ k, k ∈ p.ob ++ p.oi ++ [G7 + 1, G7] → k < X.heap.size) := HPX.out.lt
        clear dX hs1
        refine wp_region_noPanic ?_
        refine wp_region_held_drew (S := fun w' => w'.cell? ⟨G7, 0, none⟩ = some (.pointer (some ⟨p.gb, 0, none⟩)) ∧ w'.cell? ⟨G7, 1, none⟩ = some (.pointer (some ⟨p.gi, 0, none⟩))) (by kernel_rfl) (by rw [← hX.out]; exact hSX) (fun hS => ?_)
        rw [← hX.out]
        clear hS
        have hS : X.cell? ⟨G7, 0, none⟩ = some (.pointer (some ⟨p.gb, 0, none⟩)) ∧ X.cell? ⟨G7, 1, none⟩ = some (.pointer (some ⟨p.gi, 0, none⟩)) := hSX
        refine wpAnyH_take (i := 0) (v := ?va0) rfl (by kernel_rfl) (by kernel_rfl) (by kernel_rfl) (fun _ _ _ h => h) (Or.inl ⟨by rfl, ?hya0⟩) hS ?resta0
        case hya0 => (intro w' hSw; go_simp; first | done | with_reducible rfl)
        try simp only [Act.put, List.getElem_toArray, List.getElem_cons_zero, List.getElem_cons_succ, List.setIfInBounds_toArray, List.set_cons_zero, List.set_cons_succ]
        refine wpAnyH_take (i := 1) (v := .pointer (some ⟨p.gb, 0, none⟩)) rfl (by kernel_rfl) (by kernel_rfl) (by kernel_rfl) (fun _ _ _ h => h) (Or.inl ⟨by rfl, ?hya1⟩) hS ?resta1
        case hya1 => (intro w' hSw; have c0 := hSw.1; go_simp; first | done | with_reducible rfl)
        try simp only [Act.put, List.getElem_toArray, List.getElem_cons_zero, List.getElem_cons_succ, List.setIfInBounds_toArray, List.set_cons_zero, List.set_cons_succ]
        refine wpAnyH_take (i := 3) (v := ?va3) rfl (by kernel_rfl) (by kernel_rfl) (by kernel_rfl) (fun _ _ _ h => h) (Or.inl ⟨by rfl, ?hya3⟩) hS ?resta3
        case hya3 => (intro w' hSw; go_simp; first | done | with_reducible rfl)
        try simp only [Act.put, List.getElem_toArray, List.getElem_cons_zero, List.getElem_cons_succ, List.setIfInBounds_toArray, List.set_cons_zero, List.set_cons_succ]
        refine wpAnyH_take (i := 4) (v := .pointer (some ⟨p.gi, 0, none⟩)) rfl (by kernel_rfl) (by kernel_rfl) (by kernel_rfl) (fun _ _ _ h => h) (Or.inl ⟨by rfl, ?hya4⟩) hS ?resta4
        case hya4 => (intro w' hSw; have c0 := hSw.2; go_simp; first | done | with_reducible rfl)
        try simp only [Act.put, List.getElem_toArray, List.getElem_cons_zero, List.getElem_cons_succ, List.setIfInBounds_toArray, List.set_cons_zero, List.set_cons_succ]
        refine wpAnyH_ready (rs := [2]) (by kernel_rfl) (by simp) ?_
        refine AllReadyH.cons rfl (fun K hK => ?_) AllReadyH.nil
        go_simp
        refine (bclone_ p.gb S p.ob _ (p.ob ++ p.oi ++ [G7 + 1, G7]) X HPX.out.pr.bk hXq.out).mono ?_
        rintro e u5 ⟨gq, oq, rfl, kq, nq, bu⟩
        have KQ := Lib.hid kq
        have NQ := Lib.hid nq
        have bXu := Lib.hid bu
        have u7 : Hid (u5.heap[G7]? = some (.cells (plC p).toArray 35 (0, 0))) := (bu.block G7 (lt_of_blk X7.out)).trans X7.out
        have u9 : Hid (u5.heap[G7 + 1]? = some (.cells (plC p).toArray 35 (0, 0))) := (bu.block (G7 + 1) (lt_of_blk X9.out)).trans X9.out
        have HPu := Lib.hid (HPX.out.below bu)
        clear kq nq bu
        go_wp2_with fail
        have hSu5 : u5.cell? ⟨G7, 0, none⟩ = some (.pointer (some ⟨p.gb, 0, none⟩)) ∧ u5.cell? ⟨G7, 1, none⟩ = some (.pointer (some ⟨p.gi, 0, none⟩)) := ⟨cell_blk u7.out 0 rfl, cell_blk u7.out 1 rfl⟩
        refine hK.out _ _ hSu5 ?_
        intro hS
        clear hK K hS
        try simp only [Act.put, List.getElem_toArray, List.getElem_cons_zero, List.getElem_cons_succ, List.setIfInBounds_toArray, List.set_cons_zero, List.set_cons_succ]
        have hS := hSu5
        refine wpAnyH_take (i := 6) (v := ?va6) rfl (by kernel_rfl) (by kernel_rfl) (by kernel_rfl) (fun _ _ _ h => h) (Or.inl ⟨by rfl, ?hya6⟩) hS ?resta6
        case hya6 => (intro w' hSw; go_simp; first | done | with_reducible rfl)
        try simp only [Act.put, List.getElem_toArray, List.getElem_cons_zero, List.getElem_cons_succ, List.setIfInBounds_toArray, List.set_cons_zero, List.set_cons_succ]
        refine wpAnyH_ready (rs := [5]) (by kernel_rfl) (by simp) ?_
        refine AllReadyH.cons rfl (fun K hK => ?_) AllReadyH.nil
        go_simp
        have hXi : Hid (∀ k, k ∈ oq ++ (p.ob ++ p.oi ++ [G7 + 1, G7]) → k < u5.heap.size) := fun k hk => by
          rcases List.mem_append.1 hk with h | h
          · exact KQ.out.lt k h
          · exact Nat.lt_of_lt_of_le (hXq.out k h) bXu.out.size
        refine (iclone_ p.gi hs p.oi _ (oq ++ (p.ob ++ p.oi ++ [G7 + 1, G7])) u5 HPu.out.pr.id HRe.out.nodup (fun h hh => by have := HRe.out.short h hh; omega) (by have := HRe.out.len; have := HN.out; omega) hXi.out).mono ?_
        rintro e u6 ⟨gj, oj, rfl, kj, nj, bv⟩
        have KJ := Lib.hid kj
        have NJ := Lib.hid nj
        have buv := Lib.hid bv
        have v7 : Hid (u6.heap[G7]? = some (.cells (plC p).toArray 35 (0, 0))) := (bv.block G7 (lt_of_blk u7.out)).trans u7.out
        have v9 : Hid (u6.heap[G7 + 1]? = some (.cells (plC p).toArray 35 (0, 0))) := (bv.block (G7 + 1) (lt_of_blk u9.out)).trans u9.out
        clear kj nj bv
        go_wp2_with fail
        have hSu6 : u6.cell? ⟨G7, 0, none⟩ = some (.pointer (some ⟨p.gb, 0, none⟩)) ∧ u6.cell? ⟨G7, 1, none⟩ = some (.pointer (some ⟨p.gi, 0, none⟩)) := ⟨cell_blk v7.out 0 rfl, cell_blk v7.out 1 rfl⟩
        refine hK.out _ _ hSu6 ?_
        intro hS
        clear hK K hS
        try simp only [Act.put, List.getElem_toArray, List.getElem_cons_zero, List.getElem_cons_succ, List.setIfInBounds_toArray, List.set_cons_zero, List.set_cons_succ]
        have hS := hSu6
        refine wpAnyH_ready (rs := [7]) (by kernel_rfl) (by simp) ?_
        refine AllReadyH.cons rfl (fun K hK => ?_) AllReadyH.nil
        have s0 := cell_blk v9.out 0 rfl
        have s1 := frozen_blk v9.out 0
        go_simp
        clear s0 s1
        obtain ⟨y1, hy1⟩ : ∃ W0, Hid (W0 = u6.setCell ⟨G7 + 1, 0, none⟩ (.pointer (some ⟨gq, 0, none⟩))) := ⟨_, Lib.hid rfl⟩
        rw [← hy1.out]
        have fy1 : Hid (Fr [G7 + 1] u6 y1 [G7 + 1]) := by rw [hy1.out]; exact setCell_fr _ _ _ _
        have y17 : Hid (y1.heap[G7]? = some (.cells (plC p).toArray 35 (0, 0))) := (fy1.out.block G7 (lt_of_blk v7.out) (by simp)).trans v7.out
        have y19 : Hid (y1.heap[G7 + 1]? = some (.cells #[.pointer (some ⟨gq, 0, none⟩), .pointer (some ⟨p.gi, 0, none⟩), .slice p.A p.n p.c, .slice p.V p.vn p.vc, .int .i64 0] 35 (0, 0))) := by unfold Hid; rw [hy1.out]; exact heap_set v9.out _
        have hSy1 : y1.cell? ⟨G7, 0, none⟩ = some (.pointer (some ⟨p.gb, 0, none⟩)) ∧ y1.cell? ⟨G7, 1, none⟩ = some (.pointer (some ⟨p.gi, 0, none⟩)) := ⟨cell_blk y17.out 0 rfl, cell_blk y17.out 1 rfl⟩
        refine hK.out _ _ hSy1 ?_
        intro hS
        clear hK K hS
        try simp only [Act.put, List.getElem_toArray, List.getElem_cons_zero, List.getElem_cons_succ, List.setIfInBounds_toArray, List.set_cons_zero, List.set_cons_succ]
        have hS := hSy1
        refine wpAnyH_take (i := 8) (v := ?va8) rfl (by kernel_rfl) (by kernel_rfl) (by kernel_rfl) (fun _ _ _ h => h) (Or.inl ⟨by rfl, ?hya8⟩) hS ?resta8
        case hya8 => (intro w' hSw; go_simp; first | done | with_reducible rfl)
        try simp only [Act.put, List.getElem_toArray, List.getElem_cons_zero, List.getElem_cons_succ, List.setIfInBounds_toArray, List.set_cons_zero, List.set_cons_succ]
        refine wpAnyH_ready (rs := [9]) (by kernel_rfl) (by simp) ?_
        refine AllReadyH.cons rfl (fun K hK => ?_) AllReadyH.nil
        have s0 := cell_blk y19.out 1 rfl
        have s1 := frozen_blk y19.out 1
        go_simp
        clear s0 s1
        obtain ⟨y2, hy2⟩ : ∃ W0, Hid (W0 = y1.setCell ⟨G7 + 1, 1, none⟩ (.pointer (some ⟨gj, 0, none⟩))) := ⟨_, Lib.hid rfl⟩
        rw [← hy2.out]
        have fy2 : Hid (Fr [G7 + 1] y1 y2 [G7 + 1]) := by rw [hy2.out]; exact setCell_fr _ _ _ _
        have y27 : Hid (y2.heap[G7]? = some (.cells (plC p).toArray 35 (0, 0))) := (fy2.out.block G7 (lt_of_blk y17.out) (by simp)).trans y17.out
        have y29 : Hid (y2.heap[G7 + 1]? = some (.cells #[.pointer (some ⟨gq, 0, none⟩), .pointer (some ⟨gj, 0, none⟩), .slice p.A p.n p.c, .slice p.V p.vn p.vc, .int .i64 0] 35 (0, 0))) := by unfold Hid; rw [hy2.out]; exact heap_set y19.out _
        have hSy2 : y2.cell? ⟨G7, 0, none⟩ = some (.pointer (some ⟨p.gb, 0, none⟩)) ∧ y2.cell? ⟨G7, 1, none⟩ = some (.pointer (some ⟨p.gi, 0, none⟩)) := ⟨cell_blk y27.out 0 rfl, cell_blk y27.out 1 rfl⟩
        refine hK.out _ _ hSy2 ?_
        intro hS
        clear hK K hS
        try simp only [Act.put, List.getElem_toArray, List.getElem_cons_zero, List.getElem_cons_succ, List.setIfInBounds_toArray, List.set_cons_zero, List.set_cons_succ]
        have hS := hSy2
        refine wpAnyH_done (by kernel_rfl) (NoPanic.normal ?_) _
        have q0 := cell_blk y29.out 0 rfl
        have q1 := cell_blk y29.out 1 rfl
        go_wp2_with fail
        clear q0 q1
        have fy : Hid (Fr [G7 + 1] u6 y2 [G7 + 1]) := fy1.out.trans fy2.out
        have bX6 : Hid (Below X.heap.size X u6) := bXu.out.trans (buv.out.mono bXu.out.size)
        have hB4 : Hid (w3.heap.size ≤ w4.heap.size) := B4.out.size
        have hBX : Hid (w3.heap.size ≤ X.heap.size) := Nat.le_trans B4.out.size bX.out.size
        have lq : ∀ k, k ∈ oq → k < u6.heap.size := fun k hk => Nat.lt_of_lt_of_le (KQ.out.lt k hk) buv.out.size
        have lj : ∀ k, k ∈ oj → k < u6.heap.size := note_lt KJ.out
        have nj5 : ∀ k, k ∈ oj → X.heap.size ≤ k := fun k hk => Nat.le_trans bXu.out.size (NJ.out k hk)
        have HP6 : Play u6 w3.heap.size p S hs (oq ++ oj ++ [G7 + 1, G7]) := HPX.out.keep (Fr.below (own := []) bX6.out) (fun _ h => absurd h (by simp)) (fun k hk => by
          rcases List.mem_append.1 hk with h | h
          · rcases List.mem_append.1 h with h1 | h1
            · exact Or.inr (NQ.out k h1)
            · exact Or.inr (nj5 k h1)
          · exact Or.inl h) (fun k hk => by
          rcases List.mem_append.1 hk with h | h
          · rcases List.mem_append.1 h with h1 | h1
            · exact lq k h1
            · exact lj k h1
          · exact Nat.lt_of_lt_of_le (hXq.out k (List.mem_append.2 (Or.inr h))) bX6.out.size)
        have HPy : Hid (Play y2 w3.heap.size p S hs (oq ++ oj ++ [G7 + 1, G7])) := HP6.keep fy.out (fun k hk => List.mem_append.2 (Or.inr (by simp at hk; simp [hk]))) (fun _ h => Or.inl h) (fun k hk => Nat.lt_of_lt_of_le (HP6.pr.xl k hk) fy.out.size)
        have upq : ∀ k, k ∈ oq ++ oj ++ (p.ob ++ p.oi ++ [G7 + 1, G7]) → k ∈ p.ob ++ p.oi ++ [G7 + 1, G7] ∨ X.heap.size ≤ k := fun k hk => by
          rcases List.mem_append.1 hk with h | h
          · rcases List.mem_append.1 h with h1 | h1
            · exact Or.inr (NQ.out k h1)
            · exact Or.inr (nj5 k h1)
          · exact Or.inl h
        have HQ6 : Play u6 w3.heap.size ⟨gq, gj, p.A, p.n, p.c, p.V, p.vn, p.vc, oq, oj⟩ S hs (p.ob ++ p.oi ++ [G7 + 1, G7]) := by
          refine ⟨⟨KQ.out.keep (own2 := []) (own2' := []) (Fr.below buv.out) (fun _ h => absurd h (by simp)) (fun _ h => absurd h (by simp)) (fun k hk => ?_), KJ.out, fun k hk hm => ?_, fun k hk => Nat.lt_of_lt_of_le (hXq.out k hk) bX6.out.size, fun k hk => ⟨fun hm => ?_, fun hm => ?_⟩⟩, HPX.out.rk.fr (own := []) (own' := []) (Fr.below bX6.out) (fun _ h => absurd h (by simp)) upq, HPX.out.vt.fr (own := []) (own' := []) (Fr.below bX6.out) (fun _ h => absurd h (by simp)) upq, HPX.out.vc, fun k hk => ?_⟩
          · rcases List.mem_append.1 hk with h | h
            · exact Or.inr (NJ.out k h)
            · exact Or.inl h
          · have h1 := NJ.out k hk; have h2 := KQ.out.lt k hm; omega
          · have h1 := NQ.out k hm; have h2 := hXq.out k hk; omega
          · have h1 := nj5 k hm; have h2 := hXq.out k hk; omega
          · rcases List.mem_append.1 hk with h | h
            · exact Nat.le_trans hBX.out (NQ.out k h)
            · exact Nat.le_trans hBX.out (nj5 k h)
        have HQy := HQ6.keep fy.out (X' := p.ob ++ p.oi ++ [G7 + 1, G7]) (fun k hk => List.mem_append.2 (Or.inr (by simp at hk; simp [hk]))) (fun _ h => Or.inl h) (fun k hk => Nat.lt_of_lt_of_le (HQ6.pr.xl k hk) fy.out.size)
        have hqC : (plC ⟨gq, gj, p.A, p.n, p.c, p.V, p.vn, p.vc, oq, oj⟩).toArray = #[.pointer (some ⟨gq, 0, none⟩), .pointer (some ⟨gj, 0, none⟩), .slice p.A p.n p.c, .slice p.V p.vn p.vc, .int .i64 0] := rfl
        rw [← hqC] at y29
        have HPy2 : Hid (Play y2 w3.heap.size p S hs ((⟨gq, gj, p.A, p.n, p.c, p.V, p.vn, p.vc, oq, oj⟩ : Pl).ob ++ (⟨gq, gj, p.A, p.n, p.c, p.V, p.vn, p.vc, oq, oj⟩ : Pl).oi ++ [G7 + 1, G7])) := HPy.out
        obtain ⟨q, hqq⟩ : ∃ q : Pl, (⟨gq, gj, p.A, p.n, p.c, p.V, p.vn, p.vc, oq, oj⟩ : Pl) = q := ⟨_, rfl⟩
        rw [hqq] at y29 HQy HPy2
        have HQY := Lib.hid HQy
        have By2 : Hid (Below w3.heap.size w3 y2) := (B4.out.trans ((bX.out.trans (bX6.out.mono bX.out.size)).mono B4.out.size)).trans (fy.out.toBelow (fun k hk => by simp at hk; have h1 := hG7.out; have h2 := hB4.out; omega) (Nat.le_trans hBX.out bX6.out.size))
        have hG7w : Hid (w3.heap.size ≤ G7) := by rw [hG7.out]; exact B4.out.size
        clear HP6 HQ6 HQy hqC hqq lq lj nj5 upq
        go_wp2_with fail
        have R1 : Hid (RdD w3 w3.heap.size Aa na la) := (HRa.out.to B3.out).more B3.out.size
        have E1 : Hid (Reaches w3 Aa na) := HQa.out.2.to HRa.out B3.out
        go_loopw [52] (fun x52 wr => ∃ (i : Nat) (pp : Pl) (S1 : Bk) (h1 : List (List UInt8)), x52 = .int .i64 i ∧ i ≤ na ∧ Hid (Play wr w3.heap.size pp S1 h1 (q.ob ++ q.oi ++ [G7 + 1, G7])) ∧ Hid (Play wr w3.heap.size q S hs (pp.ob ++ pp.oi ++ [G7 + 1, G7])) ∧ Hid (Reach (n + i) S1 h1) ∧ Hid (wr.heap[G7]? = some (.cells (plC pp).toArray 35 (0, 0))) ∧ Hid (wr.heap[G7 + 1]? = some (.cells (plC q).toArray 35 (0, 0))) ∧ Hid (Below w3.heap.size w3 wr)) (fun x52 _ => na - (intOf x52).toNat)
        case atStart => exact ⟨0, p, S, hs, rfl, by omega, HPy2, HQY, by rw [Nat.add_zero]; exact HRe, y27, y29, By2⟩
        case round =>
          obtain ⟨i, pp, S1, h1, rfl, hi, HP, HF, HRe1, RM, RF, hb⟩ := hrel
          by_cases hin : i < na
          · have hin' : (i : Int) < (na : Int) := by omega
            have hi0 : (0 : Int) ≤ (i : Int) := by omega
            have e8 : IntKind.i64.wrap ((i : Int) + 1) = ((i + 1 : Nat) : Int) := by have := HNa.out; rw [IntWalk.i64_in _ (by omega)]; omega
            obtain ⟨x, hx⟩ : ∃ x, la[i]? = some x := ⟨_, List.getElem?_eq_getElem (by rw [R1.out.1]; exact hin)⟩
            obtain ⟨b, o, Ap, np, cp, Ak, nk, ck, rfl, hB, hrg, _, _, _, rp, _, rb, _⟩ := R1.out.2 i x hx
            have hww : ∀ j v, (lnC x.l Ap np cp Ak nk ck ++ [Value.bool x.nx])[j]? = some v → wr.cell? ⟨b, o + i * 6 + j, none⟩ = some v := fun j v hj => (World.cell?_of_block (a := ⟨b, o + i * 6 + j, none⟩) (hb.out.block b hB)).trans (hrg j v hj)
            have hle := Lib.hid (E1.out i b o Ap np cp Ak nk ck hin rfl (hrg 3 _ rfl) (hrg 4 _ rfl))
            have c0 : wr.cell? ⟨b, o + i * 6, none⟩ = some (.int .i64 x.l.au) := hww 0 _ rfl
            have c1 : wr.cell? ⟨b, o + i * 6 + 1, none⟩ = some (.int .i64 x.l.sq) := hww 1 _ rfl
            have c2 : wr.cell? ⟨b, o + i * 6 + 2, none⟩ = some (.int .i64 x.l.ep) := hww 2 _ rfl
            have c3 : wr.cell? ⟨b, o + i * 6 + 3, none⟩ = some (.slice Ap np cp) := hww 3 _ rfl
            have c4 : wr.cell? ⟨b, o + i * 6 + 4, none⟩ = some (.slice Ak nk ck) := hww 4 _ rfl
            have c5 : wr.cell? ⟨b, o + i * 6 + 5, none⟩ = some (.bool x.nx) := hww 5 _ rfl
            have RP := Lib.hid rp
            have RB := Lib.hid rb
            clear hx hB hrg rp rb hww
            obtain ⟨V, hV⟩ : ∃ V, Hid (V = wr.alloc (.cells #[.int .i64 x.l.au, .int .i64 x.l.sq, .int .i64 x.l.ep, .slice Ap np cp, .slice Ak nk ck, .bool x.nx] 42)) := ⟨_, Lib.hid rfl⟩
            obtain ⟨Gd, hGd⟩ : ∃ g, Hid (g = wr.heap.size) := ⟨_, Lib.hid rfl⟩
            have BV : Hid (Below wr.heap.size wr V) := by rw [hV.out]; exact (Below.refl _ _).alloc (Nat.le_refl _) _
            have VM : Hid (V.heap[G7]? = some (.cells (plC pp).toArray 35 (0, 0))) := (BV.out.block (G7) (lt_of_blk RM.out)).trans RM.out
            have VF : Hid (V.heap[G7 + 1]? = some (.cells (plC q).toArray 35 (0, 0))) := (BV.out.block (G7 + 1) (lt_of_blk RF.out)).trans RF.out
            have hVs : Hid (Gd < V.heap.size) := by unfold Hid; rw [hV.out, hGd.out, szAlloc]; exact Nat.lt_succ_self _
            have d0 : V.cell? ⟨G7, 0, none⟩ = some (.pointer (some ⟨pp.gb, 0, none⟩)) := cell_blk VM.out 0 rfl
            have d1 : V.cell? ⟨G7, 1, none⟩ = some (.pointer (some ⟨pp.gi, 0, none⟩)) := cell_blk VM.out 1 rfl
            have d2 : V.cell? ⟨G7, 2, none⟩ = some (.slice pp.A pp.n pp.c) := cell_blk VM.out 2 rfl
            have d3 : V.cell? ⟨G7, 3, none⟩ = some (.slice pp.V pp.vn pp.vc) := cell_blk VM.out 3 rfl
            have d4 : V.cell? ⟨G7, 4, none⟩ = some (.int .i64 0) := cell_blk VM.out 4 rfl
            rw [hV.out] at d0 d1 d2 d3 d4
            go_wp2_with fail
            clear c0 c1 c2 c3 c4 c5 d0 d1 d2 d3 d4
            rw [← hV.out]
            have HPV : Hid (Play V w3.heap.size pp S1 h1 (Gd :: (q.ob ++ q.oi ++ [G7 + 1, G7]))) := HP.out.keep (Fr.below (own := []) BV.out) (fun _ h => absurd h (by simp)) (fun k hk => by rcases List.mem_cons.1 hk with h | h; exact Or.inr (by rw [h, hGd.out]; exact Nat.le_refl _); exact Or.inl h) (fun k hk => by rcases List.mem_cons.1 hk with h | h; rw [h]; exact hVs.out; exact Nat.lt_of_lt_of_le (HP.out.pr.xl k h) BV.out.size)
            have HFV := Lib.hid (HF.out.below BV.out)
            have hlow : Hid (∀ k, k ∈ pp.ob ++ pp.oi ++ (Gd :: (q.ob ++ q.oi ++ [G7 + 1, G7])) → w3.heap.size ≤ k) := fun k hk => by
              rcases List.mem_append.1 hk with h | h
              · exact HPV.out.lo k h
              · rcases List.mem_cons.1 h with h | h
                · rw [h, hGd.out]; exact hb.out.size
                · rcases List.mem_append.1 h with h | h
                  · exact HFV.out.lo k h
                  · have := hG7w.out; simp at h; omega
            have BwV : Hid (Below w3.heap.size w3 V) := hb.out.trans (BV.out.mono hb.out.size)
            refine (does_ w3.heap.size pp S1 h1 (Gd :: (q.ob ++ q.oi ++ [G7 + 1, G7])) x.l x.nx Ap np cp Ak nk ck V HPV.out HRe1.out.ok HPV.out.base ((RP.out.below BwV.out).lowN BwV.out.size hlow.out) ((RB.out.below BwV.out).lowN BwV.out.size hlow.out) (by have h1 := HPV.out.rk.len; have h2 := HRe1.out.len; have h3 := HNa.out; have h4 := HN.out; omega) (by have h1 := HPV.out.vt.len; have h2 := HRe1.out.len; have h3 := HNa.out; have h4 := HN.out; omega) hle.out.1 hle.out.2).mono ?_
            rintro e v ⟨m', rfl, hp', hgb, hgi, hf'⟩
            clear hgb hgi
            obtain ⟨S', hS'⟩ : ∃ S', Hid (takeS S1 (checkH S1 h1 (linkL S1 x.l x.nx)) (linkL S1 x.l x.nx) = S') := ⟨_, Lib.hid rfl⟩
            obtain ⟨hs', hhs'⟩ : ∃ hs', Hid (takeH S1 (checkH S1 h1 (linkL S1 x.l x.nx)) (linkL S1 x.l x.nx) = hs') := ⟨_, Lib.hid rfl⟩
            rw [hS'.out, hhs'.out] at hp'
            have HRe' : Hid (Reach (n + (i + 1)) S' hs') := by rw [← hS'.out, ← hhs'.out, ← Nat.add_assoc]; exact HRe1.out.step _
            have HP' := Lib.hid hp'
            have F' := Lib.hid hf'
            have vM : Hid (v.heap[G7]? = some (.cells (plC pp).toArray 35 (0, 0))) := (hf'.block (G7) (lt_of_blk VM.out) (HPV.out.out (by simp))).trans VM.out
            have vF : Hid (v.heap[G7 + 1]? = some (.cells (plC q).toArray 35 (0, 0))) := (hf'.block (G7 + 1) (lt_of_blk VF.out) (HPV.out.out (by simp))).trans VF.out
            have HF' : Hid (Play v w3.heap.size q S hs (m'.ob ++ m'.oi ++ [G7 + 1, G7])) := HFV.out.keep hf' (fun k hk => List.mem_append.2 (Or.inl hk)) (fun k hk => by
              rcases List.mem_append.1 hk with h | h
              · exact (hf'.sub k h).imp (fun h1 => List.mem_append.2 (Or.inl h1)) id
              · exact Or.inl (List.mem_append.2 (Or.inr h))) (fun k hk => by
              rcases List.mem_append.1 hk with h | h
              · exact hp'.lt k (List.mem_append.2 (Or.inl h))
              · exact hp'.pr.xl k (List.mem_cons_of_mem _ (List.mem_append.2 (Or.inr h))))
            have Bwv : Hid (Below w3.heap.size w3 v) := BwV.out.trans (hf'.toBelow (fun k hk => HPV.out.lo k hk) BwV.out.size)
            clear hp' hf'
            unfold plV
            have y4 := vM.out
            go_wp2_with (refine wpList_store_row rfl 35 (.tmp 7) (.tmp 60) rfl (G7) (plC m').toArray rfl (by first | rfl | kernel_rfl) _ _ y4 (by kernel_rfl) rfl (by kernel_rfl) ?_)
            obtain ⟨Z, hZ⟩ : ∃ Z, Hid (Z = v.setRow (G7) (plC m').toArray) := ⟨_, Lib.hid rfl⟩
            rw [← hZ.out]
            have FZ : Hid (Fr [G7] v Z [G7]) := by rw [hZ.out]; exact setRow_fr _ _ _
            have ZM : Hid (Z.heap[G7]? = some (.cells (plC m').toArray 35 (0, 0))) := by unfold Hid; rw [hZ.out]; exact setRow_heap _ _ _ _ _ _ vM.out
            have ZF : Hid (Z.heap[G7 + 1]? = some (.cells (plC q).toArray 35 (0, 0))) := (FZ.out.block (G7 + 1) (lt_of_blk vF.out) (by simp)).trans vF.out
            have PZ : Hid (Play Z w3.heap.size m' S' hs' (q.ob ++ q.oi ++ [G7 + 1, G7])) := HP'.out.keep FZ.out (fun k hk => List.mem_cons_of_mem _ (List.mem_append.2 (Or.inr (by simp at hk; simp [hk])))) (fun k hk => Or.inl (List.mem_cons_of_mem _ hk)) (fun k hk => Nat.lt_of_lt_of_le (HP'.out.pr.xl k (List.mem_cons_of_mem _ hk)) FZ.out.size)
            have QZ : Hid (Play Z w3.heap.size q S hs (m'.ob ++ m'.oi ++ [G7 + 1, G7])) := HF'.out.keep FZ.out (fun k hk => List.mem_append.2 (Or.inr (by simp at hk; simp [hk]))) (fun _ h => Or.inl h) (fun k hk => Nat.lt_of_lt_of_le (HF'.out.pr.xl k hk) FZ.out.size)
            have BZ : Hid (Below w3.heap.size w3 Z) := Bwv.out.trans (FZ.out.toBelow (fun k hk => by simp at hk; have := hG7w.out; omega) Bwv.out.size)
            go_roundw
            case rel => exact ⟨i + 1, m', S', hs', by go_num, hin, PZ, QZ, HRe', ZM, ZF, BZ⟩
            case measure => simp only [intOf]; omega
          · have hin' : ¬ (i : Int) < (na : Int) := by omega
            obtain ⟨wo1, hwo⟩ : ∃ wo, wo = wr := ⟨wr, rfl⟩
            subst hwo
            obtain ⟨i1, hii⟩ : ∃ j : Nat, Hid (j = i) := ⟨_, Lib.hid rfl⟩
            have Hn1 : Hid (n + i ≤ 80) := by have h1 := HNa.out; have h2 := HN.out; unfold Hid; omega
            have HP1 := HP
            have HF1 := HF
            have HR11 := HRe1
            have RM1 := RM
            have RF1 := RF
            have hb1 := hb
            go_wp2_with fail
            have R2 : Hid (RdD w3 w3.heap.size Ab nb lb) := (HRb.out.to B3.out).more B3.out.size
            have E2 : Hid (Reaches w3 Ab nb) := HQb.out.2.to HRb.out B3.out
            go_loopw [65] (fun x65 wr => ∃ (i : Nat) (qq : Pl) (S2 : Bk) (h2 : List (List UInt8)), x65 = .int .i64 i ∧ i ≤ nb ∧ Hid (Play wr w3.heap.size qq S2 h2 (pp.ob ++ pp.oi ++ [G7 + 1, G7])) ∧ Hid (Play wr w3.heap.size pp S1 h1 (qq.ob ++ qq.oi ++ [G7 + 1, G7])) ∧ Hid (Reach (n + i) S2 h2) ∧ Hid (wr.heap[G7 + 1]? = some (.cells (plC qq).toArray 35 (0, 0))) ∧ Hid (wr.heap[G7]? = some (.cells (plC pp).toArray 35 (0, 0))) ∧ Hid (Below w3.heap.size w3 wr)) (fun x65 _ => nb - (intOf x65).toNat)
            case atStart => exact ⟨0, q, S, hs, rfl, by omega, HF1, HP1, by rw [Nat.add_zero]; exact HRe, RF1, RM1, hb1⟩
            case round =>
              obtain ⟨i, qq, S2, h2, rfl, hi, HP, HF, HRe1, RM, RF, hb⟩ := hrel
              by_cases hin : i < nb
              · have hin' : (i : Int) < (nb : Int) := by omega
                have hi0 : (0 : Int) ≤ (i : Int) := by omega
                have e8 : IntKind.i64.wrap ((i : Int) + 1) = ((i + 1 : Nat) : Int) := by have := HNb.out; rw [IntWalk.i64_in _ (by omega)]; omega
                obtain ⟨x, hx⟩ : ∃ x, lb[i]? = some x := ⟨_, List.getElem?_eq_getElem (by rw [R2.out.1]; exact hin)⟩
                obtain ⟨b, o, Ap, np, cp, Ak, nk, ck, rfl, hB, hrg, _, _, _, rp, _, rb, _⟩ := R2.out.2 i x hx
                have hww : ∀ j v, (lnC x.l Ap np cp Ak nk ck ++ [Value.bool x.nx])[j]? = some v → wr.cell? ⟨b, o + i * 6 + j, none⟩ = some v := fun j v hj => (World.cell?_of_block (a := ⟨b, o + i * 6 + j, none⟩) (hb.out.block b hB)).trans (hrg j v hj)
                have hle := Lib.hid (E2.out i b o Ap np cp Ak nk ck hin rfl (hrg 3 _ rfl) (hrg 4 _ rfl))
                have c0 : wr.cell? ⟨b, o + i * 6, none⟩ = some (.int .i64 x.l.au) := hww 0 _ rfl
                have c1 : wr.cell? ⟨b, o + i * 6 + 1, none⟩ = some (.int .i64 x.l.sq) := hww 1 _ rfl
                have c2 : wr.cell? ⟨b, o + i * 6 + 2, none⟩ = some (.int .i64 x.l.ep) := hww 2 _ rfl
                have c3 : wr.cell? ⟨b, o + i * 6 + 3, none⟩ = some (.slice Ap np cp) := hww 3 _ rfl
                have c4 : wr.cell? ⟨b, o + i * 6 + 4, none⟩ = some (.slice Ak nk ck) := hww 4 _ rfl
                have c5 : wr.cell? ⟨b, o + i * 6 + 5, none⟩ = some (.bool x.nx) := hww 5 _ rfl
                have RP := Lib.hid rp
                have RB := Lib.hid rb
                clear hx hB hrg rp rb hww
                obtain ⟨V, hV⟩ : ∃ V, Hid (V = wr.alloc (.cells #[.int .i64 x.l.au, .int .i64 x.l.sq, .int .i64 x.l.ep, .slice Ap np cp, .slice Ak nk ck, .bool x.nx] 42)) := ⟨_, Lib.hid rfl⟩
                obtain ⟨Gd, hGd⟩ : ∃ g, Hid (g = wr.heap.size) := ⟨_, Lib.hid rfl⟩
                have BV : Hid (Below wr.heap.size wr V) := by rw [hV.out]; exact (Below.refl _ _).alloc (Nat.le_refl _) _
                have VM : Hid (V.heap[G7 + 1]? = some (.cells (plC qq).toArray 35 (0, 0))) := (BV.out.block (G7 + 1) (lt_of_blk RM.out)).trans RM.out
                have VF : Hid (V.heap[G7]? = some (.cells (plC pp).toArray 35 (0, 0))) := (BV.out.block (G7) (lt_of_blk RF.out)).trans RF.out
                have hVs : Hid (Gd < V.heap.size) := by unfold Hid; rw [hV.out, hGd.out, szAlloc]; exact Nat.lt_succ_self _
                have d0 : V.cell? ⟨G7 + 1, 0, none⟩ = some (.pointer (some ⟨qq.gb, 0, none⟩)) := cell_blk VM.out 0 rfl
                have d1 : V.cell? ⟨G7 + 1, 1, none⟩ = some (.pointer (some ⟨qq.gi, 0, none⟩)) := cell_blk VM.out 1 rfl
                have d2 : V.cell? ⟨G7 + 1, 2, none⟩ = some (.slice qq.A qq.n qq.c) := cell_blk VM.out 2 rfl
                have d3 : V.cell? ⟨G7 + 1, 3, none⟩ = some (.slice qq.V qq.vn qq.vc) := cell_blk VM.out 3 rfl
                have d4 : V.cell? ⟨G7 + 1, 4, none⟩ = some (.int .i64 0) := cell_blk VM.out 4 rfl
                rw [hV.out] at d0 d1 d2 d3 d4
                go_wp2_with fail
                clear c0 c1 c2 c3 c4 c5 d0 d1 d2 d3 d4
                rw [← hV.out]
                have HPV : Hid (Play V w3.heap.size qq S2 h2 (Gd :: (pp.ob ++ pp.oi ++ [G7 + 1, G7]))) := HP.out.keep (Fr.below (own := []) BV.out) (fun _ h => absurd h (by simp)) (fun k hk => by rcases List.mem_cons.1 hk with h | h; exact Or.inr (by rw [h, hGd.out]; exact Nat.le_refl _); exact Or.inl h) (fun k hk => by rcases List.mem_cons.1 hk with h | h; rw [h]; exact hVs.out; exact Nat.lt_of_lt_of_le (HP.out.pr.xl k h) BV.out.size)
                have HFV := Lib.hid (HF.out.below BV.out)
                have hlow : Hid (∀ k, k ∈ qq.ob ++ qq.oi ++ (Gd :: (pp.ob ++ pp.oi ++ [G7 + 1, G7])) → w3.heap.size ≤ k) := fun k hk => by
                  rcases List.mem_append.1 hk with h | h
                  · exact HPV.out.lo k h
                  · rcases List.mem_cons.1 h with h | h
                    · rw [h, hGd.out]; exact hb.out.size
                    · rcases List.mem_append.1 h with h | h
                      · exact HFV.out.lo k h
                      · have := hG7w.out; simp at h; omega
                have BwV : Hid (Below w3.heap.size w3 V) := hb.out.trans (BV.out.mono hb.out.size)
                refine (does_ w3.heap.size qq S2 h2 (Gd :: (pp.ob ++ pp.oi ++ [G7 + 1, G7])) x.l x.nx Ap np cp Ak nk ck V HPV.out HRe1.out.ok HPV.out.base ((RP.out.below BwV.out).lowN BwV.out.size hlow.out) ((RB.out.below BwV.out).lowN BwV.out.size hlow.out) (by have h1 := HPV.out.rk.len; have h2 := HRe1.out.len; have h3 := HNb.out; have h4 := HN.out; omega) (by have h1 := HPV.out.vt.len; have h2 := HRe1.out.len; have h3 := HNb.out; have h4 := HN.out; omega) hle.out.1 hle.out.2).mono ?_
                rintro e v ⟨m', rfl, hp', hgb, hgi, hf'⟩
                clear hgb hgi
                obtain ⟨S', hS'⟩ : ∃ S', Hid (takeS S2 (checkH S2 h2 (linkL S2 x.l x.nx)) (linkL S2 x.l x.nx) = S') := ⟨_, Lib.hid rfl⟩
                obtain ⟨hs', hhs'⟩ : ∃ hs', Hid (takeH S2 (checkH S2 h2 (linkL S2 x.l x.nx)) (linkL S2 x.l x.nx) = hs') := ⟨_, Lib.hid rfl⟩
                rw [hS'.out, hhs'.out] at hp'
                have HRe' : Hid (Reach (n + (i + 1)) S' hs') := by rw [← hS'.out, ← hhs'.out, ← Nat.add_assoc]; exact HRe1.out.step _
                have HP' := Lib.hid hp'
                have F' := Lib.hid hf'
                have vM : Hid (v.heap[G7 + 1]? = some (.cells (plC qq).toArray 35 (0, 0))) := (hf'.block (G7 + 1) (lt_of_blk VM.out) (HPV.out.out (by simp))).trans VM.out
                have vF : Hid (v.heap[G7]? = some (.cells (plC pp).toArray 35 (0, 0))) := (hf'.block (G7) (lt_of_blk VF.out) (HPV.out.out (by simp))).trans VF.out
                have HF' : Hid (Play v w3.heap.size pp S1 h1 (m'.ob ++ m'.oi ++ [G7 + 1, G7])) := HFV.out.keep hf' (fun k hk => List.mem_append.2 (Or.inl hk)) (fun k hk => by
                  rcases List.mem_append.1 hk with h | h
                  · exact (hf'.sub k h).imp (fun h1 => List.mem_append.2 (Or.inl h1)) id
                  · exact Or.inl (List.mem_append.2 (Or.inr h))) (fun k hk => by
                  rcases List.mem_append.1 hk with h | h
                  · exact hp'.lt k (List.mem_append.2 (Or.inl h))
                  · exact hp'.pr.xl k (List.mem_cons_of_mem _ (List.mem_append.2 (Or.inr h))))
                have Bwv : Hid (Below w3.heap.size w3 v) := BwV.out.trans (hf'.toBelow (fun k hk => HPV.out.lo k hk) BwV.out.size)
                clear hp' hf'
                unfold plV
                have y4 := vM.out
                go_wp2_with (refine wpList_store_row rfl 35 (.tmp 9) (.tmp 73) rfl (G7 + 1) (plC m').toArray rfl (by first | rfl | kernel_rfl) _ _ y4 (by kernel_rfl) rfl (by kernel_rfl) ?_)
                obtain ⟨Z, hZ⟩ : ∃ Z, Hid (Z = v.setRow (G7 + 1) (plC m').toArray) := ⟨_, Lib.hid rfl⟩
                rw [← hZ.out]
                have FZ : Hid (Fr [G7 + 1] v Z [G7 + 1]) := by rw [hZ.out]; exact setRow_fr _ _ _
                have ZM : Hid (Z.heap[G7 + 1]? = some (.cells (plC m').toArray 35 (0, 0))) := by unfold Hid; rw [hZ.out]; exact setRow_heap _ _ _ _ _ _ vM.out
                have ZF : Hid (Z.heap[G7]? = some (.cells (plC pp).toArray 35 (0, 0))) := (FZ.out.block (G7) (lt_of_blk vF.out) (by simp)).trans vF.out
                have PZ : Hid (Play Z w3.heap.size m' S' hs' (pp.ob ++ pp.oi ++ [G7 + 1, G7])) := HP'.out.keep FZ.out (fun k hk => List.mem_cons_of_mem _ (List.mem_append.2 (Or.inr (by simp at hk; simp [hk])))) (fun k hk => Or.inl (List.mem_cons_of_mem _ hk)) (fun k hk => Nat.lt_of_lt_of_le (HP'.out.pr.xl k (List.mem_cons_of_mem _ hk)) FZ.out.size)
                have QZ : Hid (Play Z w3.heap.size pp S1 h1 (m'.ob ++ m'.oi ++ [G7 + 1, G7])) := HF'.out.keep FZ.out (fun k hk => List.mem_append.2 (Or.inr (by simp at hk; simp [hk]))) (fun _ h => Or.inl h) (fun k hk => Nat.lt_of_lt_of_le (HF'.out.pr.xl k hk) FZ.out.size)
                have BZ : Hid (Below w3.heap.size w3 Z) := Bwv.out.trans (FZ.out.toBelow (fun k hk => by simp at hk; have := hG7w.out; omega) Bwv.out.size)
                go_roundw
                case rel => exact ⟨i + 1, m', S', hs', by go_num, hin, PZ, QZ, HRe', ZM, ZF, BZ⟩
                case measure => simp only [intOf]; omega
              · have hin' : ¬ (i : Int) < (nb : Int) := by omega
                obtain ⟨wo2, hwo⟩ : ∃ wo, wo = wr := ⟨wr, rfl⟩
                subst hwo
                obtain ⟨i2, hii⟩ : ∃ j : Nat, Hid (j = i) := ⟨_, Lib.hid rfl⟩
                have Hn2 : Hid (n + i ≤ 80) := by have h1 := HNb.out; have h2 := HN.out; unfold Hid; omega
                have HP2 := HP
                have HF2 := HF
                have HR12 := HRe1
                have RM2 := RM
                have RF2 := RF
                have hb2 := hb
                go_wp2_with fail
                obtain ⟨X2, hX2⟩ : ∃ W, Hid (W = wo2.drew) := ⟨_, Lib.hid rfl⟩
                have dX2 : Below wo2.heap.size wo2 X2 := by rw [hX2.out]; exact below_drew (Below.refl _ _)
                have PX2 := Lib.hid (HF2.out.below dX2)
                have QX2 := Lib.hid (HP2.out.below dX2)
                have X27 : Hid (∀ w', Below X2.heap.size X2 w' → w'.heap[G7]? = some (.cells (plC pp).toArray 35 (0, 0))) := fun w' h' => (h'.block G7 (Nat.lt_of_lt_of_le (lt_of_blk RF2.out) dX2.size)).trans ((dX2.block G7 (lt_of_blk RF2.out)).trans RF2.out)
                have X29 : Hid (∀ w', Below X2.heap.size X2 w' → w'.heap[G7 + 1]? = some (.cells (plC qq).toArray 35 (0, 0))) := fun w' h' => (h'.block (G7 + 1) (Nat.lt_of_lt_of_le (lt_of_blk RM2.out) dX2.size)).trans ((dX2.block (G7 + 1) (lt_of_blk RM2.out)).trans RM2.out)
                have hpn : Hid (pp.n ≤ 1000000) := by have h1 := HF2.out.rk.len; have h2 := HR11.out.len; have h3 := Hn1.out; unfold Hid; omega
                have hqn : Hid (qq.n ≤ 1000000) := by have h1 := HP2.out.rk.len; have h2 := HR12.out.len; have h3 := Hn2.out; unfold Hid; omega
                have bX2 : Hid (Below w3.heap.size w3 X2) := hb2.out.trans (dX2.mono hb2.out.size)
                clear dX2
                refine wp_region_noPanic ?_
                refine wp_region_held_drew (S := fun w' => Below X2.heap.size X2 w') (by kernel_rfl) (by rw [← hX2.out]; exact Below.refl _ _) (fun hS => ?_)
                rw [← hX2.out]
                clear hS
                have hS : Below X2.heap.size X2 X2 := Below.refl _ _
                refine wpAnyH_take (i := 0) (v := ?vz0) rfl (by kernel_rfl) (by kernel_rfl) (by kernel_rfl) (fun _ _ _ h => h) (Or.inl ⟨by rfl, ?hyz0⟩) hS ?restz0
                case hyz0 => (intro w' hSw; go_simp; first | done | with_reducible rfl)
                try simp only [Act.put, List.getElem_toArray, List.getElem_cons_zero, List.getElem_cons_succ, List.setIfInBounds_toArray, List.set_cons_zero, List.set_cons_succ]
                refine wpAnyH_take (i := 1) (v := .pointer (some ⟨pp.gb, 0, none⟩)) rfl (by kernel_rfl) (by kernel_rfl) (by kernel_rfl) (fun _ _ _ h => h) (Or.inl ⟨by rfl, ?hyz1⟩) hS ?restz1
                case hyz1 => (intro w' hSw; have c0 : w'.cell? ⟨G7, 0, none⟩ = some (.pointer (some ⟨pp.gb, 0, none⟩)) := cell_blk (X27.out w' hSw) 0 rfl; go_simp; first | done | with_reducible rfl)
                try simp only [Act.put, List.getElem_toArray, List.getElem_cons_zero, List.getElem_cons_succ, List.setIfInBounds_toArray, List.set_cons_zero, List.set_cons_succ]
                refine wpAnyH_take (i := 4) (v := ?vz4) rfl (by kernel_rfl) (by kernel_rfl) (by kernel_rfl) (fun _ _ _ h => h) (Or.inl ⟨by rfl, ?hyz4⟩) hS ?restz4
                case hyz4 => (intro w' hSw; go_simp; first | done | with_reducible rfl)
                try simp only [Act.put, List.getElem_toArray, List.getElem_cons_zero, List.getElem_cons_succ, List.setIfInBounds_toArray, List.set_cons_zero, List.set_cons_succ]
                refine wpAnyH_take (i := 5) (v := .agg #[.slice pp.A pp.n pp.c]) rfl (by kernel_rfl) (by kernel_rfl) (by kernel_rfl) (fun _ _ _ h => h) (Or.inl ⟨by rfl, ?hyz5⟩) hS ?restz5
                case hyz5 => (intro w' hSw; have c0 : w'.cell? ⟨G7, 2, none⟩ = some (.slice pp.A pp.n pp.c) := cell_blk (X27.out w' hSw) 2 rfl; go_simp; first | done | with_reducible rfl)
                try simp only [Act.put, List.getElem_toArray, List.getElem_cons_zero, List.getElem_cons_succ, List.setIfInBounds_toArray, List.set_cons_zero, List.set_cons_succ]
                refine wpAnyH_ready (rs := [2]) (by kernel_rfl) (by simp) ?_
                refine AllReadyH.cons rfl (fun K hK => ?_) AllReadyH.nil
                go_simp
                refine (bput_ pp.gb S1 pp.ob _ none 0 0 [] X2 (PX2.out.below (Below.refl _ _)).pr.bk (Rd.nil _ _ _ _) (by decide)).mono ?_
                rintro e yz1 hr7
                obtain ⟨Aa1, ma1, ca1, rfl, hma1, o7, bk⟩ := hr7.n
                have Oa1 := Lib.hid (Rd.of_own o7)
                clear o7 hr7
                go_wp2_with fail
                have Bz1 := Lib.hid bk
                refine hK.out _ _ bk ?_
                intro hS
                clear hK K hS bk
                try simp only [Act.put, List.getElem_toArray, List.getElem_cons_zero, List.getElem_cons_succ, List.setIfInBounds_toArray, List.set_cons_zero, List.set_cons_succ]
                refine wpAnyH_strong (S2 := fun w' => Below yz1.heap.size yz1 w') (fun w' h' => Bz1.out.trans (h'.mono Bz1.out.size)) _ _ _ _ ?_
                have hS : Below yz1.heap.size yz1 yz1 := Below.refl _ _
                refine wpAnyH_take (i := 3) (v := .string (str ([] ++ putL S1))) rfl (by kernel_rfl) (by kernel_rfl) (by kernel_rfl) (fun _ _ _ h => h) (Or.inl ⟨by rfl, ?hyz3⟩) hS ?restz3
                case hyz3 => (intro w' hSw; have hc := conv8 w' Aa1 ma1 ca1 _ (Oa1.out.to hSw); go_simp; first | done | with_reducible rfl)
                try simp only [Act.put, List.getElem_toArray, List.getElem_cons_zero, List.getElem_cons_succ, List.setIfInBounds_toArray, List.set_cons_zero, List.set_cons_succ]
                refine wpAnyH_ready (rs := [6]) (by kernel_rfl) (by simp) ?_
                refine AllReadyH.cons rfl (fun K hK => ?_) AllReadyH.nil
                go_simp
                refine (rput_ pp.A pp.n pp.c S1 _ none 0 0 [] yz1 (PX2.out.below Bz1.out).rk hpn.out (PX2.out.below Bz1.out).lt HR11.out.ok (Rd.nil _ _ _ _) (by decide)).mono ?_
                rintro e yz2 hr7
                obtain ⟨Aa2, ma2, ca2, rfl, hma2, o7, bk⟩ := hr7.n
                have Oa2 := Lib.hid (Rd.of_own o7)
                clear o7 hr7
                go_wp2_with fail
                have Bz2 := Lib.hid bk
                refine hK.out _ _ bk ?_
                intro hS
                clear hK K hS bk
                try simp only [Act.put, List.getElem_toArray, List.getElem_cons_zero, List.getElem_cons_succ, List.setIfInBounds_toArray, List.set_cons_zero, List.set_cons_succ]
                refine wpAnyH_strong (S2 := fun w' => Below yz2.heap.size yz2 w') (fun w' h' => Bz2.out.trans (h'.mono Bz2.out.size)) _ _ _ _ ?_
                have hS : Below yz2.heap.size yz2 yz2 := Below.refl _ _
                refine wpAnyH_take (i := 7) (v := .string (str ([] ++ putL S1))) rfl (by kernel_rfl) (by kernel_rfl) (by kernel_rfl) (fun _ _ _ h => h) (Or.inl ⟨by rfl, ?hyz7⟩) hS ?restz7
                case hyz7 => (intro w' hSw; have hc := conv8 w' Aa2 ma2 ca2 _ (Oa2.out.to hSw); go_simp; first | done | with_reducible rfl)
                try simp only [Act.put, List.getElem_toArray, List.getElem_cons_zero, List.getElem_cons_succ, List.setIfInBounds_toArray, List.set_cons_zero, List.set_cons_succ]
                refine wpAnyH_take (i := 8) (v := .bool true) rfl (by kernel_rfl) (by kernel_rfl) (by kernel_rfl) (fun _ _ _ h => h) (Or.inl ⟨by rfl, ?hyz8⟩) hS ?restz8
                case hyz8 => (intro w' hSw; go_simp; first | done | with_reducible rfl)
                try simp only [Act.put, List.getElem_toArray, List.getElem_cons_zero, List.getElem_cons_succ, List.setIfInBounds_toArray, List.set_cons_zero, List.set_cons_succ]
                refine wpAnyH_take (i := 9) (v := .bool true) rfl (by kernel_rfl) (by kernel_rfl) (by kernel_rfl) (fun _ _ _ h => h) (Or.inl ⟨by rfl, ?hyz9⟩) hS ?restz9
                case hyz9 => (intro w' hSw; go_simp; first | done | with_reducible rfl)
                try simp only [Act.put, List.getElem_toArray, List.getElem_cons_zero, List.getElem_cons_succ, List.setIfInBounds_toArray, List.set_cons_zero, List.set_cons_succ]
                refine wpAnyH_take (i := 10) (v := ?vz10) rfl (by kernel_rfl) (by kernel_rfl) (by kernel_rfl) (fun _ _ _ h => h) (Or.inl ⟨by rfl, ?hyz10⟩) hS ?restz10
                case hyz10 => (intro w' hSw; go_simp; first | done | with_reducible rfl)
                try simp only [Act.put, List.getElem_toArray, List.getElem_cons_zero, List.getElem_cons_succ, List.setIfInBounds_toArray, List.set_cons_zero, List.set_cons_succ]
                refine wpAnyH_take (i := 11) (v := .pointer (some ⟨qq.gb, 0, none⟩)) rfl (by kernel_rfl) (by kernel_rfl) (by kernel_rfl) (fun _ _ _ h => h) (Or.inl ⟨by rfl, ?hyz11⟩) hS ?restz11
                case hyz11 => (intro w' hSw; have c0 : w'.cell? ⟨G7 + 1, 0, none⟩ = some (.pointer (some ⟨qq.gb, 0, none⟩)) := cell_blk (X29.out w' (Bz1.out.trans ((Bz2.out.trans (hSw.mono Bz2.out.size)).mono Bz1.out.size))) 0 rfl; go_simp; first | done | with_reducible rfl)
                try simp only [Act.put, List.getElem_toArray, List.getElem_cons_zero, List.getElem_cons_succ, List.setIfInBounds_toArray, List.set_cons_zero, List.set_cons_succ]
                refine wpAnyH_take (i := 14) (v := ?vz14) rfl (by kernel_rfl) (by kernel_rfl) (by kernel_rfl) (fun _ _ _ h => h) (Or.inl ⟨by rfl, ?hyz14⟩) hS ?restz14
                case hyz14 => (intro w' hSw; go_simp; first | done | with_reducible rfl)
                try simp only [Act.put, List.getElem_toArray, List.getElem_cons_zero, List.getElem_cons_succ, List.setIfInBounds_toArray, List.set_cons_zero, List.set_cons_succ]
                refine wpAnyH_take (i := 15) (v := .agg #[.slice qq.A qq.n qq.c]) rfl (by kernel_rfl) (by kernel_rfl) (by kernel_rfl) (fun _ _ _ h => h) (Or.inl ⟨by rfl, ?hyz15⟩) hS ?restz15
                case hyz15 => (intro w' hSw; have c0 : w'.cell? ⟨G7 + 1, 2, none⟩ = some (.slice qq.A qq.n qq.c) := cell_blk (X29.out w' (Bz1.out.trans ((Bz2.out.trans (hSw.mono Bz2.out.size)).mono Bz1.out.size))) 2 rfl; go_simp; first | done | with_reducible rfl)
                try simp only [Act.put, List.getElem_toArray, List.getElem_cons_zero, List.getElem_cons_succ, List.setIfInBounds_toArray, List.set_cons_zero, List.set_cons_succ]
                refine wpAnyH_ready (rs := [12]) (by kernel_rfl) (by simp) ?_
                refine AllReadyH.cons rfl (fun K hK => ?_) AllReadyH.nil
                go_simp
                refine (bput_ qq.gb S2 qq.ob _ none 0 0 [] yz2 (QX2.out.below (Bz1.out.trans (Bz2.out.mono Bz1.out.size))).pr.bk (Rd.nil _ _ _ _) (by decide)).mono ?_
                rintro e yz3 hr7
                obtain ⟨Aa3, ma3, ca3, rfl, hma3, o7, bk⟩ := hr7.n
                have Oa3 := Lib.hid (Rd.of_own o7)
                clear o7 hr7
                go_wp2_with fail
                have Bz3 := Lib.hid bk
                refine hK.out _ _ bk ?_
                intro hS
                clear hK K hS bk
                try simp only [Act.put, List.getElem_toArray, List.getElem_cons_zero, List.getElem_cons_succ, List.setIfInBounds_toArray, List.set_cons_zero, List.set_cons_succ]
                refine wpAnyH_strong (S2 := fun w' => Below yz3.heap.size yz3 w') (fun w' h' => Bz3.out.trans (h'.mono Bz3.out.size)) _ _ _ _ ?_
                have hS : Below yz3.heap.size yz3 yz3 := Below.refl _ _
                refine wpAnyH_take (i := 13) (v := .string (str ([] ++ putL S2))) rfl (by kernel_rfl) (by kernel_rfl) (by kernel_rfl) (fun _ _ _ h => h) (Or.inl ⟨by rfl, ?hyz13⟩) hS ?restz13
                case hyz13 => (intro w' hSw; have hc := conv8 w' Aa3 ma3 ca3 _ (Oa3.out.to hSw); go_simp; first | done | with_reducible rfl)
                try simp only [Act.put, List.getElem_toArray, List.getElem_cons_zero, List.getElem_cons_succ, List.setIfInBounds_toArray, List.set_cons_zero, List.set_cons_succ]
                refine wpAnyH_ready (rs := [16]) (by kernel_rfl) (by simp) ?_
                refine AllReadyH.cons rfl (fun K hK => ?_) AllReadyH.nil
                go_simp
                refine (rput_ qq.A qq.n qq.c S2 _ none 0 0 [] yz3 (QX2.out.below (Bz1.out.trans ((Bz2.out.trans (Bz3.out.mono Bz2.out.size)).mono Bz1.out.size))).rk hqn.out (QX2.out.below (Bz1.out.trans ((Bz2.out.trans (Bz3.out.mono Bz2.out.size)).mono Bz1.out.size))).lt HR12.out.ok (Rd.nil _ _ _ _) (by decide)).mono ?_
                rintro e yz4 hr7
                obtain ⟨Aa4, ma4, ca4, rfl, hma4, o7, bk⟩ := hr7.n
                have Oa4 := Lib.hid (Rd.of_own o7)
                clear o7 hr7
                go_wp2_with fail
                have Bz4 := Lib.hid bk
                refine hK.out _ _ bk ?_
                intro hS
                clear hK K hS bk
                try simp only [Act.put, List.getElem_toArray, List.getElem_cons_zero, List.getElem_cons_succ, List.setIfInBounds_toArray, List.set_cons_zero, List.set_cons_succ]
                refine wpAnyH_strong (S2 := fun w' => Below yz4.heap.size yz4 w') (fun w' h' => Bz4.out.trans (h'.mono Bz4.out.size)) _ _ _ _ ?_
                have hS : Below yz4.heap.size yz4 yz4 := Below.refl _ _
                refine wpAnyH_take (i := 17) (v := .string (str ([] ++ putL S2))) rfl (by kernel_rfl) (by kernel_rfl) (by kernel_rfl) (fun _ _ _ h => h) (Or.inl ⟨by rfl, ?hyz17⟩) hS ?restz17
                case hyz17 => (intro w' hSw; have hc := conv8 w' Aa4 ma4 ca4 _ (Oa4.out.to hSw); go_simp; first | done | with_reducible rfl)
                try simp only [Act.put, List.getElem_toArray, List.getElem_cons_zero, List.getElem_cons_succ, List.setIfInBounds_toArray, List.set_cons_zero, List.set_cons_succ]
                refine wpAnyH_take (i := 18) (v := .bool true) rfl (by kernel_rfl) (by kernel_rfl) (by kernel_rfl) (fun _ _ _ h => h) (Or.inl ⟨by rfl, ?hyz18⟩) hS ?restz18
                case hyz18 => (intro w' hSw; go_simp; first | done | with_reducible rfl)
                try simp only [Act.put, List.getElem_toArray, List.getElem_cons_zero, List.getElem_cons_succ, List.setIfInBounds_toArray, List.set_cons_zero, List.set_cons_succ]
                refine wpAnyH_take (i := 19) (v := .bool true) rfl (by kernel_rfl) (by kernel_rfl) (by kernel_rfl) (fun _ _ _ h => h) (Or.inl ⟨by rfl, ?hyz19⟩) hS ?restz19
                case hyz19 => (intro w' hSw; go_simp; first | done | with_reducible rfl)
                try simp only [Act.put, List.getElem_toArray, List.getElem_cons_zero, List.getElem_cons_succ, List.setIfInBounds_toArray, List.set_cons_zero, List.set_cons_succ]
                refine wpAnyH_take (i := 20) (v := .bool true) rfl (by kernel_rfl) (by kernel_rfl) (by kernel_rfl) (fun _ _ _ h => h) (Or.inl ⟨by rfl, ?hyz20⟩) hS ?restz20
                case hyz20 => (intro w' hSw; go_simp; first | done | with_reducible rfl)
                try simp only [Act.put, List.getElem_toArray, List.getElem_cons_zero, List.getElem_cons_succ, List.setIfInBounds_toArray, List.set_cons_zero, List.set_cons_succ]
                refine wpAnyH_ready (rs := [21]) (by kernel_rfl) (by simp) ?_
                refine AllReadyH.cons rfl (fun K hK => ?_) AllReadyH.nil
                go_simp
                refine (awake_ yz4).mono ?_
                rintro e yz5 ⟨rfl, bk⟩
                go_wp2_with fail
                have Bz5 := Lib.hid bk
                refine hK.out _ _ bk ?_
                intro hS
                clear hK K hS bk
                try simp only [Act.put, List.getElem_toArray, List.getElem_cons_zero, List.getElem_cons_succ, List.setIfInBounds_toArray, List.set_cons_zero, List.set_cons_succ]
                refine wpAnyH_strong (S2 := fun w' => Below yz5.heap.size yz5 w') (fun w' h' => Bz5.out.trans (h'.mono Bz5.out.size)) _ _ _ _ ?_
                have hS : Below yz5.heap.size yz5 yz5 := Below.refl _ _
                refine wpAnyH_take (i := 22) (v := .bool true) rfl (by kernel_rfl) (by kernel_rfl) (by kernel_rfl) (fun _ _ _ h => h) (Or.inl ⟨by rfl, ?hyz22⟩) hS ?restz22
                case hyz22 => (intro w' hSw; go_simp; first | done | with_reducible rfl)
                try simp only [Act.put, List.getElem_toArray, List.getElem_cons_zero, List.getElem_cons_succ, List.setIfInBounds_toArray, List.set_cons_zero, List.set_cons_succ]
                refine wpAnyH_take (i := 23) (v := ?vz23) rfl (by kernel_rfl) (by kernel_rfl) (by kernel_rfl) (fun _ _ _ h => h) (Or.inl ⟨by rfl, ?hyz23⟩) hS ?restz23
                case hyz23 => (intro w' hSw; go_simp; first | done | with_reducible rfl)
                try simp only [Act.put, List.getElem_toArray, List.getElem_cons_zero, List.getElem_cons_succ, List.setIfInBounds_toArray, List.set_cons_zero, List.set_cons_succ]
                refine wpAnyH_done (by kernel_rfl) (NoPanic.normal ?_) _
                have BE : Hid (Below w3.heap.size w3 yz5) := bX2.out.trans ((Bz1.out.trans ((Bz2.out.trans ((Bz3.out.trans ((Bz4.out.trans (Bz5.out.mono Bz4.out.size)).mono Bz3.out.size)).mono Bz2.out.size)).mono Bz1.out.size)).mono bX2.out.size)
                go_wp2_with fail
                go_ret
                exact ⟨rfl, BwB.out.trans (BE.out.mono BwB.out.size)⟩
end Go.Proofs.Ytabcbpcfleociaa
