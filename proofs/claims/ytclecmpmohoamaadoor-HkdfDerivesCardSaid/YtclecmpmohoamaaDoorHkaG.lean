/- The document's Expand; both Derive. (Printed by gen_hkg.py.) -/
import Derived.Test.YtclecmpmohoamaaDoorHkaF
import Derived.Test.YtclecmpmohoamaaDoorReg
namespace Go.Proofs.YtclecmpmohoamaaDoor
open Go.RowKit
attribute [local go_sem ↓] Go.wp_at_zero Go.wp_at_succ
set_option linter.unusedSimpArgs false
set_option linter.unusedVariables false
theorem range_keep {w w' : World} {g B : Nat} {cs : List Value} (h : w.rangeAt g 0 cs) (hb : Below B w w') (hg : g < B) : w'.rangeAt g 0 cs := fun j v hj => (World.cell?_of_block (a := ⟨g, 0 + j, none⟩) (hb.block g hg)).trans (h j v hj)
set_option maxRecDepth 20000 in
set_option maxHeartbeats 8000000 in
theorem rExpand_in (A : Option Addr) (n c : Nat) (key : List UInt8) (A' : Option Addr) (n' c' : Nat) (info : List UInt8) (k : Nat) (w : World) (hr : Rd w w.heap.size 1 A n (key.map B8)) (hr' : Rd w w.heap.size 1 A' n' (info.map B8)) (hn : n ≤ 800000) (hn' : n' ≤ 800000) (hk : k ≤ 8160) :
    Calls Tryd.prog 32 #[.slice A n c, .slice A' n' c', .int .i64 k] w (RetX key info k w) := by
  have hil : info.length = n' := by simpa using hr'.len
  have HR := Lib.hid hr
  have HR' := Lib.hid hr'
  clear hr hr'
  have hk0 : ¬ (k : Int) < 0 := by omega
  have hk1 : ¬ (8160 : Int) < k := by omega
  go_enter Tryd.func32, Tryd.ntmps32
  go_wp2_with fail
  refine (kind_32 _).mono ?_
  rintro e w1 ⟨A1, c1, A2, c2, rfl, h1, h2, hb1⟩
  have Ht1 : Hid ((w1.alloc (.cells #[.int .i64 0, .int .i64 0, .int .i64 0, .int .i64 0, .int .i64 0, .int .i64 0, .int .i64 0, .int .i64 0, .int .i64 0, .int .i64 0, .int .i64 0, .int .i64 0, .int .i64 0, .int .i64 0, .slice none 0 0, .slice none 0 0] 50)).there w1.heap.size 0 (#[.int .i64 32, .int .i64 64, .int .i64 2, .int .i64 13, .int .i64 22, .int .i64 6, .int .i64 11, .int .i64 25, .int .i64 7, .int .i64 18, .int .i64 3, .int .i64 17, .int .i64 19, .int .i64 10, .slice A1 64 c1, .slice A2 8 c2] : Array Value).size) := there_blk (heap_alloc_new w1 _) rfl
  have Hi1 : Hid ((Tryd.prog.info? 50).map (·.size) = some (#[.int .i64 32, .int .i64 64, .int .i64 2, .int .i64 13, .int .i64 22, .int .i64 6, .int .i64 11, .int .i64 25, .int .i64 7, .int .i64 18, .int .i64 3, .int .i64 17, .int .i64 19, .int .i64 10, .slice A1 64 c1, .slice A2 8 c2] : Array Value).size) := Lib.hid (by kernel_rfl)
  have Ho1 : Hid ((#[.int .i64 32, .int .i64 64, .int .i64 2, .int .i64 13, .int .i64 22, .int .i64 6, .int .i64 11, .int .i64 25, .int .i64 7, .int .i64 18, .int .i64 3, .int .i64 17, .int .i64 19, .int .i64 10, .slice A1 64 c1, .slice A2 8 c2] : Array Value).all (·.oneCell') = true) := by unfold Hid; kernel_rfl
  have hba : Below w1.heap.size w1 (w1.alloc (.cells #[.int .i64 0, .int .i64 0, .int .i64 0, .int .i64 0, .int .i64 0, .int .i64 0, .int .i64 0, .int .i64 0, .int .i64 0, .int .i64 0, .int .i64 0, .int .i64 0, .int .i64 0, .int .i64 0, .slice none 0 0, .slice none 0 0] 50)) := (Below.refl _ _).alloc (Nat.le_refl _) _
  have hs1 := hb1.size
  obtain ⟨gk, hgk⟩ : ∃ g, Hid (g = w1.heap.size) := ⟨_, Lib.hid rfl⟩
  go_wp2_with (
    refine wpList_store_mid rfl 50 (.tmp 8) (.tmp 18) rfl w1.heap.size 0 _ rfl rfl ?_ ?_ ?_ ?_
    · exact Ht1.out
    · exact Hi1.out
    · exact Ho1.out
    generalize hwf : World.setCells _ w1.heap.size 0 _ = wf
    have Hwf := Lib.hid hwf
    clear hwf)
  rw [← hgk.out]
  have hra : Hid (wf.rangeAt gk 0 [.int .i64 32, .int .i64 64, .int .i64 2, .int .i64 13, .int .i64 22, .int .i64 6, .int .i64 11, .int .i64 25, .int .i64 7, .int .i64 18, .int .i64 3, .int .i64 17, .int .i64 19, .int .i64 10, .slice A1 64 c1, .slice A2 8 c2]) := by
    have h := World.rangeAt_setCells_same _ w1.heap.size 0 (#[.int .i64 32, .int .i64 64, .int .i64 2, .int .i64 13, .int .i64 22, .int .i64 6, .int .i64 11, .int .i64 25, .int .i64 7, .int .i64 18, .int .i64 3, .int .i64 17, .int .i64 19, .int .i64 10, .slice A1 64 c1, .slice A2 8 c2] : Array Value).toList Ht1.out
    rw [Hwf.out] at h
    rw [hgk.out]
    exact h
  have hb1f : Below w1.heap.size w1 wf := by rw [← Hwf.out]; exact below_setCells hba 0 _ (Nat.le_refl _) (Nat.le_refl _)
  have hgl : gk < wf.heap.size := World.block_lt_of_cell? wf ⟨gk, 0 + 0, none⟩ (hra.out 0 _ rfl)
  have S01 := Lib.hid (h1.to hb1f)
  have S02 := Lib.hid (h2.to hb1f)
  have hBf : Hid (Below w.heap.size w wf) := hb1.trans (hb1f.mono hs1)
  have hsf := hBf.out.size
  have hR0 : Hid (Rd wf wf.heap.size 1 none 0 ((hout key info 0).map B8)) := Rd.nil _ _ _ _
  have hL0 : Hid (Rd wf wf.heap.size 1 none 0 ((htk key info 0).map B8)) := Rd.nil _ _ _ _
  clear h1 h2 hba Ht1 Hi1 Ho1 Hwf hb1f hs1 hb1
  go_wp2_with fail
  go_loopw [9, 10, 11] (fun x9 x10 x11 wr => ∃ (i j mo : Nat) (Ao : Option Addr) (co ml : Nat) (Al : Option Addr) (cl : Nat), x9 = .slice Ao mo co ∧ x10 = .slice Al ml cl ∧ x11 = .int .i64 j ∧ Hid (j = i + 1) ∧ Hid (mo = 32 * i) ∧ Hid (32 * i < k + 32) ∧ mo ≤ co ∧ Hid (Rd wr wr.heap.size 1 Ao mo ((hout key info i).map B8)) ∧ Hid (Rd wr wr.heap.size 1 Al ml ((htk key info i).map B8)) ∧ Hid (Below wf.heap.size wf wr)) (fun x9 _ _ _ => k - slN x9)
  case atStart => exact ⟨0, 1, 0, none, 0, 0, none, 0, rfl, rfl, rfl, rfl, rfl, by unfold Hid; omega, Nat.le_refl _, hR0, hL0, Below.refl _ _⟩
  case round =>
    obtain ⟨i, j, mo, Ao, co, ml, Al, cl, rfl, rfl, rfl, hj, hmo, hik, hmc, hO, hL, hb⟩ := hrel
    have hsr := hb.out.size
    by_cases hmk : mo < k
    · have hmk' : (mo : Int) < k := by omega
      have hib : i ≤ 300 := by have := hmo.out; omega
      obtain ⟨j1, hj1⟩ : ∃ m : Nat, Hid (m = j + 1) := ⟨_, Lib.hid rfl⟩
      have hjb : j ≤ 301 := by have := hj.out; omega
      have fi : IntKind.i64.wrap ((j : Int) + 1) = (j1 : Int) := by rw [IntWalk.i64_in _ (by omega), hj1.out]; omega
      have fi' : (j : Int) + 1 = (j1 : Int) := by rw [hj1.out]; omega
      obtain ⟨z, hz⟩ : ∃ z : UInt8, Hid (UInt8.ofNat (i + 1) = z) := ⟨_, Lib.hid rfl⟩
      have fz : IntKind.u8.wrap (j : Int) = (z.toNat : Int) := by rw [IntKind.wrap_u8', hj.out, ← hz.out, UInt8.toNat_ofNat']; omega
      have hmob : mo ≤ 9600 := by have := hmo.out; omega
      have hml2 : ml ≤ 32 := by have h1 := hL.out.len; rw [List.length_map] at h1; have := htk_le key info i; omega
      have hnx : Hid (hmac key (htk key info i ++ info ++ [z]) = htk key info (i + 1)) := by unfold Hid; rw [htk, hz.out]
      have hno : Hid (hout key info i ++ htk key info (i + 1) = hout key info (i + 1)) := rfl
      have hoz := Lib.hid (oneB [z])
      go_wp2_with fail
      obtain ⟨X, hX⟩ : ∃ W, Hid (W = wr.drew) := ⟨_, Lib.hid rfl⟩
      have dX : Below wr.heap.size wr X := by rw [hX.out]; exact below_drew (Below.refl _ _)
      have hfX : Below wf.heap.size wf X := hb.out.trans (dX.mono hsr)
      have hKq : Hid (∀ w', Below X.heap.size X w' → w'.rangeAt gk 0 [.int .i64 32, .int .i64 64, .int .i64 2, .int .i64 13, .int .i64 22, .int .i64 6, .int .i64 11, .int .i64 25, .int .i64 7, .int .i64 18, .int .i64 3, .int .i64 17, .int .i64 19, .int .i64 10, .slice A1 64 c1, .slice A2 8 c2]) := fun w' h => range_keep (range_keep hra.out hfX hgl) h (Nat.lt_of_lt_of_le hgl hfX.size)
      have S1 := Lib.hid (S01.out.to hfX)
      have S2 := Lib.hid (S02.out.to hfX)
      have hwX : Below w.heap.size w X := hBf.out.trans (hfX.mono hsf)
      have HK := Lib.hid (HR.out.to hwX)
      have q2 := Lib.hid (HR'.out.to hwX)
      have q1 := Lib.hid (hL.out.to dX)
      have qO := Lib.hid (hO.out.to dX)
      have hB := Lib.hid hfX
      clear hwX
      refine wp_region_noPanic ?_
      refine wp_region_held_drew (S := fun w' => Below X.heap.size X w') (by kernel_rfl) (by rw [hX.out]; exact Below.refl _ _) (fun hS => ?_)
      rw [← hX.out]
      clear hS
      have hS : Below X.heap.size X X := Below.refl _ _
      refine wpAnyH_take (i := 0) (v := _) rfl (by kernel_rfl) (by kernel_rfl) (by kernel_rfl) (fun _ _ _ h => h) (yields_load (by rfl) (.tmp 8) (by rfl) (by rfl) (fun w' hSw => run_loadAt_mid (P := Tryd.prog) w' gk 0 50 [.int .i64 32, .int .i64 64, .int .i64 2, .int .i64 13, .int .i64 22, .int .i64 6, .int .i64 11, .int .i64 25, .int .i64 7, .int .i64 18, .int .i64 3, .int .i64 17, .int .i64 19, .int .i64 10, .slice A1 64 c1, .slice A2 8 c2] _ (hKq.out w' hSw) Tryd.underlying50 rfl (by kernel_rfl))) hS ?rest0
      try simp only [Act.put, List.getElem_toArray, List.getElem_cons_zero, List.getElem_cons_succ, List.setIfInBounds_toArray, List.set_cons_zero, List.set_cons_succ]
      refine wpAnyH_take (i := 1) (v := ?v1) rfl (by kernel_rfl) (by kernel_rfl) (by kernel_rfl) (fun _ _ _ h => h) (Or.inl ⟨by rfl, ?hy1⟩) hS ?rest1
      case hy1 => (intro w hSw; go_simp; first | done | with_reducible rfl)
      try simp only [Act.put, List.getElem_toArray, List.getElem_cons_zero, List.getElem_cons_succ, List.setIfInBounds_toArray, List.set_cons_zero, List.set_cons_succ]
      refine wpAnyH_take (i := 2) (v := ?v2) rfl (by kernel_rfl) (by kernel_rfl) (by kernel_rfl) (fun _ _ _ h => h) (Or.inl ⟨by rfl, ?hy2⟩) hS ?rest2
      case hy2 => (intro w hSw; go_simp; first | done | with_reducible rfl)
      try simp only [Act.put, List.getElem_toArray, List.getElem_cons_zero, List.getElem_cons_succ, List.setIfInBounds_toArray, List.set_cons_zero, List.set_cons_succ]
      refine wpAnyH_take (i := 3) (v := ?v3) rfl (by kernel_rfl) (by kernel_rfl) (by kernel_rfl) (fun _ _ _ h => h) (Or.inl ⟨by rfl, ?hy3⟩) hS ?rest3
      case hy3 => (intro w hSw; go_simp; first | done | with_reducible rfl)
      try simp only [Act.put, List.getElem_toArray, List.getElem_cons_zero, List.getElem_cons_succ, List.setIfInBounds_toArray, List.set_cons_zero, List.set_cons_succ]
      refine wpAnyH_take (i := 5) (v := ?v5) rfl (by kernel_rfl) (by kernel_rfl) (by kernel_rfl) (fun _ _ _ h => h) (Or.inl ⟨by rfl, ?hy5⟩) hS ?rest5
      case hy5 => (intro w hSw; go_simp; first | done | with_reducible rfl)
      try simp only [Act.put, List.getElem_toArray, List.getElem_cons_zero, List.getElem_cons_succ, List.setIfInBounds_toArray, List.set_cons_zero, List.set_cons_succ]
      refine wpAnyH_take (i := 6) (v := ?v6) rfl (by kernel_rfl) (by kernel_rfl) (by kernel_rfl) (fun _ _ _ h => h) (Or.inl ⟨by rfl, ?hy6⟩) hS ?rest6
      case hy6 => (intro w hSw; go_simp; first | done | with_reducible rfl)
      try simp only [Act.put, List.getElem_toArray, List.getElem_cons_zero, List.getElem_cons_succ, List.setIfInBounds_toArray, List.set_cons_zero, List.set_cons_succ]
      refine wpAnyH_ready (rs := [4, 7]) (by kernel_rfl) (by simp) ?_
      refine AllReadyH.cons rfl (fun K hK => ?_) (AllReadyH.cons rfl (fun K hK => ?_) AllReadyH.nil)
      · go_simp
        refine (rJoin_ Al ml cl (htk key info i) A' n' c' info X q1.out q2.out (by omega) (by omega)).mono ?_
        rintro e u14 ⟨A14, c14, m14, hm14, rfl, o14, p14⟩
        go_wp2_with fail
        refine hK.out _ _ p14 ?_
        intro hS
        clear hK K
        try simp only [Act.put, List.getElem_toArray, List.getElem_cons_zero, List.getElem_cons_succ, List.setIfInBounds_toArray, List.set_cons_zero, List.set_cons_succ]
        refine wpAnyH_ready (rs := [7]) (by kernel_rfl) (by simp) ?_
        refine AllReadyH.cons rfl (fun K hK => ?_) AllReadyH.nil
        go_simp
        have p15 := p14.trans ((Below.refl X.heap.size u14).alloc p14.size (.cells #[.int .u8 (z.toNat : Int)] 5))
        refine hK.out _ _ p15 ?_
        intro hS
        clear hK K
        try simp only [Act.put, List.getElem_toArray, List.getElem_cons_zero, List.getElem_cons_succ, List.setIfInBounds_toArray, List.set_cons_zero, List.set_cons_succ]
        have o15 := Lib.hid (o14.to ((Below.refl u14.heap.size u14).alloc (Nat.le_refl _) (.cells #[.int .u8 (z.toNat : Int)] 5)))
        have l15 := Lib.hid (one_lit u14 z)
        have P15 := Lib.hid p15
        obtain ⟨U, hU⟩ : ∃ U, Hid (U = u14.alloc (.cells #[.int .u8 (z.toNat : Int)] 5)) := ⟨_, Lib.hid rfl⟩
        obtain ⟨gz, hgz⟩ : ∃ g, Hid (g = u14.heap.size) := ⟨_, Lib.hid rfl⟩
        rw [← hU.out] at o15 l15 P15 ⊢
        rw [← hgz.out] at l15 ⊢
        clear o14 p14 p15 hS
        refine wpAnyH_ready (rs := [8]) (by kernel_rfl) (by simp) ?_
        refine AllReadyH.cons rfl (fun K hK => ?_) AllReadyH.nil
        refine step_apT (.tmp 29) (.tmp 32) 22 rfl rfl X.heap.size 5 1 (.int .u8 0) Tryd.underlying22 infoB rfl A14 m14 c14 _ rfl o15.out _ (some ⟨gz, 0, none⟩) 1 1 (([z] : List UInt8).map B8) rfl l15.out hoz.out (by have := hm14.out; simp only [maxLen]; omega) (by have := hm14.out; omega) P15.out.size ?_
        intro A15 c15 u15 o16 b16 _ _ _
        rw [← List.map_append] at o16
        have P16 : Below X.heap.size X u15 := P15.out.trans b16
        have o17 := Lib.hid o16.rd
        obtain ⟨m15, hm15⟩ : ∃ m, Hid (m = m14 + 1) := ⟨_, Lib.hid rfl⟩
        rw [← hm15.out] at o17 ⊢
        replace S1 := Lib.hid (S1.out.to P16)
        replace S2 := Lib.hid (S2.out.to P16)
        replace HK := Lib.hid (HK.out.to P16)
        replace qO := Lib.hid (qO.out.to P16)
        replace hB := Lib.hid (hB.out.trans (P16.mono hB.out.size))
        refine hK.out _ _ P16 ?_
        intro hS
        clear hK K o16 b16
        try simp only [Act.put, List.getElem_toArray, List.getElem_cons_zero, List.getElem_cons_succ, List.setIfInBounds_toArray, List.set_cons_zero, List.set_cons_succ]
        refine wpAnyH_strong (S2 := fun w' => Below u15.heap.size u15 w') (fun w' h' => P16.trans (h'.mono P16.size)) _ _ _ _ ?_
        clear hS
        have hS : Below u15.heap.size u15 u15 := Below.refl _ _
        refine wpAnyH_ready (rs := [9]) (by kernel_rfl) (by simp) ?_
        refine AllReadyH.cons rfl (fun K hK => ?_) AllReadyH.nil
        go_simp
        refine (rmac_ A n c key A15 m15 c15 (htk key info i ++ info ++ [z]) A1 A2 c1 c2 u15 S1.out S2.out HK.out o17.out (by omega) (by have := hm14.out; have := hm15.out; omega)).mono ?_
        rintro e u16 ⟨A16, c16, rfl, h16, p16⟩
        rw [hnx.out] at h16
        have q16 := Lib.hid (Rd.of_own h16)
        clear h16
        replace qO := Lib.hid (qO.out.to p16)
        replace hB := Lib.hid (hB.out.trans (p16.mono hB.out.size))
        go_wp2_with fail
        refine hK.out _ _ p16 ?_
        intro hS
        clear hK K
        try simp only [Act.put, List.getElem_toArray, List.getElem_cons_zero, List.getElem_cons_succ, List.setIfInBounds_toArray, List.set_cons_zero, List.set_cons_succ]
        refine wpAnyH_take (i := 10) (v := ?va10) rfl (by kernel_rfl) (by kernel_rfl) (by kernel_rfl) (fun _ _ _ h => h) (Or.inl ⟨by rfl, ?hya10⟩) hS ?resta10
        case hya10 => (intro w hSw; go_simp; first | done | with_reducible rfl)
        try simp only [Act.put, List.getElem_toArray, List.getElem_cons_zero, List.getElem_cons_succ, List.setIfInBounds_toArray, List.set_cons_zero, List.set_cons_succ]
        refine wpAnyH_done (by kernel_rfl) (NoPanic.normal ?_) _
        go_wp2_with fail
        refine (rJoin_ Ao mo co (hout key info i) A16 32 c16 (htk key info (i + 1)) u16 qO.out q16.out (by omega) (by omega)).mono ?_
        rintro e u17 ⟨A17, c17, m17, hm17, rfl, o17', p17⟩
        rw [hno.out] at o17'
        have hB17 := Lib.hid (hB.out.trans (p17.mono hB.out.size))
        have q17 := Lib.hid (q16.out.to p17)
        have r17 := Lib.hid o17'.rd
        have hmc17 := o17'.le
        clear o17'
        go_wp2_with fail
        go_roundw
        case rel => exact ⟨i + 1, j1, m17, A17, c17, 32, A16, c16, rfl, rfl, rfl, by unfold Hid; rw [hj1.out, hj.out], by unfold Hid; rw [hm17.out, hmo.out]; omega, by unfold Hid; have := hmo.out; omega, hmc17, r17, q17, hB17⟩
        case measure => simp only [slN]; rw [hm17.out]; omega
      · go_simp
        have p13 := (Below.refl X.heap.size X).alloc (Nat.le_refl _) (.cells #[.int .u8 (z.toNat : Int)] 5)
        refine hK.out _ _ p13 ?_
        intro hS
        clear hK K
        try simp only [Act.put, List.getElem_toArray, List.getElem_cons_zero, List.getElem_cons_succ, List.setIfInBounds_toArray, List.set_cons_zero, List.set_cons_succ]
        have l13 := Lib.hid (one_lit X z)
        obtain ⟨X1, hX1⟩ : ∃ U, Hid (U = X.alloc (.cells #[.int .u8 (z.toNat : Int)] 5)) := ⟨_, Lib.hid rfl⟩
        rw [← hX1.out] at p13 l13 ⊢
        clear hS
        refine wpAnyH_ready (rs := [4]) (by kernel_rfl) (by simp) ?_
        refine AllReadyH.cons rfl (fun K hK => ?_) AllReadyH.nil
        go_simp
        refine (rJoin_ Al ml cl (htk key info i) A' n' c' info X1 (q1.out.to p13) (q2.out.to p13) (by omega) (by omega)).mono ?_
        rintro e U ⟨A14, c14, m14, hm14, rfl, o14, p14⟩
        have P15 := Lib.hid (p13.trans (p14.mono p13.size))
        go_wp2_with fail
        refine hK.out _ _ P15.out ?_
        intro hS
        clear hK K
        try simp only [Act.put, List.getElem_toArray, List.getElem_cons_zero, List.getElem_cons_succ, List.setIfInBounds_toArray, List.set_cons_zero, List.set_cons_succ]
        have o15 := Lib.hid (o14.mono p13.size)
        have l15 := Lib.hid (l13.out.to p14)
        clear o14 p14 p13 hS
        refine wpAnyH_ready (rs := [8]) (by kernel_rfl) (by simp) ?_
        refine AllReadyH.cons rfl (fun K hK => ?_) AllReadyH.nil
        refine step_apT (.tmp 29) (.tmp 32) 22 rfl rfl X.heap.size 5 1 (.int .u8 0) Tryd.underlying22 infoB rfl A14 m14 c14 _ rfl o15.out _ (some ⟨X.heap.size, 0, none⟩) 1 1 (([z] : List UInt8).map B8) rfl l15.out hoz.out (by have := hm14.out; simp only [maxLen]; omega) (by have := hm14.out; omega) P15.out.size ?_
        intro A15 c15 u15 o16 b16 _ _ _
        rw [← List.map_append] at o16
        have P16 : Below X.heap.size X u15 := P15.out.trans b16
        have o17 := Lib.hid o16.rd
        obtain ⟨m15, hm15⟩ : ∃ m, Hid (m = m14 + 1) := ⟨_, Lib.hid rfl⟩
        rw [← hm15.out] at o17 ⊢
        replace S1 := Lib.hid (S1.out.to P16)
        replace S2 := Lib.hid (S2.out.to P16)
        replace HK := Lib.hid (HK.out.to P16)
        replace qO := Lib.hid (qO.out.to P16)
        replace hB := Lib.hid (hB.out.trans (P16.mono hB.out.size))
        refine hK.out _ _ P16 ?_
        intro hS
        clear hK K o16 b16
        try simp only [Act.put, List.getElem_toArray, List.getElem_cons_zero, List.getElem_cons_succ, List.setIfInBounds_toArray, List.set_cons_zero, List.set_cons_succ]
        refine wpAnyH_strong (S2 := fun w' => Below u15.heap.size u15 w') (fun w' h' => P16.trans (h'.mono P16.size)) _ _ _ _ ?_
        clear hS
        have hS : Below u15.heap.size u15 u15 := Below.refl _ _
        refine wpAnyH_ready (rs := [9]) (by kernel_rfl) (by simp) ?_
        refine AllReadyH.cons rfl (fun K hK => ?_) AllReadyH.nil
        go_simp
        refine (rmac_ A n c key A15 m15 c15 (htk key info i ++ info ++ [z]) A1 A2 c1 c2 u15 S1.out S2.out HK.out o17.out (by omega) (by have := hm14.out; have := hm15.out; omega)).mono ?_
        rintro e u16 ⟨A16, c16, rfl, h16, p16⟩
        rw [hnx.out] at h16
        have q16 := Lib.hid (Rd.of_own h16)
        clear h16
        replace qO := Lib.hid (qO.out.to p16)
        replace hB := Lib.hid (hB.out.trans (p16.mono hB.out.size))
        go_wp2_with fail
        refine hK.out _ _ p16 ?_
        intro hS
        clear hK K
        try simp only [Act.put, List.getElem_toArray, List.getElem_cons_zero, List.getElem_cons_succ, List.setIfInBounds_toArray, List.set_cons_zero, List.set_cons_succ]
        refine wpAnyH_take (i := 10) (v := ?vb10) rfl (by kernel_rfl) (by kernel_rfl) (by kernel_rfl) (fun _ _ _ h => h) (Or.inl ⟨by rfl, ?hyb10⟩) hS ?restb10
        case hyb10 => (intro w hSw; go_simp; first | done | with_reducible rfl)
        try simp only [Act.put, List.getElem_toArray, List.getElem_cons_zero, List.getElem_cons_succ, List.setIfInBounds_toArray, List.set_cons_zero, List.set_cons_succ]
        refine wpAnyH_done (by kernel_rfl) (NoPanic.normal ?_) _
        go_wp2_with fail
        refine (rJoin_ Ao mo co (hout key info i) A16 32 c16 (htk key info (i + 1)) u16 qO.out q16.out (by omega) (by omega)).mono ?_
        rintro e u17 ⟨A17, c17, m17, hm17, rfl, o17', p17⟩
        rw [hno.out] at o17'
        have hB17 := Lib.hid (hB.out.trans (p17.mono hB.out.size))
        have q17 := Lib.hid (q16.out.to p17)
        have r17 := Lib.hid o17'.rd
        have hmc17 := o17'.le
        clear o17'
        go_wp2_with fail
        go_roundw
        case rel => exact ⟨i + 1, j1, m17, A17, c17, 32, A16, c16, rfl, rfl, rfl, by unfold Hid; rw [hj1.out, hj.out], by unfold Hid; rw [hm17.out, hmo.out]; omega, by unfold Hid; have := hmo.out; omega, hmc17, r17, q17, hB17⟩
        case measure => simp only [slN]; rw [hm17.out]; omega
    · have hmk' : ¬ (mo : Int) < k := by omega
      have hkm : k ≤ mo := by omega
      have hkc : (k : Int) ≤ co := by omega
      have hkc0 : (0 : Int) ≤ k := by omega
      have hfin : Hid (Rd wr wr.heap.size 1 Ao k ((hexp key info k).map B8)) := by
        have h1 := hO.out.take (k := k) hkm
        have hie : (k + 31) / 32 = i := by have := hmo.out; have := hik.out; omega
        unfold Hid hexp
        rw [List.map_take, hie]
        exact h1
      have hkco : k ≤ co := by omega
      go_wp2_with fail
      go_ret2
      exact ⟨_, _, rfl, hfin.out, hkco, hBf.out.trans (hb.out.mono hsf)⟩

theorem pDerive_in (A0 : Option Addr) (n0 c0 : Nat) (salt : List UInt8) (A : Option Addr) (n c : Nat) (key : List UInt8) (A' : Option Addr) (n' c' : Nat) (info : List UInt8) (k : Nat) (w : World) (hr0 : Rd w w.heap.size 1 A0 n0 (salt.map B8)) (hr : Rd w w.heap.size 1 A n (key.map B8)) (hc : n ≤ c) (hr' : Rd w w.heap.size 1 A' n' (info.map B8)) (hc' : n' ≤ c') (hn0 : n0 ≤ 800000) (hn : n ≤ 800000) (hn' : n' ≤ 800000) (hk : k ≤ 8160) (hL : LayS w) :
    Calls Tryd.prog 33 #[.slice A0 n0 c0, .slice A n c, .slice A' n' c', .int .i64 k] w (RetX (hmac salt key) info k w) := by
  have HR' := Lib.hid hr'
  have HL := Lib.hid hL
  have HR0 := Lib.hid hr0
  have HR := Lib.hid hr
  clear hr' hL hr0 hr
  go_enter Tryd.func33, Tryd.ntmps33
  go_wp2_with fail
  refine (pExtract_ A0 n0 c0 salt A n c key w HR0.out (by omega) HR.out hc (by omega) HL.out).mono ?_
  rintro e w1 ⟨A1, c1, rfl, h1, hb1⟩
  have H1 := Lib.hid (Rd.of_own h1)
  clear h1
  go_wp2_with fail
  refine (pExpand_in A1 32 c1 (hmac salt key) A' n' c' info k w1 H1.out (HR'.out.to hb1) hc' (by decide) hn' hk (HL.out.go' hb1)).mono ?_
  rintro e w2 ⟨A2, c2, rfl, h2, hc2, hb2⟩
  have H2 := Lib.hid h2
  clear h2
  go_wp2_with fail
  go_ret2
  exact ⟨_, _, rfl, H2.out, hc2, hb1.trans (hb2.mono hb1.size)⟩
theorem pDerive_out (A0 : Option Addr) (n0 c0 : Nat) (salt : List UInt8) (A : Option Addr) (n c : Nat) (key : List UInt8) (A' : Option Addr) (n' c' : Nat) (x : Int) (w : World) (hr0 : Rd w w.heap.size 1 A0 n0 (salt.map B8)) (hr : Rd w w.heap.size 1 A n (key.map B8)) (hc : n ≤ c) (hn0 : n0 ≤ 800000) (hn : n ≤ 800000) (hx : x < 0 ∨ 8160 < x) (hL : LayS w) :
    Calls Tryd.prog 33 #[.slice A0 n0 c0, .slice A n c, .slice A' n' c', .int .i64 x] w (RetN w) := by
  have HL := Lib.hid hL
  have HR0 := Lib.hid hr0
  have HR := Lib.hid hr
  clear hL hr0 hr
  go_enter Tryd.func33, Tryd.ntmps33
  go_wp2_with fail
  refine (pExtract_ A0 n0 c0 salt A n c key w HR0.out (by omega) HR.out hc (by omega) HL.out).mono ?_
  rintro e w1 ⟨A1, c1, rfl, h1, hb1⟩
  clear h1
  go_wp2_with fail
  refine (pExpand_out A1 32 c1 A' n' c' x w1 hx).mono ?_
  rintro e w2 ⟨rfl, hb2⟩
  go_wp2_with fail
  go_ret2
  exact ⟨rfl, hb1.trans (hb2.mono hb1.size)⟩
theorem rDerive_in (A0 : Option Addr) (n0 c0 : Nat) (salt : List UInt8) (A : Option Addr) (n c : Nat) (key : List UInt8) (A' : Option Addr) (n' c' : Nat) (info : List UInt8) (k : Nat) (w : World) (hr0 : Rd w w.heap.size 1 A0 n0 (salt.map B8)) (hr : Rd w w.heap.size 1 A n (key.map B8)) (hr' : Rd w w.heap.size 1 A' n' (info.map B8)) (hn0 : n0 ≤ 800000) (hn : n ≤ 800000) (hn' : n' ≤ 800000) (hk : k ≤ 8160) :
    Calls Tryd.prog 34 #[.slice A0 n0 c0, .slice A n c, .slice A' n' c', .int .i64 k] w (RetX (hmac salt key) info k w) := by
  have HR' := Lib.hid hr'
  have HR0 := Lib.hid hr0
  have HR := Lib.hid hr
  clear hr' hr0 hr
  go_enter Tryd.func34, Tryd.ntmps34
  go_wp2_with fail
  refine (rExtract_ A0 n0 c0 salt A n c key w HR0.out HR.out (by omega) (by omega)).mono ?_
  rintro e w1 ⟨A1, c1, rfl, h1, hb1⟩
  have H1 := Lib.hid (Rd.of_own h1)
  clear h1
  go_wp2_with fail
  refine (rExpand_in A1 32 c1 (hmac salt key) A' n' c' info k w1 H1.out (HR'.out.to hb1) (by decide) hn' hk).mono ?_
  rintro e w2 ⟨A2, c2, rfl, h2, hc2, hb2⟩
  have H2 := Lib.hid h2
  clear h2
  go_wp2_with fail
  go_ret2
  exact ⟨_, _, rfl, H2.out, hc2, hb1.trans (hb2.mono hb1.size)⟩
theorem rDerive_out (A0 : Option Addr) (n0 c0 : Nat) (salt : List UInt8) (A : Option Addr) (n c : Nat) (key : List UInt8) (A' : Option Addr) (n' c' : Nat) (x : Int) (w : World) (hr0 : Rd w w.heap.size 1 A0 n0 (salt.map B8)) (hr : Rd w w.heap.size 1 A n (key.map B8)) (hn0 : n0 ≤ 800000) (hn : n ≤ 800000) (hx : x < 0 ∨ 8160 < x) :
    Calls Tryd.prog 34 #[.slice A0 n0 c0, .slice A n c, .slice A' n' c', .int .i64 x] w (RetN w) := by
  have HR0 := Lib.hid hr0
  have HR := Lib.hid hr
  clear hr0 hr
  go_enter Tryd.func34, Tryd.ntmps34
  go_wp2_with fail
  refine (rExtract_ A0 n0 c0 salt A n c key w HR0.out HR.out (by omega) (by omega)).mono ?_
  rintro e w1 ⟨A1, c1, rfl, h1, hb1⟩
  clear h1
  go_wp2_with fail
  refine (rExpand_out A1 32 c1 A' n' c' x w1 hx).mono ?_
  rintro e w2 ⟨rfl, hb2⟩
  go_wp2_with fail
  go_ret2
  exact ⟨rfl, hb1.trans (hb2.mono hb1.size)⟩
end Go.Proofs.YtclecmpmohoamaaDoor
