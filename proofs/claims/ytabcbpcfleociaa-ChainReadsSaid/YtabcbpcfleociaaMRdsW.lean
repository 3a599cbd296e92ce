/- The law ChainReads, walked. -/
import Derived.Test.YtabcbpcfleociaaMRrC
import Derived.Test.YtabcbpcfleociaaMGeT
import Derived.Test.YtabcbpcfleociaaMPv
import Derived.Test.YtabcbpcfleociaaMPla
namespace Go.Proofs.Ytabcbpcfleociaa
open Go.RowKit
attribute [local go_sem ↓] Go.wp_at_zero Go.wp_at_succ
set_option linter.unusedSimpArgs false
set_option linter.unusedVariables false
theorem rread_ (A : Option Addr) (n c : Nat) (w : World) :
    Calls Try.prog 49 #[.slice A n c] w fun r w' => r = .returned (.agg #[.slice A n c, .int .i64 0]) ∧ Below w.heap.size w w' := by
  obtain ⟨W, hW⟩ : ∃ W, Hid (W = w.alloc (.cells #[.slice A n c, .int .i64 0] 94)) := ⟨_, Lib.hid rfl⟩
  have BW : Hid (Below w.heap.size w W) := by rw [hW.out]; exact (Below.refl _ _).alloc (Nat.le_refl _) _
  have R1 : Hid (W.heap[w.heap.size]? = some (.cells #[.slice A n c, .int .i64 0] 94 (0, 0))) := by unfold Hid; rw [hW.out]; exact heap_alloc_new _ _
  go_enter Try.func49, Try.ntmps49
  go_wp2_with fail
  rw [← hW.out]
  refine bodyPost_ret (v := .agg #[.slice A n c, .int .i64 0]) ?_ rfl ⟨rfl, BW.out⟩
  exact results_cell Try.results49 rfl (run_loadVar_mid (P := Try.prog) W w.heap.size 0 94 _ _ (range_of R1.out) Try.underlying94 rfl (by kernel_rfl))
theorem three (w : World) (X0 X1 X2 : Obj) : Below w.heap.size w (((w.alloc X0).alloc X1).alloc X2) ∧ (((w.alloc X0).alloc X1).alloc X2).heap.size = w.heap.size + 3 ∧
    (((w.alloc X0).alloc X1).alloc X2).heap[w.heap.size]? = some X0 ∧ (((w.alloc X0).alloc X1).alloc X2).heap[w.heap.size + 1]? = some X1 ∧ (((w.alloc X0).alloc X1).alloc X2).heap[w.heap.size + 2]? = some X2 := by
  have s1 := szAlloc w X0
  have s2 := szAlloc (w.alloc X0) X1
  have s3 := szAlloc ((w.alloc X0).alloc X1) X2
  refine ⟨((Below.refl _ _).alloc (Nat.le_refl _) _).alloc (by omega) _ |>.alloc (by omega) _, by omega, ?_, ?_, ?_⟩
  · rw [al_old _ _ (by omega), al_old _ _ (by omega)]; exact heap_alloc_new _ _
  · rw [al_old _ _ (by omega), show w.heap.size + 1 = (w.alloc X0).heap.size by omega]; exact heap_alloc_new _ _
  · rw [show w.heap.size + 2 = ((w.alloc X0).alloc X1).heap.size by omega]; exact heap_alloc_new _ _
theorem rr_new2 {w : World} {g : Nat} {A : Option Addr} {n c : Nat} {l : List UInt8} (hrd : Rdr w g A n c 0 0) (r : Rd w w.heap.size 1 A n (l.map B8)) (hc : n ≤ c) (hn : n ≤ 1000000000) : RR w w.heap.size g l 0 0 :=
  ⟨A, n, c, hrd, r, hc, Nat.zero_le _, hn, hrd.lt, Nat.le_refl _, fun b o h0 e => by obtain ⟨b', o', e', hb', _⟩ := r.2 h0; rw [e] at e'; injection e' with e'; injection e' with e1; omega⟩
set_option maxRecDepth 20000 in
set_option maxHeartbeats 16000000 in
theorem chainReads_walk (A : Option Addr) (n c : Nat) (l : List UInt8) (w : World) (hr : Rd w w.heap.size 1 A n (l.map B8)) (hc : n ≤ c) (hn : n ≤ 140737488351232) :
    Calls Try.prog 12 #[.slice A n c] w fun e w' => e = .returned (.bool true) ∧ Below w.heap.size w w' := by
  have HR0 := Lib.hid hr
  have hln : Hid (l.length = n) := by have h1 := hr.len; unfold Hid; simpa using h1
  have hcn := Lib.hid hc
  clear hr hc
  go_enter Try.func12, Try.ntmps12
  by_cases h4 : n ≤ 4000
  · have h4' : ¬ (4000 : Int) < n := by omega
    go_wp2_with fail
    refine (newIdeal_ w).mono ?_
    rintro e w1 ⟨gi, oi, rfl, hI, hoi, b1⟩
    have I1 := Lib.hid hI
    have OI := Lib.hid hoi
    have B1 := Lib.hid b1
    have OL : Hid (∀ k, k ∈ oi → k < w1.heap.size) := note_lt hI
    have R1 : Hid (Rd w1 w1.heap.size 1 A n (l.map B8)) := (HR0.out.below b1).more b1.size
    clear hI hoi b1
    go_wp2_with (at_builtin
                 refine wpList_app rfl (.tmp 16) (.tmp 17) 38 rfl w1.heap.size 5 1 1 _ Try.underlying38 info8 rfl (by decide) (.slice (some ⟨w1.heap.size, 0, none⟩) 0 0) 0 [] rfl (World.ownsRow_lit w1 #[] 0 (Nat.le_refl _) (by simp [maxLen]) rfl) w1.heap.size A n c (l.map B8) rfl (R1.out.alloc (Nat.le_refl _) _) (B8_one _) (by simp only [maxLen]; omega) (by omega) (by simp) ?_
                 intro A3 c3 w3 o3 g3 k3
                 have B3 : Hid (Below w1.heap.size w1 w3) := ((Below.refl _ _).alloc (Nat.le_refl _) _).grown g3 (by simp) (fun k hk => by simp [Value.ownBlock] at hk; omega)
                 rw [Nat.zero_add, List.nil_append] at o3
                 have R3 : Hid (Rd w3 w3.heap.size 1 A3 n (l.map B8)) := Rd.of_own o3
                 clear o3 g3 k3)
    refine (read_any A3 n c3 l w3 R3.out (by omega)).mono ?_
    rintro e w4 ⟨g, A4, c4, rfl, hg4, hrd, r4, b4, hc4⟩
    have B4 : Hid (Below w1.heap.size w1 w4) := B3.out.trans (b4.mono B3.out.size)
    have RR4 : Hid (RR w4 w4.heap.size g l 0 0) := rr_new2 hrd r4 hc4 (by omega)
    have hg : Hid (w1.heap.size ≤ g) := Nat.le_trans B3.out.size hg4
    have I4 : Hid (IdealAt w4 gi [] oi [g]) := (I1.out.below B4.out).anyR [g]
    have hgo : Hid (g ∉ oi) := fun hm => by have h1 := OL.out g hm; have h2 := hg.out; omega
    have BW4 : Hid (Below w.heap.size w w4) := B1.out.trans (B4.out.mono B1.out.size)
    clear hrd r4 b4 hg4 R3 B3
    go_wp2_with fail
    refine (get_ gi [] oi [g] w4.heap.size g l (g :: oi) w4 I4.out (fun k hk => List.mem_cons_of_mem _ hk) hgo.out (by simp) (fun k hk => by simp at hk; rw [hk]; exact RR4.out.lt) (by simp) RR4.out rfl (fun k hk => by
      rcases List.mem_cons.1 hk with h | h
      · rw [h]; exact RR4.out.lt
      · exact Nat.lt_of_lt_of_le (OL.out k h) B4.out.size) (by simp) (by rw [hln.out]; omega)).mono ?_
    rintro e w5 ⟨hRS, hcase⟩
    have RS5 := Lib.hid hRS
    clear hRS
    obtain ⟨pe, hpe⟩ : ∃ e, Hid (e = (parse l).e) := ⟨_, Lib.hid rfl⟩
    obtain ⟨pa, hpa⟩ : ∃ a, Hid (a = (parse l).at_) := ⟨_, Lib.hid rfl⟩
    obtain ⟨⟨S, hs⟩, hSq⟩ : ∃ p, Hid (p = getS (parse l).L [] []) := ⟨_, Lib.hid rfl⟩
    unfold GetOk at hcase
    rw [← hpe.out, ← hSq.out] at hcase
    rw [← hpe.out, ← hpa.out] at RS5
    have hpl : Hid (pa ≤ l.length) := by rw [hpa.out]; exact (parse_ok l).at_
    rcases hcase with ⟨hne, rfl, hf⟩ | ⟨he0, gb, ob, oi5, rfl, hob, hoi5, hdj, hbk, hid, hf⟩
    · have I5 : Hid (IdealAt w5 gi [] oi [g]) := I4.out.keep hf (fun k hk => hk) (fun k hk => by simp at hk; rw [hk]; exact hgo.out) (fun k hk => Or.inl hk)
      have BW5 : Hid (Below w.heap.size w w5) := BW4.out.trans (hf.toBelow (fun k hk => by simp at hk; rw [hk]; exact Nat.le_trans B1.out.size hg.out) BW4.out.size)
      clear hf I4 I1
      go_wp2_with fail
      refine (rread_ A n c w5).mono ?_
      rintro e w6 ⟨rfl, b6⟩
      have BW6 : Hid (Below w.heap.size w w6) := BW5.out.trans (b6.mono BW5.out.size)
      have B56 := Lib.hid b6
      clear b6
      go_wp2_with fail
      have HA6 : Hid (RA w6 A n c l 0) := ⟨by rw [List.drop_zero]; exact (HR0.out.below BW6.out).more BW6.out.size, hcn.out, Nat.zero_le _⟩
      refine (rget_ A n c l w6 HA6.out (by rw [hln.out]; omega)).mono ?_
      rintro e w7 ⟨A7, n7, c7, V7, vn, vc, K7, kn, kc, rfl, b7, hg7⟩
      rw [← hpe.out]
      rw [← hpe.out, ← hpa.out, ← hSq.out] at hg7
      obtain ⟨GA, hGA⟩ : ∃ k, Hid (k = w7.heap.size) := ⟨_, Lib.hid rfl⟩
      obtain ⟨V, hV⟩ : ∃ V, Hid (V = ((w7.alloc (.cells #[.slice A7 n7 c7, .int .i64 pe] 94)).alloc (.cells #[.slice V7 vn vc, .int .i64 0] 33)).alloc (.cells #[.slice K7 kn kc] 30)) := ⟨_, Lib.hid rfl⟩
      obtain ⟨bV, sV, cA, cV, cB⟩ := three w7 (.cells #[.slice A7 n7 c7, .int .i64 pe] 94) (.cells #[.slice V7 vn vc, .int .i64 0] 33) (.cells #[.slice K7 kn kc] 30)
      rw [← hV.out] at bV sV cA cV cB
      rw [← hGA.out] at cA cV cB
      have CA := Lib.hid cA
      have CV := Lib.hid cV
      have CB := Lib.hid cB
      have BV6 : Hid (Below w6.heap.size w6 V) := b7.trans (bV.mono b7.size)
      have BV5 : Hid (Below w5.heap.size w5 V) := B56.out.trans (BV6.out.mono B56.out.size)
      have BWV : Hid (Below w.heap.size w V) := BW5.out.trans (BV5.out.mono BW5.out.size)
      have B7V := Lib.hid bV
      have RSV : Hid (RS V g l pa pe) := RS5.out.belowS BV5.out
      clear bV sV cA cV cB b7 RS5
      have hne' : (pe != 0) = true := by simpa using hne
      clear hne hg7
      go_wp2_with fail
      rw [← hV.out, ← hGA.out]
      obtain ⟨X, hX⟩ : ∃ W, Hid (W = V.drew) := ⟨_, Lib.hid rfl⟩
      have dX : Below V.heap.size V X := by rw [hX.out]; exact below_drew (Below.refl _ _)
      have XA : Hid (X.heap[GA]? = some (.cells #[.slice A7 n7 c7, .int .i64 pe] 94 (0, 0))) := (dX.block _ (lt_of_blk CA.out)).trans CA.out
      have RSX : Hid (RS X g l pa pe) := RSV.out.belowS dX
      have BX0 := Lib.hid dX
      have IX : Hid (IdealAt X gi [] oi [g]) := (I5.out.below BV5.out).below dX
      refine wp_region_noPanic ?_
      refine wp_region_held_drew (S := fun w' => Below X.heap.size X w') (by kernel_rfl) (by rw [← hX.out]; exact Below.refl _ _) (fun hS => ?_)
      rw [← hX.out]
      clear hS
      have hS : Below X.heap.size X X := Below.refl _ _
      refine wpAnyH_take (i := 0) (v := ?va0) rfl (by kernel_rfl) (by kernel_rfl) (by kernel_rfl) (fun _ _ _ h => h) (Or.inl ⟨by rfl, ?hya0⟩) hS ?resta0
      case hya0 => (intro w' hSw; go_simp; first | done | with_reducible rfl)
      try simp only [Act.put, List.getElem_toArray, List.getElem_cons_zero, List.getElem_cons_succ, List.setIfInBounds_toArray, List.set_cons_zero, List.set_cons_succ]
      refine wpAnyH_take (i := 1) (v := .bool true) rfl (by kernel_rfl) (by kernel_rfl) (by kernel_rfl) (fun _ _ _ h => h) (Or.inl ⟨by rfl, ?hya1⟩) hS ?resta1
      case hya1 => (intro w' hSw; go_simp; first | done | with_reducible rfl)
      try simp only [Act.put, List.getElem_toArray, List.getElem_cons_zero, List.getElem_cons_succ, List.setIfInBounds_toArray, List.set_cons_zero, List.set_cons_succ]
      refine wpAnyH_take (i := 2) (v := .bool true) rfl (by kernel_rfl) (by kernel_rfl) (by kernel_rfl) (fun _ _ _ h => h) (Or.inl ⟨by rfl, ?hya2⟩) hS ?resta2
      case hya2 => (intro w' hSw; go_simp; first | done | with_reducible rfl)
      try simp only [Act.put, List.getElem_toArray, List.getElem_cons_zero, List.getElem_cons_succ, List.setIfInBounds_toArray, List.set_cons_zero, List.set_cons_succ]
      refine wpAnyH_take (i := 3) (v := ?va3) rfl (by kernel_rfl) (by kernel_rfl) (by kernel_rfl) (fun _ _ _ h => h) (Or.inl ⟨by rfl, ?hya3⟩) hS ?resta3
      case hya3 => (intro w' hSw; go_simp; first | done | with_reducible rfl)
      try simp only [Act.put, List.getElem_toArray, List.getElem_cons_zero, List.getElem_cons_succ, List.setIfInBounds_toArray, List.set_cons_zero, List.set_cons_succ]
      refine wpAnyH_take (i := 5) (v := ?va5) rfl (by kernel_rfl) (by kernel_rfl) (by kernel_rfl) (fun _ _ _ h => h) (Or.inl ⟨by rfl, ?hya5⟩) hS ?resta5
      case hya5 => (intro w' hSw; go_simp; first | done | with_reducible rfl)
      try simp only [Act.put, List.getElem_toArray, List.getElem_cons_zero, List.getElem_cons_succ, List.setIfInBounds_toArray, List.set_cons_zero, List.set_cons_succ]
      refine wpAnyH_take (i := 6) (v := .int .i64 pe) rfl (by kernel_rfl) (by kernel_rfl) (by kernel_rfl) (fun _ _ _ h => h) (Or.inl ⟨by rfl, ?hya6⟩) hS ?resta6
      case hya6 => (intro w' hSw; have c1 : w'.cell? ⟨GA, 1, none⟩ = some (.int .i64 pe) := cell_blk ((hSw.block GA (lt_of_blk XA.out)).trans XA.out) 1 rfl; go_simp; first | done | with_reducible rfl)
      try simp only [Act.put, List.getElem_toArray, List.getElem_cons_zero, List.getElem_cons_succ, List.setIfInBounds_toArray, List.set_cons_zero, List.set_cons_succ]
      refine wpAnyH_ready (rs := [4]) (by kernel_rfl) (by simp) ?_
      refine AllReadyH.cons rfl (fun K hK => ?_) AllReadyH.nil
      go_simp
      refine (errS_ g l pa pe X (RSX.out.belowS (Below.refl _ _))).mono ?_
      rintro e ya1 ⟨rfl, bk⟩
      go_wp2_with fail
      have Ba1 := Lib.hid bk
      refine hK.out _ _ bk ?_
      intro hS
      clear hK K hS bk
      try simp only [Act.put, List.getElem_toArray, List.getElem_cons_zero, List.getElem_cons_succ, List.setIfInBounds_toArray, List.set_cons_zero, List.set_cons_succ]
      refine wpAnyH_strong (S2 := fun w' => Below ya1.heap.size ya1 w') (fun w' h' => Ba1.out.trans (h'.mono Ba1.out.size)) _ _ _ _ ?_
      have hS : Below ya1.heap.size ya1 ya1 := Below.refl _ _
      refine wpAnyH_take (i := 7) (v := .bool true) rfl (by kernel_rfl) (by kernel_rfl) (by kernel_rfl) (fun _ _ _ h => h) (Or.inl ⟨by rfl, ?hya7⟩) hS ?resta7
      case hya7 => (intro w' hSw; go_simp; first | done | with_reducible rfl)
      try simp only [Act.put, List.getElem_toArray, List.getElem_cons_zero, List.getElem_cons_succ, List.setIfInBounds_toArray, List.set_cons_zero, List.set_cons_succ]
      refine wpAnyH_take (i := 8) (v := .bool true) rfl (by kernel_rfl) (by kernel_rfl) (by kernel_rfl) (fun _ _ _ h => h) (Or.inl ⟨by rfl, ?hya8⟩) hS ?resta8
      case hya8 => (intro w' hSw; go_simp; first | done | with_reducible rfl)
      try simp only [Act.put, List.getElem_toArray, List.getElem_cons_zero, List.getElem_cons_succ, List.setIfInBounds_toArray, List.set_cons_zero, List.set_cons_succ]
      refine wpAnyH_take (i := 9) (v := .bool true) rfl (by kernel_rfl) (by kernel_rfl) (by kernel_rfl) (fun _ _ _ h => h) (Or.inl ⟨by rfl, ?hya9⟩) hS ?resta9
      case hya9 => (intro w' hSw; go_simp; first | done | with_reducible rfl)
      try simp only [Act.put, List.getElem_toArray, List.getElem_cons_zero, List.getElem_cons_succ, List.setIfInBounds_toArray, List.set_cons_zero, List.set_cons_succ]
      refine wpAnyH_take (i := 10) (v := ?va10) rfl (by kernel_rfl) (by kernel_rfl) (by kernel_rfl) (fun _ _ _ h => h) (Or.inl ⟨by rfl, ?hya10⟩) hS ?resta10
      case hya10 => (intro w' hSw; go_simp; first | done | with_reducible rfl)
      try simp only [Act.put, List.getElem_toArray, List.getElem_cons_zero, List.getElem_cons_succ, List.setIfInBounds_toArray, List.set_cons_zero, List.set_cons_succ]
      refine wpAnyH_ready (rs := [11]) (by kernel_rfl) (by simp) ?_
      refine AllReadyH.cons rfl (fun K hK => ?_) AllReadyH.nil
      go_simp
      refine (len_ gi [] oi _ ya1 (IX.out.below Ba1.out)).mono ?_
      rintro e ya2 ⟨rfl, he⟩
      have bk : Below ya1.heap.size ya1 ya2 := by rw [he]; exact Below.refl _ _
      clear he
      go_wp2_with fail
      have Ba2 := Lib.hid bk
      refine hK.out _ _ bk ?_
      intro hS
      clear hK K hS bk
      try simp only [Act.put, List.getElem_toArray, List.getElem_cons_zero, List.getElem_cons_succ, List.setIfInBounds_toArray, List.set_cons_zero, List.set_cons_succ]
      refine wpAnyH_strong (S2 := fun w' => Below ya2.heap.size ya2 w') (fun w' h' => Ba2.out.trans (h'.mono Ba2.out.size)) _ _ _ _ ?_
      have hS : Below ya2.heap.size ya2 ya2 := Below.refl _ _
      refine wpAnyH_take (i := 12) (v := .bool true) rfl (by kernel_rfl) (by kernel_rfl) (by kernel_rfl) (fun _ _ _ h => h) (Or.inl ⟨by rfl, ?hya12⟩) hS ?resta12
      case hya12 => (intro w' hSw; go_simp; first | done | with_reducible rfl)
      try simp only [Act.put, List.getElem_toArray, List.getElem_cons_zero, List.getElem_cons_succ, List.setIfInBounds_toArray, List.set_cons_zero, List.set_cons_succ]
      refine wpAnyH_take (i := 13) (v := .bool true) rfl (by kernel_rfl) (by kernel_rfl) (by kernel_rfl) (fun _ _ _ h => h) (Or.inl ⟨by rfl, ?hya13⟩) hS ?resta13
      case hya13 => (intro w' hSw; go_simp; first | done | with_reducible rfl)
      try simp only [Act.put, List.getElem_toArray, List.getElem_cons_zero, List.getElem_cons_succ, List.setIfInBounds_toArray, List.set_cons_zero, List.set_cons_succ]
      refine wpAnyH_take (i := 14) (v := .bool true) rfl (by kernel_rfl) (by kernel_rfl) (by kernel_rfl) (fun _ _ _ h => h) (Or.inl ⟨by rfl, ?hya14⟩) hS ?resta14
      case hya14 => (intro w' hSw; go_simp; first | done | with_reducible rfl)
      try simp only [Act.put, List.getElem_toArray, List.getElem_cons_zero, List.getElem_cons_succ, List.setIfInBounds_toArray, List.set_cons_zero, List.set_cons_succ]
      refine wpAnyH_ready (rs := [15]) (by kernel_rfl) (by simp) ?_
      refine AllReadyH.cons rfl (fun K hK => ?_) AllReadyH.nil
      go_simp
      refine (awake_ ya2).mono ?_
      rintro e ya3 ⟨rfl, bk⟩
      go_wp2_with fail
      have Ba3 := Lib.hid bk
      refine hK.out _ _ bk ?_
      intro hS
      clear hK K hS bk
      try simp only [Act.put, List.getElem_toArray, List.getElem_cons_zero, List.getElem_cons_succ, List.setIfInBounds_toArray, List.set_cons_zero, List.set_cons_succ]
      refine wpAnyH_strong (S2 := fun w' => Below ya3.heap.size ya3 w') (fun w' h' => Ba3.out.trans (h'.mono Ba3.out.size)) _ _ _ _ ?_
      have hS : Below ya3.heap.size ya3 ya3 := Below.refl _ _
      refine wpAnyH_take (i := 16) (v := .bool true) rfl (by kernel_rfl) (by kernel_rfl) (by kernel_rfl) (fun _ _ _ h => h) (Or.inl ⟨by rfl, ?hya16⟩) hS ?resta16
      case hya16 => (intro w' hSw; go_simp; first | done | with_reducible rfl)
      try simp only [Act.put, List.getElem_toArray, List.getElem_cons_zero, List.getElem_cons_succ, List.setIfInBounds_toArray, List.set_cons_zero, List.set_cons_succ]
      refine wpAnyH_take (i := 17) (v := .bool true) rfl (by kernel_rfl) (by kernel_rfl) (by kernel_rfl) (fun _ _ _ h => h) (Or.inl ⟨by rfl, ?hya17⟩) hS ?resta17
      case hya17 => (intro w' hSw; go_simp; first | done | with_reducible rfl)
      try simp only [Act.put, List.getElem_toArray, List.getElem_cons_zero, List.getElem_cons_succ, List.setIfInBounds_toArray, List.set_cons_zero, List.set_cons_succ]
      refine wpAnyH_done (by kernel_rfl) (NoPanic.normal ?_) _
      have BXt : Hid (Below V.heap.size V ya3) := BX0.out.trans ((Ba1.out.trans ((Ba2.out.trans (Ba3.out.mono Ba2.out.size)).mono Ba1.out.size)).mono BX0.out.size)
      go_wp2_with fail
      go_ret
      exact ⟨rfl, BWV.out.trans (BXt.out.mono BWV.out.size)⟩
    · subst he0
      have I5 := Lib.hid hid
      have K5 := Lib.hid hbk
      have BW5 : Hid (Below w.heap.size w w5) := BW4.out.trans (hf.toBelow (fun k hk => by
        rcases List.mem_cons.1 hk with h | h
        · rw [h]; exact Nat.le_trans B1.out.size hg.out
        · exact OI.out k h) BW4.out.size)
      clear hf hid hbk hdj hoi5 hob I4 I1
      go_wp2_with fail
      refine (rread_ A n c w5).mono ?_
      rintro e w6 ⟨rfl, b6⟩
      have BW6 : Hid (Below w.heap.size w w6) := BW5.out.trans (b6.mono BW5.out.size)
      have B56 := Lib.hid b6
      clear b6
      go_wp2_with fail
      have HA6 : Hid (RA w6 A n c l 0) := ⟨by rw [List.drop_zero]; exact (HR0.out.below BW6.out).more BW6.out.size, hcn.out, Nat.zero_le _⟩
      refine (rget_ A n c l w6 HA6.out (by rw [hln.out]; omega)).mono ?_
      rintro e w7 ⟨A7, n7, c7, V7, vn, vc, K7, kn, kc, rfl, b7, hg7⟩
      rw [← hpe.out]
      rw [← hpa.out, ← hSq.out] at hg7
      obtain ⟨GA, hGA⟩ : ∃ k, Hid (k = w7.heap.size) := ⟨_, Lib.hid rfl⟩
      obtain ⟨V, hV⟩ : ∃ V, Hid (V = ((w7.alloc (.cells #[.slice A7 n7 c7, .int .i64 0] 94)).alloc (.cells #[.slice V7 vn vc, .int .i64 0] 33)).alloc (.cells #[.slice K7 kn kc] 30)) := ⟨_, Lib.hid rfl⟩
      obtain ⟨bV, sV, cA, cV, cB⟩ := three w7 (.cells #[.slice A7 n7 c7, .int .i64 0] 94) (.cells #[.slice V7 vn vc, .int .i64 0] 33) (.cells #[.slice K7 kn kc] 30)
      rw [← hV.out] at bV sV cA cV cB
      rw [← hGA.out] at cA cV cB
      have CA := Lib.hid cA
      have CV := Lib.hid cV
      have CB := Lib.hid cB
      have BV6 : Hid (Below w6.heap.size w6 V) := b7.trans (bV.mono b7.size)
      have BV5 : Hid (Below w5.heap.size w5 V) := B56.out.trans (BV6.out.mono B56.out.size)
      have BWV : Hid (Below w.heap.size w V) := BW5.out.trans (BV5.out.mono BW5.out.size)
      have B7V := Lib.hid bV
      have RSV : Hid (RS V g l pa 0) := RS5.out.belowS BV5.out
      clear bV sV cA cV cB b7 RS5
      obtain ⟨hn7, hrk, hvn⟩ := hg7 hpe.out.symm
      have HN7 : Hid ((l.length : Int) - (pa : Nat) = (n7 : Int)) := by have h1 := hpl.out; unfold Hid; omega
      have HVN : Hid ((hs.length : Int) = (vn : Int)) := by unfold Hid; rw [hvn]
      have HRK := Lib.hid (hrk.below B7V.out)
      have hkn : Hid (kn ≤ 1000000) := by
        have h1 : S.length = 0 + (parse l).L.length := by have h := getS_len (parse l).L [] []; rw [← hSq.out] at h; exact h
        have h2 := (parse_ok l).len
        have h3 := (parse_ok l).at_
        have h4 := hln.out
        have h5 : S.length = kn := hrk.len
        unfold Hid
        omega
      have HOK : Hid S.ok := K5.out.ok
      clear hn7 hrk hvn hg7
      go_wp2_with fail
      rw [← hV.out, ← hGA.out]
      obtain ⟨X, hX⟩ : ∃ W, Hid (W = V.drew) := ⟨_, Lib.hid rfl⟩
      have dX : Below V.heap.size V X := by rw [hX.out]; exact below_drew (Below.refl _ _)
      have XA : Hid (X.heap[GA]? = some (.cells #[.slice A7 n7 c7, .int .i64 0] 94 (0, 0))) := (dX.block _ (lt_of_blk CA.out)).trans CA.out
      have XV : Hid (X.heap[GA + 1]? = some (.cells #[.slice V7 vn vc, .int .i64 0] 33 (0, 0))) := (dX.block _ (lt_of_blk CV.out)).trans CV.out
      have XB : Hid (X.heap[GA + 2]? = some (.cells #[.slice K7 kn kc] 30 (0, 0))) := (dX.block _ (lt_of_blk CB.out)).trans CB.out
      have RSX : Hid (RS X g l pa 0) := RSV.out.belowS dX
      have BX0 := Lib.hid dX
      have IX := Lib.hid ((I5.out.below BV5.out).below dX)
      have KX := Lib.hid ((K5.out.below BV5.out).below dX)
      have RKX := Lib.hid (HRK.out.below dX)
      have hvl5 := Lib.hid (vecP_len S 5)
      refine wp_region_noPanic ?_
      refine wp_region_held_drew (S := fun w' => Below X.heap.size X w') (by kernel_rfl) (by rw [← hX.out]; exact Below.refl _ _) (fun hS => ?_)
      rw [← hX.out]
      clear hS
      have hS : Below X.heap.size X X := Below.refl _ _
      refine wpAnyH_take (i := 0) (v := ?vb0) rfl (by kernel_rfl) (by kernel_rfl) (by kernel_rfl) (fun _ _ _ h => h) (Or.inl ⟨by rfl, ?hyb0⟩) hS ?restb0
      case hyb0 => (intro w' hSw; go_simp; first | done | with_reducible rfl)
      try simp only [Act.put, List.getElem_toArray, List.getElem_cons_zero, List.getElem_cons_succ, List.setIfInBounds_toArray, List.set_cons_zero, List.set_cons_succ]
      refine wpAnyH_take (i := 1) (v := .bool true) rfl (by kernel_rfl) (by kernel_rfl) (by kernel_rfl) (fun _ _ _ h => h) (Or.inl ⟨by rfl, ?hyb1⟩) hS ?restb1
      case hyb1 => (intro w' hSw; go_simp; first | done | with_reducible rfl)
      try simp only [Act.put, List.getElem_toArray, List.getElem_cons_zero, List.getElem_cons_succ, List.setIfInBounds_toArray, List.set_cons_zero, List.set_cons_succ]
      refine wpAnyH_take (i := 2) (v := .bool true) rfl (by kernel_rfl) (by kernel_rfl) (by kernel_rfl) (fun _ _ _ h => h) (Or.inl ⟨by rfl, ?hyb2⟩) hS ?restb2
      case hyb2 => (intro w' hSw; go_simp; first | done | with_reducible rfl)
      try simp only [Act.put, List.getElem_toArray, List.getElem_cons_zero, List.getElem_cons_succ, List.setIfInBounds_toArray, List.set_cons_zero, List.set_cons_succ]
      refine wpAnyH_take (i := 3) (v := ?vb3) rfl (by kernel_rfl) (by kernel_rfl) (by kernel_rfl) (fun _ _ _ h => h) (Or.inl ⟨by rfl, ?hyb3⟩) hS ?restb3
      case hyb3 => (intro w' hSw; go_simp; first | done | with_reducible rfl)
      try simp only [Act.put, List.getElem_toArray, List.getElem_cons_zero, List.getElem_cons_succ, List.setIfInBounds_toArray, List.set_cons_zero, List.set_cons_succ]
      refine wpAnyH_ready (rs := [4]) (by kernel_rfl) (by simp) ?_
      refine AllReadyH.cons rfl (fun K hK => ?_) AllReadyH.nil
      go_simp
      refine (errS_ g l pa 0 X (RSX.out.belowS (Below.refl _ _))).mono ?_
      rintro e yb1 ⟨rfl, bk⟩
      go_wp2_with fail
      have Bb1 := Lib.hid bk
      refine hK.out _ _ bk ?_
      intro hS
      clear hK K hS bk
      try simp only [Act.put, List.getElem_toArray, List.getElem_cons_zero, List.getElem_cons_succ, List.setIfInBounds_toArray, List.set_cons_zero, List.set_cons_succ]
      refine wpAnyH_strong (S2 := fun w' => Below yb1.heap.size yb1 w') (fun w' h' => Bb1.out.trans (h'.mono Bb1.out.size)) _ _ _ _ ?_
      have hS : Below yb1.heap.size yb1 yb1 := Below.refl _ _
      refine wpAnyH_take (i := 5) (v := .bool true) rfl (by kernel_rfl) (by kernel_rfl) (by kernel_rfl) (fun _ _ _ h => h) (Or.inl ⟨by rfl, ?hyb5⟩) hS ?restb5
      case hyb5 => (intro w' hSw; go_simp; first | done | with_reducible rfl)
      try simp only [Act.put, List.getElem_toArray, List.getElem_cons_zero, List.getElem_cons_succ, List.setIfInBounds_toArray, List.set_cons_zero, List.set_cons_succ]
      refine wpAnyH_take (i := 6) (v := .bool true) rfl (by kernel_rfl) (by kernel_rfl) (by kernel_rfl) (fun _ _ _ h => h) (Or.inl ⟨by rfl, ?hyb6⟩) hS ?restb6
      case hyb6 => (intro w' hSw; go_simp; first | done | with_reducible rfl)
      try simp only [Act.put, List.getElem_toArray, List.getElem_cons_zero, List.getElem_cons_succ, List.setIfInBounds_toArray, List.set_cons_zero, List.set_cons_succ]
      refine wpAnyH_take (i := 7) (v := .bool true) rfl (by kernel_rfl) (by kernel_rfl) (by kernel_rfl) (fun _ _ _ h => h) (Or.inl ⟨by rfl, ?hyb7⟩) hS ?restb7
      case hyb7 => (intro w' hSw; go_simp; first | done | with_reducible rfl)
      try simp only [Act.put, List.getElem_toArray, List.getElem_cons_zero, List.getElem_cons_succ, List.setIfInBounds_toArray, List.set_cons_zero, List.set_cons_succ]
      refine wpAnyH_take (i := 8) (v := ?vb8) rfl (by kernel_rfl) (by kernel_rfl) (by kernel_rfl) (fun _ _ _ h => h) (Or.inl ⟨by rfl, ?hyb8⟩) hS ?restb8
      case hyb8 => (intro w' hSw; go_simp; first | done | with_reducible rfl)
      try simp only [Act.put, List.getElem_toArray, List.getElem_cons_zero, List.getElem_cons_succ, List.setIfInBounds_toArray, List.set_cons_zero, List.set_cons_succ]
      refine wpAnyH_take (i := 10) (v := ?vb10) rfl (by kernel_rfl) (by kernel_rfl) (by kernel_rfl) (fun _ _ _ h => h) (Or.inl ⟨by rfl, ?hyb10⟩) hS ?restb10
      case hyb10 => (intro w' hSw; go_simp; first | done | with_reducible rfl)
      try simp only [Act.put, List.getElem_toArray, List.getElem_cons_zero, List.getElem_cons_succ, List.setIfInBounds_toArray, List.set_cons_zero, List.set_cons_succ]
      refine wpAnyH_take (i := 11) (v := .slice A7 n7 c7) rfl (by kernel_rfl) (by kernel_rfl) (by kernel_rfl) (fun _ _ _ h => h) (Or.inl ⟨by rfl, ?hyb11⟩) hS ?restb11
      case hyb11 => (intro w' hSw; have c0 : w'.cell? ⟨GA, 0, none⟩ = some (.slice A7 n7 c7) := cell_blk (((Bb1.out.trans (hSw.mono Bb1.out.size)).block (GA) (lt_of_blk XA.out)).trans XA.out) 0 rfl; go_simp; first | done | with_reducible rfl)
      try simp only [Act.put, List.getElem_toArray, List.getElem_cons_zero, List.getElem_cons_succ, List.setIfInBounds_toArray, List.set_cons_zero, List.set_cons_succ]
      refine wpAnyH_take (i := 12) (v := .int .i64 n7) rfl (by kernel_rfl) (by kernel_rfl) (by kernel_rfl) (fun _ _ _ h => h) (Or.inl ⟨by rfl, ?hyb12⟩) hS ?restb12
      case hyb12 => (intro w' hSw; go_simp; first | done | with_reducible rfl)
      try simp only [Act.put, List.getElem_toArray, List.getElem_cons_zero, List.getElem_cons_succ, List.setIfInBounds_toArray, List.set_cons_zero, List.set_cons_succ]
      refine wpAnyH_ready (rs := [9]) (by kernel_rfl) (by simp) ?_
      refine AllReadyH.cons rfl (fun K hK => ?_) AllReadyH.nil
      go_simp
      refine (leftS_ g l pa 0 yb1 (RSX.out.belowS Bb1.out) (by rw [hln.out]; omega)).mono ?_
      rintro e yb2 ⟨rfl, bk⟩
      rw [HN7.out]
      go_wp2_with fail
      have Bb2 := Lib.hid bk
      refine hK.out _ _ bk ?_
      intro hS
      clear hK K hS bk
      try simp only [Act.put, List.getElem_toArray, List.getElem_cons_zero, List.getElem_cons_succ, List.setIfInBounds_toArray, List.set_cons_zero, List.set_cons_succ]
      refine wpAnyH_strong (S2 := fun w' => Below yb2.heap.size yb2 w') (fun w' h' => Bb2.out.trans (h'.mono Bb2.out.size)) _ _ _ _ ?_
      have hS : Below yb2.heap.size yb2 yb2 := Below.refl _ _
      refine wpAnyH_take (i := 13) (v := .bool true) rfl (by kernel_rfl) (by kernel_rfl) (by kernel_rfl) (fun _ _ _ h => h) (Or.inl ⟨by rfl, ?hyb13⟩) hS ?restb13
      case hyb13 => (intro w' hSw; go_simp; first | done | with_reducible rfl)
      try simp only [Act.put, List.getElem_toArray, List.getElem_cons_zero, List.getElem_cons_succ, List.setIfInBounds_toArray, List.set_cons_zero, List.set_cons_succ]
      refine wpAnyH_take (i := 14) (v := .bool true) rfl (by kernel_rfl) (by kernel_rfl) (by kernel_rfl) (fun _ _ _ h => h) (Or.inl ⟨by rfl, ?hyb14⟩) hS ?restb14
      case hyb14 => (intro w' hSw; go_simp; first | done | with_reducible rfl)
      try simp only [Act.put, List.getElem_toArray, List.getElem_cons_zero, List.getElem_cons_succ, List.setIfInBounds_toArray, List.set_cons_zero, List.set_cons_succ]
      refine wpAnyH_take (i := 15) (v := .bool true) rfl (by kernel_rfl) (by kernel_rfl) (by kernel_rfl) (fun _ _ _ h => h) (Or.inl ⟨by rfl, ?hyb15⟩) hS ?restb15
      case hyb15 => (intro w' hSw; go_simp; first | done | with_reducible rfl)
      try simp only [Act.put, List.getElem_toArray, List.getElem_cons_zero, List.getElem_cons_succ, List.setIfInBounds_toArray, List.set_cons_zero, List.set_cons_succ]
      refine wpAnyH_take (i := 16) (v := ?vb16) rfl (by kernel_rfl) (by kernel_rfl) (by kernel_rfl) (fun _ _ _ h => h) (Or.inl ⟨by rfl, ?hyb16⟩) hS ?restb16
      case hyb16 => (intro w' hSw; go_simp; first | done | with_reducible rfl)
      try simp only [Act.put, List.getElem_toArray, List.getElem_cons_zero, List.getElem_cons_succ, List.setIfInBounds_toArray, List.set_cons_zero, List.set_cons_succ]
      refine wpAnyH_take (i := 19) (v := .agg #[.slice K7 kn kc]) rfl (by kernel_rfl) (by kernel_rfl) (by kernel_rfl) (fun _ _ _ h => h) (Or.inl ⟨by rfl, ?hyb19⟩) hS ?restb19
      case hyb19 => (intro w' hSw; have c0 : w'.cell? ⟨GA + 2, 0, none⟩ = some (.slice K7 kn kc) := cell_blk (((Bb1.out.trans ((Bb2.out.trans (hSw.mono Bb2.out.size)).mono Bb1.out.size)).block (GA + 2) (lt_of_blk XB.out)).trans XB.out) 0 rfl; go_simp; first | done | with_reducible rfl)
      try simp only [Act.put, List.getElem_toArray, List.getElem_cons_zero, List.getElem_cons_succ, List.setIfInBounds_toArray, List.set_cons_zero, List.set_cons_succ]
      refine wpAnyH_ready (rs := [17]) (by kernel_rfl) (by simp) ?_
      refine AllReadyH.cons rfl (fun K hK => ?_) AllReadyH.nil
      go_simp
      refine (bput_ gb S ob _ none 0 0 [] yb2 (KX.out.below (Bb1.out.trans (Bb2.out.mono Bb1.out.size))) (Rd.nil _ _ _ _) (by decide)).mono ?_
      rintro e yb3 hr7
      obtain ⟨A8, m8, c8, rfl, hm8, o8, bk⟩ := hr7.n
      rw [List.nil_append] at o8
      have O8 := Lib.hid (Rd.of_own o8)
      clear o8 hr7 hm8
      go_wp2_with fail
      have Bb3 := Lib.hid bk
      refine hK.out _ _ bk ?_
      intro hS
      clear hK K hS bk
      try simp only [Act.put, List.getElem_toArray, List.getElem_cons_zero, List.getElem_cons_succ, List.setIfInBounds_toArray, List.set_cons_zero, List.set_cons_succ]
      refine wpAnyH_strong (S2 := fun w' => Below yb3.heap.size yb3 w') (fun w' h' => Bb3.out.trans (h'.mono Bb3.out.size)) _ _ _ _ ?_
      have hS : Below yb3.heap.size yb3 yb3 := Below.refl _ _
      refine wpAnyH_take (i := 18) (v := .string (str (putL S))) rfl (by kernel_rfl) (by kernel_rfl) (by kernel_rfl) (fun _ _ _ h => h) (Or.inl ⟨by rfl, ?hyb18⟩) hS ?restb18
      case hyb18 => (intro w' hSw; have hc := conv8 w' A8 m8 c8 _ (O8.out.to hSw); go_simp; first | done | with_reducible rfl)
      try simp only [Act.put, List.getElem_toArray, List.getElem_cons_zero, List.getElem_cons_succ, List.setIfInBounds_toArray, List.set_cons_zero, List.set_cons_succ]
      refine wpAnyH_ready (rs := [20]) (by kernel_rfl) (by simp) ?_
      refine AllReadyH.cons rfl (fun K hK => ?_) AllReadyH.nil
      go_simp
      refine (rput_ K7 kn kc S [] none 0 0 [] yb3 (RKX.out.below (Bb1.out.trans ((Bb2.out.trans (Bb3.out.mono Bb2.out.size)).mono Bb1.out.size))) hkn.out (fun k hk => absurd hk (by simp)) HOK.out (Rd.nil _ _ _ _) (by decide)).mono ?_
      rintro e yb4 hr7
      obtain ⟨A9, m9, c9, rfl, hm9, o9, bk⟩ := hr7.n
      rw [List.nil_append] at o9
      have O9 := Lib.hid (Rd.of_own o9)
      clear o9 hr7 hm9
      go_wp2_with fail
      have Bb4 := Lib.hid bk
      refine hK.out _ _ bk ?_
      intro hS
      clear hK K hS bk
      try simp only [Act.put, List.getElem_toArray, List.getElem_cons_zero, List.getElem_cons_succ, List.setIfInBounds_toArray, List.set_cons_zero, List.set_cons_succ]
      refine wpAnyH_strong (S2 := fun w' => Below yb4.heap.size yb4 w') (fun w' h' => Bb4.out.trans (h'.mono Bb4.out.size)) _ _ _ _ ?_
      have hS : Below yb4.heap.size yb4 yb4 := Below.refl _ _
      refine wpAnyH_take (i := 21) (v := .string (str (putL S))) rfl (by kernel_rfl) (by kernel_rfl) (by kernel_rfl) (fun _ _ _ h => h) (Or.inl ⟨by rfl, ?hyb21⟩) hS ?restb21
      case hyb21 => (intro w' hSw; have hc := conv8 w' A9 m9 c9 _ (O9.out.to hSw); go_simp; first | done | with_reducible rfl)
      try simp only [Act.put, List.getElem_toArray, List.getElem_cons_zero, List.getElem_cons_succ, List.setIfInBounds_toArray, List.set_cons_zero, List.set_cons_succ]
      refine wpAnyH_take (i := 22) (v := .bool true) rfl (by kernel_rfl) (by kernel_rfl) (by kernel_rfl) (fun _ _ _ h => h) (Or.inl ⟨by rfl, ?hyb22⟩) hS ?restb22
      case hyb22 => (intro w' hSw; go_simp; first | done | with_reducible rfl)
      try simp only [Act.put, List.getElem_toArray, List.getElem_cons_zero, List.getElem_cons_succ, List.setIfInBounds_toArray, List.set_cons_zero, List.set_cons_succ]
      refine wpAnyH_take (i := 23) (v := .bool true) rfl (by kernel_rfl) (by kernel_rfl) (by kernel_rfl) (fun _ _ _ h => h) (Or.inl ⟨by rfl, ?hyb23⟩) hS ?restb23
      case hyb23 => (intro w' hSw; go_simp; first | done | with_reducible rfl)
      try simp only [Act.put, List.getElem_toArray, List.getElem_cons_zero, List.getElem_cons_succ, List.setIfInBounds_toArray, List.set_cons_zero, List.set_cons_succ]
      refine wpAnyH_take (i := 24) (v := .bool true) rfl (by kernel_rfl) (by kernel_rfl) (by kernel_rfl) (fun _ _ _ h => h) (Or.inl ⟨by rfl, ?hyb24⟩) hS ?restb24
      case hyb24 => (intro w' hSw; go_simp; first | done | with_reducible rfl)
      try simp only [Act.put, List.getElem_toArray, List.getElem_cons_zero, List.getElem_cons_succ, List.setIfInBounds_toArray, List.set_cons_zero, List.set_cons_succ]
      refine wpAnyH_take (i := 25) (v := ?vb25) rfl (by kernel_rfl) (by kernel_rfl) (by kernel_rfl) (fun _ _ _ h => h) (Or.inl ⟨by rfl, ?hyb25⟩) hS ?restb25
      case hyb25 => (intro w' hSw; go_simp; first | done | with_reducible rfl)
      try simp only [Act.put, List.getElem_toArray, List.getElem_cons_zero, List.getElem_cons_succ, List.setIfInBounds_toArray, List.set_cons_zero, List.set_cons_succ]
      refine wpAnyH_take (i := 27) (v := .agg #[.slice K7 kn kc]) rfl (by kernel_rfl) (by kernel_rfl) (by kernel_rfl) (fun _ _ _ h => h) (Or.inl ⟨by rfl, ?hyb27⟩) hS ?restb27
      case hyb27 => (intro w' hSw; have c0 : w'.cell? ⟨GA + 2, 0, none⟩ = some (.slice K7 kn kc) := cell_blk (((Bb1.out.trans ((Bb2.out.trans ((Bb3.out.trans ((Bb4.out.trans (hSw.mono Bb4.out.size)).mono Bb3.out.size)).mono Bb2.out.size)).mono Bb1.out.size)).block (GA + 2) (lt_of_blk XB.out)).trans XB.out) 0 rfl; go_simp; first | done | with_reducible rfl)
      try simp only [Act.put, List.getElem_toArray, List.getElem_cons_zero, List.getElem_cons_succ, List.setIfInBounds_toArray, List.set_cons_zero, List.set_cons_succ]
      refine wpAnyH_ready (rs := [26]) (by kernel_rfl) (by simp) ?_
      refine AllReadyH.cons rfl (fun K hK => ?_) AllReadyH.nil
      go_simp
      refine (vector_ gb S ob _ [] yb4 (KX.out.below (Bb1.out.trans ((Bb2.out.trans ((Bb3.out.trans (Bb4.out.mono Bb3.out.size)).mono Bb2.out.size)).mono Bb1.out.size))) (fun k hk => absurd hk (by simp))).mono ?_
      rintro e yb5 ⟨VA, van, vac, rfl, hvc, hvd, bk⟩
      have HVD := Lib.hid hvd
      clear hvd hvc
      go_wp2_with fail
      have Bb5 := Lib.hid bk
      refine hK.out _ _ bk ?_
      intro hS
      clear hK K hS bk
      try simp only [Act.put, List.getElem_toArray, List.getElem_cons_zero, List.getElem_cons_succ, List.setIfInBounds_toArray, List.set_cons_zero, List.set_cons_succ]
      refine wpAnyH_strong (S2 := fun w' => Below yb5.heap.size yb5 w') (fun w' h' => Bb5.out.trans (h'.mono Bb5.out.size)) _ _ _ _ ?_
      have hS : Below yb5.heap.size yb5 yb5 := Below.refl _ _
      refine wpAnyH_ready (rs := [28]) (by kernel_rfl) (by simp) ?_
      refine AllReadyH.cons rfl (fun K hK => ?_) AllReadyH.nil
      go_simp
      refine (rvector_ K7 kn kc S [] yb5 (RKX.out.below (Bb1.out.trans ((Bb2.out.trans ((Bb3.out.trans ((Bb4.out.trans (Bb5.out.mono Bb4.out.size)).mono Bb3.out.size)).mono Bb2.out.size)).mono Bb1.out.size))) hkn.out (fun k hk => absurd hk (by simp))).mono ?_
      rintro e yb6 ⟨VB, vbn, vbc, rfl, hvc, hvd, bk⟩
      have HVB := Lib.hid hvd
      clear hvd hvc
      go_wp2_with fail
      have Bb6 := Lib.hid bk
      refine hK.out _ _ bk ?_
      intro hS
      clear hK K hS bk
      try simp only [Act.put, List.getElem_toArray, List.getElem_cons_zero, List.getElem_cons_succ, List.setIfInBounds_toArray, List.set_cons_zero, List.set_cons_succ]
      refine wpAnyH_strong (S2 := fun w' => Below yb6.heap.size yb6 w') (fun w' h' => Bb6.out.trans (h'.mono Bb6.out.size)) _ _ _ _ ?_
      have hS : Below yb6.heap.size yb6 yb6 := Below.refl _ _
      refine wpAnyH_ready (rs := [29]) (by kernel_rfl) (by simp) ?_
      refine AllReadyH.cons rfl (fun K hK => ?_) AllReadyH.nil
      go_simp
      refine (sameHeads_ VA van vac (vecL S) VB vbn vbc (vecL S) [] [] yb6 (HVD.out.below Bb6.out) (HVB.out.below (Below.refl _ _)) (by have h1 := HVD.out.len; have h2 := hvl5.out; unfold vecL at h1; omega)).mono ?_
      rintro e yb7 ⟨rfl, bk⟩
      rw [show decide (vecL S = vecL S) = true from decide_eq_true rfl]
      go_wp2_with fail
      have Bb7 := Lib.hid bk
      refine hK.out _ _ bk ?_
      intro hS
      clear hK K hS bk
      try simp only [Act.put, List.getElem_toArray, List.getElem_cons_zero, List.getElem_cons_succ, List.setIfInBounds_toArray, List.set_cons_zero, List.set_cons_succ]
      refine wpAnyH_strong (S2 := fun w' => Below yb7.heap.size yb7 w') (fun w' h' => Bb7.out.trans (h'.mono Bb7.out.size)) _ _ _ _ ?_
      have hS : Below yb7.heap.size yb7 yb7 := Below.refl _ _
      refine wpAnyH_take (i := 30) (v := .bool true) rfl (by kernel_rfl) (by kernel_rfl) (by kernel_rfl) (fun _ _ _ h => h) (Or.inl ⟨by rfl, ?hyb30⟩) hS ?restb30
      case hyb30 => (intro w' hSw; go_simp; first | done | with_reducible rfl)
      try simp only [Act.put, List.getElem_toArray, List.getElem_cons_zero, List.getElem_cons_succ, List.setIfInBounds_toArray, List.set_cons_zero, List.set_cons_succ]
      refine wpAnyH_take (i := 31) (v := .bool true) rfl (by kernel_rfl) (by kernel_rfl) (by kernel_rfl) (fun _ _ _ h => h) (Or.inl ⟨by rfl, ?hyb31⟩) hS ?restb31
      case hyb31 => (intro w' hSw; go_simp; first | done | with_reducible rfl)
      try simp only [Act.put, List.getElem_toArray, List.getElem_cons_zero, List.getElem_cons_succ, List.setIfInBounds_toArray, List.set_cons_zero, List.set_cons_succ]
      refine wpAnyH_take (i := 32) (v := ?vb32) rfl (by kernel_rfl) (by kernel_rfl) (by kernel_rfl) (fun _ _ _ h => h) (Or.inl ⟨by rfl, ?hyb32⟩) hS ?restb32
      case hyb32 => (intro w' hSw; go_simp; first | done | with_reducible rfl)
      try simp only [Act.put, List.getElem_toArray, List.getElem_cons_zero, List.getElem_cons_succ, List.setIfInBounds_toArray, List.set_cons_zero, List.set_cons_succ]
      refine wpAnyH_take (i := 34) (v := ?vb34) rfl (by kernel_rfl) (by kernel_rfl) (by kernel_rfl) (fun _ _ _ h => h) (Or.inl ⟨by rfl, ?hyb34⟩) hS ?restb34
      case hyb34 => (intro w' hSw; go_simp; first | done | with_reducible rfl)
      try simp only [Act.put, List.getElem_toArray, List.getElem_cons_zero, List.getElem_cons_succ, List.setIfInBounds_toArray, List.set_cons_zero, List.set_cons_succ]
      refine wpAnyH_take (i := 35) (v := .slice V7 vn vc) rfl (by kernel_rfl) (by kernel_rfl) (by kernel_rfl) (fun _ _ _ h => h) (Or.inl ⟨by rfl, ?hyb35⟩) hS ?restb35
      case hyb35 => (intro w' hSw; have c0 : w'.cell? ⟨GA + 1, 0, none⟩ = some (.slice V7 vn vc) := cell_blk (((Bb1.out.trans ((Bb2.out.trans ((Bb3.out.trans ((Bb4.out.trans ((Bb5.out.trans ((Bb6.out.trans ((Bb7.out.trans (hSw.mono Bb7.out.size)).mono Bb6.out.size)).mono Bb5.out.size)).mono Bb4.out.size)).mono Bb3.out.size)).mono Bb2.out.size)).mono Bb1.out.size)).block (GA + 1) (lt_of_blk XV.out)).trans XV.out) 0 rfl; go_simp; first | done | with_reducible rfl)
      try simp only [Act.put, List.getElem_toArray, List.getElem_cons_zero, List.getElem_cons_succ, List.setIfInBounds_toArray, List.set_cons_zero, List.set_cons_succ]
      refine wpAnyH_take (i := 36) (v := .int .i64 vn) rfl (by kernel_rfl) (by kernel_rfl) (by kernel_rfl) (fun _ _ _ h => h) (Or.inl ⟨by rfl, ?hyb36⟩) hS ?restb36
      case hyb36 => (intro w' hSw; go_simp; first | done | with_reducible rfl)
      try simp only [Act.put, List.getElem_toArray, List.getElem_cons_zero, List.getElem_cons_succ, List.setIfInBounds_toArray, List.set_cons_zero, List.set_cons_succ]
      refine wpAnyH_ready (rs := [33]) (by kernel_rfl) (by simp) ?_
      refine AllReadyH.cons rfl (fun K hK => ?_) AllReadyH.nil
      go_simp
      refine (len_ gi hs oi5 _ yb7 (IX.out.below (Bb1.out.trans ((Bb2.out.trans ((Bb3.out.trans ((Bb4.out.trans ((Bb5.out.trans ((Bb6.out.trans (Bb7.out.mono Bb6.out.size)).mono Bb5.out.size)).mono Bb4.out.size)).mono Bb3.out.size)).mono Bb2.out.size)).mono Bb1.out.size)))).mono ?_
      rintro e yb8 ⟨rfl, he⟩
      have bk : Below yb7.heap.size yb7 yb8 := by rw [he]; exact Below.refl _ _
      clear he
      rw [HVN.out]
      go_wp2_with fail
      have Bb8 := Lib.hid bk
      refine hK.out _ _ bk ?_
      intro hS
      clear hK K hS bk
      try simp only [Act.put, List.getElem_toArray, List.getElem_cons_zero, List.getElem_cons_succ, List.setIfInBounds_toArray, List.set_cons_zero, List.set_cons_succ]
      refine wpAnyH_strong (S2 := fun w' => Below yb8.heap.size yb8 w') (fun w' h' => Bb8.out.trans (h'.mono Bb8.out.size)) _ _ _ _ ?_
      have hS : Below yb8.heap.size yb8 yb8 := Below.refl _ _
      refine wpAnyH_take (i := 37) (v := .bool true) rfl (by kernel_rfl) (by kernel_rfl) (by kernel_rfl) (fun _ _ _ h => h) (Or.inl ⟨by rfl, ?hyb37⟩) hS ?restb37
      case hyb37 => (intro w' hSw; go_simp; first | done | with_reducible rfl)
      try simp only [Act.put, List.getElem_toArray, List.getElem_cons_zero, List.getElem_cons_succ, List.setIfInBounds_toArray, List.set_cons_zero, List.set_cons_succ]
      refine wpAnyH_take (i := 38) (v := .bool true) rfl (by kernel_rfl) (by kernel_rfl) (by kernel_rfl) (fun _ _ _ h => h) (Or.inl ⟨by rfl, ?hyb38⟩) hS ?restb38
      case hyb38 => (intro w' hSw; go_simp; first | done | with_reducible rfl)
      try simp only [Act.put, List.getElem_toArray, List.getElem_cons_zero, List.getElem_cons_succ, List.setIfInBounds_toArray, List.set_cons_zero, List.set_cons_succ]
      refine wpAnyH_take (i := 39) (v := .bool true) rfl (by kernel_rfl) (by kernel_rfl) (by kernel_rfl) (fun _ _ _ h => h) (Or.inl ⟨by rfl, ?hyb39⟩) hS ?restb39
      case hyb39 => (intro w' hSw; go_simp; first | done | with_reducible rfl)
      try simp only [Act.put, List.getElem_toArray, List.getElem_cons_zero, List.getElem_cons_succ, List.setIfInBounds_toArray, List.set_cons_zero, List.set_cons_succ]
      refine wpAnyH_ready (rs := [40]) (by kernel_rfl) (by simp) ?_
      refine AllReadyH.cons rfl (fun K hK => ?_) AllReadyH.nil
      go_simp
      refine (awake_ yb8).mono ?_
      rintro e yb9 ⟨rfl, bk⟩
      go_wp2_with fail
      have Bb9 := Lib.hid bk
      refine hK.out _ _ bk ?_
      intro hS
      clear hK K hS bk
      try simp only [Act.put, List.getElem_toArray, List.getElem_cons_zero, List.getElem_cons_succ, List.setIfInBounds_toArray, List.set_cons_zero, List.set_cons_succ]
      refine wpAnyH_strong (S2 := fun w' => Below yb9.heap.size yb9 w') (fun w' h' => Bb9.out.trans (h'.mono Bb9.out.size)) _ _ _ _ ?_
      have hS : Below yb9.heap.size yb9 yb9 := Below.refl _ _
      refine wpAnyH_take (i := 41) (v := .bool true) rfl (by kernel_rfl) (by kernel_rfl) (by kernel_rfl) (fun _ _ _ h => h) (Or.inl ⟨by rfl, ?hyb41⟩) hS ?restb41
      case hyb41 => (intro w' hSw; go_simp; first | done | with_reducible rfl)
      try simp only [Act.put, List.getElem_toArray, List.getElem_cons_zero, List.getElem_cons_succ, List.setIfInBounds_toArray, List.set_cons_zero, List.set_cons_succ]
      refine wpAnyH_take (i := 42) (v := .bool true) rfl (by kernel_rfl) (by kernel_rfl) (by kernel_rfl) (fun _ _ _ h => h) (Or.inl ⟨by rfl, ?hyb42⟩) hS ?restb42
      case hyb42 => (intro w' hSw; go_simp; first | done | with_reducible rfl)
      try simp only [Act.put, List.getElem_toArray, List.getElem_cons_zero, List.getElem_cons_succ, List.setIfInBounds_toArray, List.set_cons_zero, List.set_cons_succ]
      refine wpAnyH_done (by kernel_rfl) (NoPanic.normal ?_) _
      have BXt : Hid (Below V.heap.size V yb9) := BX0.out.trans ((Bb1.out.trans ((Bb2.out.trans ((Bb3.out.trans ((Bb4.out.trans ((Bb5.out.trans ((Bb6.out.trans ((Bb7.out.trans ((Bb8.out.trans (Bb9.out.mono Bb8.out.size)).mono Bb7.out.size)).mono Bb6.out.size)).mono Bb5.out.size)).mono Bb4.out.size)).mono Bb3.out.size)).mono Bb2.out.size)).mono Bb1.out.size)).mono BX0.out.size)
      go_wp2_with fail
      go_ret
      exact ⟨rfl, BWV.out.trans (BXt.out.mono BWV.out.size)⟩
  · have h4' : (4000 : Int) < n := by omega
    go_wp2_with fail
    refine (awake_ w).mono ?_
    rintro e w2 ⟨rfl, b2⟩
    go_wp2_with fail
    go_ret
    exact ⟨rfl, b2⟩
end Go.Proofs.Ytabcbpcfleociaa
