/- The law ChainBack, walked. -/
import Derived.Test.YtabcbpcfleociaaMGeT
import Derived.Test.YtabcbpcfleociaaMGet
import Derived.Test.YtabcbpcfleociaaMPv
import Derived.Test.YtabcbpcfleociaaMPla
namespace Go.Proofs.Ytabcbpcfleociaa
open Go.RowKit
attribute [local go_sem ↓] Go.wp_at_zero Go.wp_at_succ
set_option linter.unusedSimpArgs false
set_option linter.unusedVariables false
set_option maxRecDepth 20000 in
set_option maxHeartbeats 16000000 in
theorem chainBack_walk (A : Option Addr) (n c : Nat) (ls : List Dn) (A2 : Option Addr) (n2 c2 : Nat) (lb : List UInt8) (w : World) (hr : RdD w w.heap.size A n ls) (hc : n ≤ c) (hq : n ≤ 140737488351232 ∧ Reaches w A n) (hr2 : Rd w w.heap.size 1 A2 n2 (lb.map B8)) (hc2 : n2 ≤ c2) (hn2 : n2 ≤ 140737488351232) :
    Calls Try.prog 13 #[.slice A n c, .slice A2 n2 c2] w fun e w' => e = .returned (.bool true) ∧ Below w.heap.size w w' := by
  have HR0 := Lib.hid hr
  have HQ := Lib.hid hq
  have HB0 := Lib.hid hr2
  clear hr hq hr2
  go_enter Try.func13, Try.ntmps13
  by_cases h4 : n2 ≤ 4000
  · have h4' : ¬ (4000 : Int) < n2 := by omega
    go_wp2_with fail
    refine (small_ A n c ls w HR0.out HQ.out.1).mono ?_
    rintro e w1 ⟨⟨b, rfl, hb40⟩, b1⟩
    have B1 := Lib.hid b1
    clear b1
    rcases b with _ | _
    · clear hb40
      go_wp2_with fail
      refine (awake_ w1).mono ?_
      rintro e w2 ⟨rfl, b2⟩
      have B2 := Lib.hid b2
      clear b2
      go_wp2_with fail
      go_ret
      exact ⟨rfl, B1.out.trans (B2.out.mono B1.out.size)⟩
    · have HN : Hid (n ≤ 40) := hb40 rfl
      have HR : Hid (RdD w1 w1.heap.size A n ls) := (HR0.out.to B1.out).more B1.out.size
      have HRE : Hid (Reaches w1 A n) := (HQ.out.2).to HR0.out B1.out
      have HB1 : Hid (Rd w1 w1.heap.size 1 A2 n2 (lb.map B8)) := (HB0.out.below B1.out).more B1.out.size
      clear hb40
      go_wp2_with fail
      refine (played_ A n c ls w1 HR.out HRE.out HN.out).mono ?_
      rintro e u ⟨p, S, hs, rfl, hp, hre, bu⟩
      have P0 := Lib.hid hp
      have RE := Lib.hid hre
      have BU := Lib.hid bu
      clear hp hre bu
      unfold plV
      go_wp2_with fail
      obtain ⟨U, hU⟩ : ∃ U, Hid (U = u.alloc (.cells #[.pointer (some ⟨p.gb, 0, none⟩), .pointer (some ⟨p.gi, 0, none⟩), .slice p.A p.n p.c, .slice p.V p.vn p.vc, .int .i64 0] 35)) := ⟨_, Lib.hid rfl⟩
      obtain ⟨G4, hG4⟩ : ∃ g, Hid (g = u.heap.size) := ⟨_, Lib.hid rfl⟩
      rw [← hU.out, ← hG4.out]
      have BU1 : Below u.heap.size u U := by rw [hU.out]; exact (Below.refl _ _).alloc (Nat.le_refl _) _
      have RU : Hid (U.heap[G4]? = some (.cells (plC p).toArray 35 (0, 0))) := by unfold Hid; rw [hU.out, hG4.out]; exact heap_alloc_new _ _
      have P1 : Hid (Play U w1.heap.size p S hs [G4]) := P0.out.keep (Fr.below (own := []) BU1) (fun _ h => absurd h (by simp)) (fun k hk => by simp at hk; exact Or.inr (by rw [hk, hG4.out]; exact Nat.le_refl _)) (fun k hk => by simp at hk; rw [hk]; exact lt_of_blk RU.out)
      have BU1w : Hid (Below w1.heap.size w1 U) := BU.out.trans (BU1.mono BU.out.size)
      have hG4w : Hid (w1.heap.size ≤ G4) := by rw [hG4.out]; exact BU.out.size
      have HB2 : Hid (Rd U U.heap.size 1 A2 n2 (lb.map B8)) := (HB1.out.below BU1w.out).more BU1w.out.size
      clear BU1 P0 BU
      refine (len_ p.gi hs p.oi (p.ob ++ [G4]) U P1.out.pr.id).mono ?_
      rintro e u2 ⟨rfl, rfl⟩
      have q0 := cell_blk RU.out 0 rfl
      have q1 := cell_blk RU.out 1 rfl
      go_wp2_with fail
      refine (bput_ p.gb S p.ob (p.oi ++ [G4]) none 0 0 [] _ P1.out.pr.bk (Rd.nil _ _ _ _) (by omega)).mono ?_
      intro e v hv
      obtain ⟨A3, m3, c3, rfl, l3, o3, b3⟩ := hv.n
      rw [List.nil_append] at l3 o3
      have B3 := Lib.hid b3
      have hSl : Hid (S.length ≤ 40) := by have h1 := RE.out.len.1; have h2 := HN.out; unfold Hid; omega
      have hm3 : m3 ≤ 9000 := by
        have h1 := putP_len RE.out.ok 5
        have h2 := l3.out; have h3 := hSl.out
        unfold putL at h2
        omega
      have hlb : Hid (lb.length = n2) := by have h1 := HB0.out.len; unfold Hid; simpa using h1
      have HB3 : Hid (Rd v v.heap.size 1 A2 n2 (lb.map B8)) := (HB2.out.below B3.out).more B3.out.size
      have O3 := Lib.hid o3
      clear hv b3 o3 q0 q1
      go_wp2_with (at_builtin
                   refine wpList_app rfl (.tmp 28) (.tmp 29) 38 rfl u2.heap.size 5 1 1 _ Try.underlying38 info8 rfl (by decide) (.slice A3 m3 c3) m3 _ rfl O3.out _ A2 n2 c2 (lb.map B8) rfl HB3.out (B8_one _) (by simp only [maxLen]; omega) (by omega) B3.out.size ?_
                   intro A6 c6 w6 o6 g6 k6
                   have B6 : Hid (Below u2.heap.size u2 w6) := B3.out.trans (below_grown g6 (own_block_ge2 O3.out) B3.out.size)
                   have R6 : Hid (Rd w6 w6.heap.size 1 A6 (m3 + n2) ((putL S ++ lb).map B8)) := by rw [List.map_append]; exact Rd.of_own o6
                   clear o6 g6 k6)
      refine (read_any A6 (m3 + n2) c6 (putL S ++ lb) w6 R6.out (by omega)).mono ?_
      rintro e w7 ⟨g, A7, c7, rfl, hg7, hrd, r7, b7, hc7⟩
      have B7 : Hid (Below u2.heap.size u2 w7) := B6.out.trans (b7.mono B6.out.size)
      have RR7 : Hid (RR w7 w7.heap.size g (putL S ++ lb) 0 0) := ⟨A7, m3 + n2, c7, hrd, r7, hc7, Nat.zero_le _, by omega, hrd.lt, Nat.le_refl _, fun b o h0 e => by obtain ⟨b', o', e', hb', _⟩ := r7.2 h0; rw [e] at e'; injection e' with e'; injection e' with e1; omega⟩
      have hgu : Hid (u2.heap.size ≤ g) := Nat.le_trans B6.out.size hg7
      clear hrd r7 b7 hg7
      have P7 : Hid (Play w7 w1.heap.size p S hs [G4, g]) := P1.out.keep (Fr.below (own := []) B7.out) (fun _ h => absurd h (by simp)) (fun k hk => by
        simp at hk
        rcases hk with h | h
        · exact Or.inl (by simp [h])
        · exact Or.inr (by rw [h]; exact hgu.out)) (fun k hk => by
        simp at hk
        rcases hk with h | h
        · rw [h]; exact Nat.lt_of_lt_of_le (lt_of_blk RU.out) B7.out.size
        · rw [h]; exact RR7.out.lt)
      have R47 : Hid (w7.heap[G4]? = some (.cells (plC p).toArray 35 (0, 0))) := (B7.out.block G4 (lt_of_blk RU.out)).trans RU.out
      have BW7 : Hid (Below w1.heap.size w1 w7) := BU1w.out.trans (B7.out.mono BU1w.out.size)
      have hpp : Hid (parse (putL S ++ lb) = ⟨backL S 5, (putL S).length, 0⟩) := parse_put lb RE.out.ok (by have := hSl.out; omega) RE.out.up
      have hll : Hid ((putL S ++ lb).length = m3 + n2) := by unfold Hid; rw [List.length_append, l3.out, hlb.out]
      have q1 := cell_blk R47.out 1 rfl
      clear P1 RU B7 HB3 O3
      go_wp2_with fail
      refine (get_ p.gi hs p.oi (p.ob ++ [G4, g]) w7.heap.size g (putL S ++ lb) (g :: p.oi) w7 P7.out.pr.id (fun k hk => List.mem_cons_of_mem _ hk) (P7.out.pr.xd g (by simp)).2 (by simp) (fun k hk => P7.out.lt k (by
        rcases List.mem_append.1 hk with h | h
        · exact List.mem_append.2 (Or.inl (List.mem_append.2 (Or.inl h)))
        · exact List.mem_append.2 (Or.inr h))) (by have h1 := RE.out.len.2; have h2 := HN.out; omega) RR7.out rfl (fun k hk => by
        rcases List.mem_cons.1 hk with h | h
        · rw [h]; exact RR7.out.lt
        · exact P7.out.lt k (List.mem_append.2 (Or.inl (List.mem_append.2 (Or.inr h))))) (by simp) (by rw [hll.out]; omega)).mono ?_
      rintro e w8 ⟨hRS, hcase⟩
      rw [hpp.out] at hRS hcase
      rcases hcase with ⟨h1, _⟩ | ⟨_, hok⟩
      · exact absurd rfl h1
      · obtain ⟨gc, oc, o2, rfl, hoc, ho2, hdj, hbc, hic, hfc⟩ := hok
        rw [hpp.out, getS_back RE.out.kp] at hbc hic
        simp only at hRS hbc hic
        have RS8 := Lib.hid hRS
        have KC := Lib.hid hbc
        have IC := Lib.hid hic
        have hb8 : Hid (Fr (g :: p.oi) w7 w8 (g :: o2)) := hfc
        have K8 : Hid (BookAt w8 p.gb S p.ob (p.oi ++ [G4, g] ++ o2)) := P7.out.pr.bk.keep hfc (fun k hk => by
          rcases List.mem_cons.1 hk with h | h
          · simp [h]
          · simp [h]) (fun k hk => by
          rcases List.mem_cons.1 hk with h | h
          · rw [h]; exact (P7.out.pr.xd g (by simp)).1
          · exact P7.out.pr.dj k h) (fun k hk => by
          rcases List.mem_append.1 hk with h | h
          · exact Or.inl h
          · exact (ho2 k h).imp (fun h => by simp [h]) id)
        have R48 : Hid (w8.heap[G4]? = some (.cells (plC p).toArray 35 (0, 0))) := (hfc.block G4 (lt_of_blk R47.out) (fun hm => by
          rcases List.mem_cons.1 hm with h | h
          · have h1 := hgu.out; have h2 := hG4.out; have h3 := hU.out; have h4 : u2.heap.size = u.heap.size + 1 := by rw [h3, szAlloc]
            omega
          · exact (P7.out.pr.xd G4 (by simp)).2 h)).trans R47.out
        have BW8 : Hid (Below w1.heap.size w1 w8) := BW7.out.trans (hfc.toBelow (fun k hk => by
          rcases List.mem_cons.1 hk with h | h
          · rw [h]; exact Nat.le_trans BU1w.out.size hgu.out
          · exact P7.out.lo k (List.mem_append.2 (Or.inr h))) BW7.out.size)
        clear hRS hbc hic q1
        go_wp2_with fail
        obtain ⟨X, hX⟩ : ∃ W, Hid (W = w8.drew) := ⟨_, Lib.hid rfl⟩
        have dX : Below w8.heap.size w8 X := by rw [hX.out]; exact below_drew (Below.refl _ _)
        have X4 : Hid (∀ w', Below X.heap.size X w' → ∀ j v, (plC p)[j]? = some v → w'.cell? ⟨G4, j, none⟩ = some v) := fun w' h' j v hj => by have := range_keep (range_of R48.out) (dX.trans (h'.mono dX.size)) (lt_of_blk R48.out) j v hj; rwa [Nat.zero_add] at this
        have KCX := Lib.hid (KC.out.below dX)
        have K8X := Lib.hid (K8.out.below dX)
        have ICX := Lib.hid (IC.out.below dX)
        have RSX : Hid (RS X g (putL S ++ lb) (putL S).length 0) := RS8.out.block (dX.block g (by obtain ⟨_, _, h, _⟩ := RS8.out; exact h.lt))
        have BX0 := Lib.hid dX
        have hvl5 := Lib.hid (vecP_len S 5)
        refine wp_region_noPanic ?_
        refine wp_region_held_drew (S := fun w' => Below X.heap.size X w') (by kernel_rfl) (by rw [← hX.out]; exact Below.refl _ _) (fun hS => ?_)
        rw [← hX.out]
        clear hS
        have hS : Below X.heap.size X X := Below.refl _ _
        refine wpAnyH_take (i := 0) (v := ?vb0) rfl (by kernel_rfl) (by kernel_rfl) (by kernel_rfl) (fun _ _ _ h => h) (Or.inl ⟨by rfl, ?hyb0⟩) hS ?restb0
        case hyb0 => (intro w' hSw; go_simp; first | done | with_reducible rfl)
        try simp only [Act.put, List.getElem_toArray, List.getElem_cons_zero, List.getElem_cons_succ, List.setIfInBounds_toArray, List.set_cons_zero, List.set_cons_succ]
        refine wpAnyH_take (i := 1) (v := .bool true) rfl (by kernel_rfl) (by kernel_rfl) (by kernel_rfl) (fun _ _ _ h => h) (Or.inl ⟨by rfl, ?hyb1⟩) hS ?restb1
        case hyb1 => (intro w' hSw; go_simp; first | done | with_reducible rfl)
        try simp only [Act.put, List.getElem_toArray, List.getElem_cons_zero, List.getElem_cons_succ, List.setIfInBounds_toArray, List.set_cons_zero, List.set_cons_succ]
        refine wpAnyH_take (i := 2) (v := .bool true) rfl (by kernel_rfl) (by kernel_rfl) (by kernel_rfl) (fun _ _ _ h => h) (Or.inl ⟨by rfl, ?hyb2⟩) hS ?restb2
        case hyb2 => (intro w' hSw; go_simp; first | done | with_reducible rfl)
        try simp only [Act.put, List.getElem_toArray, List.getElem_cons_zero, List.getElem_cons_succ, List.setIfInBounds_toArray, List.set_cons_zero, List.set_cons_succ]
        refine wpAnyH_take (i := 3) (v := ?vb3) rfl (by kernel_rfl) (by kernel_rfl) (by kernel_rfl) (fun _ _ _ h => h) (Or.inl ⟨by rfl, ?hyb3⟩) hS ?restb3
        case hyb3 => (intro w' hSw; go_simp; first | done | with_reducible rfl)
        try simp only [Act.put, List.getElem_toArray, List.getElem_cons_zero, List.getElem_cons_succ, List.setIfInBounds_toArray, List.set_cons_zero, List.set_cons_succ]
        refine wpAnyH_ready (rs := [4]) (by kernel_rfl) (by simp) ?_
        refine AllReadyH.cons rfl (fun K hK => ?_) AllReadyH.nil
        go_simp
        refine (errS_ g (putL S ++ lb) (putL S).length 0 X (RSX.out.belowS (Below.refl _ _))).mono ?_
        rintro e yb1 ⟨rfl, bk⟩
        go_wp2_with fail
        have Bb1 := Lib.hid bk
        refine hK.out _ _ bk ?_
        intro hS
        clear hK K hS bk
        try simp only [Act.put, List.getElem_toArray, List.getElem_cons_zero, List.getElem_cons_succ, List.setIfInBounds_toArray, List.set_cons_zero, List.set_cons_succ]
        refine wpAnyH_strong (S2 := fun w' => Below yb1.heap.size yb1 w') (fun w' h' => Bb1.out.trans (h'.mono Bb1.out.size)) _ _ _ _ ?_
        have hS : Below yb1.heap.size yb1 yb1 := Below.refl _ _
        refine wpAnyH_take (i := 5) (v := .bool true) rfl (by kernel_rfl) (by kernel_rfl) (by kernel_rfl) (fun _ _ _ h => h) (Or.inl ⟨by rfl, ?hyb5⟩) hS ?restb5
        case hyb5 => (intro w' hSw; go_simp; first | done | with_reducible rfl)
        try simp only [Act.put, List.getElem_toArray, List.getElem_cons_zero, List.getElem_cons_succ, List.setIfInBounds_toArray, List.set_cons_zero, List.set_cons_succ]
        refine wpAnyH_take (i := 6) (v := .bool true) rfl (by kernel_rfl) (by kernel_rfl) (by kernel_rfl) (fun _ _ _ h => h) (Or.inl ⟨by rfl, ?hyb6⟩) hS ?restb6
        case hyb6 => (intro w' hSw; go_simp; first | done | with_reducible rfl)
        try simp only [Act.put, List.getElem_toArray, List.getElem_cons_zero, List.getElem_cons_succ, List.setIfInBounds_toArray, List.set_cons_zero, List.set_cons_succ]
        refine wpAnyH_take (i := 7) (v := .bool true) rfl (by kernel_rfl) (by kernel_rfl) (by kernel_rfl) (fun _ _ _ h => h) (Or.inl ⟨by rfl, ?hyb7⟩) hS ?restb7
        case hyb7 => (intro w' hSw; go_simp; first | done | with_reducible rfl)
        try simp only [Act.put, List.getElem_toArray, List.getElem_cons_zero, List.getElem_cons_succ, List.setIfInBounds_toArray, List.set_cons_zero, List.set_cons_succ]
        refine wpAnyH_take (i := 8) (v := ?vb8) rfl (by kernel_rfl) (by kernel_rfl) (by kernel_rfl) (fun _ _ _ h => h) (Or.inl ⟨by rfl, ?hyb8⟩) hS ?restb8
        case hyb8 => (intro w' hSw; go_simp; first | done | with_reducible rfl)
        try simp only [Act.put, List.getElem_toArray, List.getElem_cons_zero, List.getElem_cons_succ, List.setIfInBounds_toArray, List.set_cons_zero, List.set_cons_succ]
        refine wpAnyH_take (i := 10) (v := ?vb10) rfl (by kernel_rfl) (by kernel_rfl) (by kernel_rfl) (fun _ _ _ h => h) (Or.inl ⟨by rfl, ?hyb10⟩) hS ?restb10
        case hyb10 => (intro w' hSw; go_simp; first | done | with_reducible rfl)
        try simp only [Act.put, List.getElem_toArray, List.getElem_cons_zero, List.getElem_cons_succ, List.setIfInBounds_toArray, List.set_cons_zero, List.set_cons_succ]
        refine wpAnyH_take (i := 11) (v := ?vb11) rfl (by kernel_rfl) (by kernel_rfl) (by kernel_rfl) (fun _ _ _ h => h) (Or.inl ⟨by rfl, ?hyb11⟩) hS ?restb11
        case hyb11 => (intro w' hSw; go_simp; first | done | with_reducible rfl)
        try simp only [Act.put, List.getElem_toArray, List.getElem_cons_zero, List.getElem_cons_succ, List.setIfInBounds_toArray, List.set_cons_zero, List.set_cons_succ]
        refine wpAnyH_ready (rs := [9]) (by kernel_rfl) (by simp) ?_
        refine AllReadyH.cons rfl (fun K hK => ?_) AllReadyH.nil
        go_simp
        refine (leftS_ g (putL S ++ lb) (putL S).length 0 yb1 (RSX.out.belowS Bb1.out) (by rw [hll.out]; omega)).mono ?_
        rintro e yb2 ⟨rfl, bk⟩
        rw [show (((putL S ++ lb).length : Int) - ((putL S).length : Nat)) = (n2 : Int) by rw [List.length_append, hlb.out]; omega]
        go_wp2_with fail
        have Bb2 := Lib.hid bk
        refine hK.out _ _ bk ?_
        intro hS
        clear hK K hS bk
        try simp only [Act.put, List.getElem_toArray, List.getElem_cons_zero, List.getElem_cons_succ, List.setIfInBounds_toArray, List.set_cons_zero, List.set_cons_succ]
        refine wpAnyH_strong (S2 := fun w' => Below yb2.heap.size yb2 w') (fun w' h' => Bb2.out.trans (h'.mono Bb2.out.size)) _ _ _ _ ?_
        have hS : Below yb2.heap.size yb2 yb2 := Below.refl _ _
        refine wpAnyH_take (i := 12) (v := .bool true) rfl (by kernel_rfl) (by kernel_rfl) (by kernel_rfl) (fun _ _ _ h => h) (Or.inl ⟨by rfl, ?hyb12⟩) hS ?restb12
        case hyb12 => (intro w' hSw; go_simp; first | done | with_reducible rfl)
        try simp only [Act.put, List.getElem_toArray, List.getElem_cons_zero, List.getElem_cons_succ, List.setIfInBounds_toArray, List.set_cons_zero, List.set_cons_succ]
        refine wpAnyH_take (i := 13) (v := .bool true) rfl (by kernel_rfl) (by kernel_rfl) (by kernel_rfl) (fun _ _ _ h => h) (Or.inl ⟨by rfl, ?hyb13⟩) hS ?restb13
        case hyb13 => (intro w' hSw; go_simp; first | done | with_reducible rfl)
        try simp only [Act.put, List.getElem_toArray, List.getElem_cons_zero, List.getElem_cons_succ, List.setIfInBounds_toArray, List.set_cons_zero, List.set_cons_succ]
        refine wpAnyH_take (i := 14) (v := .bool true) rfl (by kernel_rfl) (by kernel_rfl) (by kernel_rfl) (fun _ _ _ h => h) (Or.inl ⟨by rfl, ?hyb14⟩) hS ?restb14
        case hyb14 => (intro w' hSw; go_simp; first | done | with_reducible rfl)
        try simp only [Act.put, List.getElem_toArray, List.getElem_cons_zero, List.getElem_cons_succ, List.setIfInBounds_toArray, List.set_cons_zero, List.set_cons_succ]
        refine wpAnyH_take (i := 15) (v := ?vb15) rfl (by kernel_rfl) (by kernel_rfl) (by kernel_rfl) (fun _ _ _ h => h) (Or.inl ⟨by rfl, ?hyb15⟩) hS ?restb15
        case hyb15 => (intro w' hSw; go_simp; first | done | with_reducible rfl)
        try simp only [Act.put, List.getElem_toArray, List.getElem_cons_zero, List.getElem_cons_succ, List.setIfInBounds_toArray, List.set_cons_zero, List.set_cons_succ]
        refine wpAnyH_take (i := 18) (v := ?vb18) rfl (by kernel_rfl) (by kernel_rfl) (by kernel_rfl) (fun _ _ _ h => h) (Or.inl ⟨by rfl, ?hyb18⟩) hS ?restb18
        case hyb18 => (intro w' hSw; go_simp; first | done | with_reducible rfl)
        try simp only [Act.put, List.getElem_toArray, List.getElem_cons_zero, List.getElem_cons_succ, List.setIfInBounds_toArray, List.set_cons_zero, List.set_cons_succ]
        refine wpAnyH_take (i := 19) (v := .pointer (some ⟨p.gb, 0, none⟩)) rfl (by kernel_rfl) (by kernel_rfl) (by kernel_rfl) (fun _ _ _ h => h) (Or.inl ⟨by rfl, ?hyb19⟩) hS ?restb19
        case hyb19 => (intro w' hSw; have c0 : w'.cell? ⟨G4, 0, none⟩ = some (.pointer (some ⟨p.gb, 0, none⟩)) := X4.out w' (Bb1.out.trans ((Bb2.out.trans (hSw.mono Bb2.out.size)).mono Bb1.out.size)) 0 _ rfl; go_simp; first | done | with_reducible rfl)
        try simp only [Act.put, List.getElem_toArray, List.getElem_cons_zero, List.getElem_cons_succ, List.setIfInBounds_toArray, List.set_cons_zero, List.set_cons_succ]
        refine wpAnyH_ready (rs := [16]) (by kernel_rfl) (by simp) ?_
        refine AllReadyH.cons rfl (fun K hK => ?_) AllReadyH.nil
        go_simp
        refine (bput_ gc (backB S 5) oc _ none 0 0 [] yb2 (KCX.out.below (Bb1.out.trans (Bb2.out.mono Bb1.out.size))) (Rd.nil _ _ _ _) (by decide)).mono ?_
        rintro e yb3 hr7
        obtain ⟨A7, m7, c7, rfl, hm7, o7, bk⟩ := hr7.n
        rw [List.nil_append, putL_back RE.out.ok] at o7
        have O7 := Lib.hid (Rd.of_own o7)
        clear o7 hr7 hm7
        go_wp2_with fail
        have Bb3 := Lib.hid bk
        refine hK.out _ _ bk ?_
        intro hS
        clear hK K hS bk
        try simp only [Act.put, List.getElem_toArray, List.getElem_cons_zero, List.getElem_cons_succ, List.setIfInBounds_toArray, List.set_cons_zero, List.set_cons_succ]
        refine wpAnyH_strong (S2 := fun w' => Below yb3.heap.size yb3 w') (fun w' h' => Bb3.out.trans (h'.mono Bb3.out.size)) _ _ _ _ ?_
        have hS : Below yb3.heap.size yb3 yb3 := Below.refl _ _
        refine wpAnyH_take (i := 17) (v := .string (str (putL S))) rfl (by kernel_rfl) (by kernel_rfl) (by kernel_rfl) (fun _ _ _ h => h) (Or.inl ⟨by rfl, ?hyb17⟩) hS ?restb17
        case hyb17 => (intro w' hSw; have hc := conv8 w' A7 m7 c7 _ (O7.out.to hSw); go_simp; first | done | with_reducible rfl)
        try simp only [Act.put, List.getElem_toArray, List.getElem_cons_zero, List.getElem_cons_succ, List.setIfInBounds_toArray, List.set_cons_zero, List.set_cons_succ]
        refine wpAnyH_ready (rs := [20]) (by kernel_rfl) (by simp) ?_
        refine AllReadyH.cons rfl (fun K hK => ?_) AllReadyH.nil
        go_simp
        refine (bput_ p.gb S p.ob _ none 0 0 [] yb3 (K8X.out.below (Bb1.out.trans ((Bb2.out.trans (Bb3.out.mono Bb2.out.size)).mono Bb1.out.size))) (Rd.nil _ _ _ _) (by decide)).mono ?_
        rintro e yb4 hr9
        obtain ⟨A9, m9, c9, rfl, hm9, o9, bk⟩ := hr9.n
        rw [List.nil_append] at o9
        have O9 := Lib.hid (Rd.of_own o9)
        clear o9 hr9 hm9
        go_wp2_with fail
        have Bb4 := Lib.hid bk
        refine hK.out _ _ bk ?_
        intro hS
        clear hK K hS bk
        try simp only [Act.put, List.getElem_toArray, List.getElem_cons_zero, List.getElem_cons_succ, List.setIfInBounds_toArray, List.set_cons_zero, List.set_cons_succ]
        refine wpAnyH_strong (S2 := fun w' => Below yb4.heap.size yb4 w') (fun w' h' => Bb4.out.trans (h'.mono Bb4.out.size)) _ _ _ _ ?_
        have hS : Below yb4.heap.size yb4 yb4 := Below.refl _ _
        refine wpAnyH_take (i := 21) (v := .string (str (putL S))) rfl (by kernel_rfl) (by kernel_rfl) (by kernel_rfl) (fun _ _ _ h => h) (Or.inl ⟨by rfl, ?hyb21⟩) hS ?restb21
        case hyb21 => (intro w' hSw; have hc := conv8 w' A9 m9 c9 _ (O9.out.to hSw); go_simp; first | done | with_reducible rfl)
        try simp only [Act.put, List.getElem_toArray, List.getElem_cons_zero, List.getElem_cons_succ, List.setIfInBounds_toArray, List.set_cons_zero, List.set_cons_succ]
        refine wpAnyH_take (i := 22) (v := .bool true) rfl (by kernel_rfl) (by kernel_rfl) (by kernel_rfl) (fun _ _ _ h => h) (Or.inl ⟨by rfl, ?hyb22⟩) hS ?restb22
        case hyb22 => (intro w' hSw; go_simp; first | done | with_reducible rfl)
        try simp only [Act.put, List.getElem_toArray, List.getElem_cons_zero, List.getElem_cons_succ, List.setIfInBounds_toArray, List.set_cons_zero, List.set_cons_succ]
        refine wpAnyH_take (i := 23) (v := .bool true) rfl (by kernel_rfl) (by kernel_rfl) (by kernel_rfl) (fun _ _ _ h => h) (Or.inl ⟨by rfl, ?hyb23⟩) hS ?restb23
        case hyb23 => (intro w' hSw; go_simp; first | done | with_reducible rfl)
        try simp only [Act.put, List.getElem_toArray, List.getElem_cons_zero, List.getElem_cons_succ, List.setIfInBounds_toArray, List.set_cons_zero, List.set_cons_succ]
        refine wpAnyH_take (i := 24) (v := .bool true) rfl (by kernel_rfl) (by kernel_rfl) (by kernel_rfl) (fun _ _ _ h => h) (Or.inl ⟨by rfl, ?hyb24⟩) hS ?restb24
        case hyb24 => (intro w' hSw; go_simp; first | done | with_reducible rfl)
        try simp only [Act.put, List.getElem_toArray, List.getElem_cons_zero, List.getElem_cons_succ, List.setIfInBounds_toArray, List.set_cons_zero, List.set_cons_succ]
        refine wpAnyH_take (i := 25) (v := ?vb25) rfl (by kernel_rfl) (by kernel_rfl) (by kernel_rfl) (fun _ _ _ h => h) (Or.inl ⟨by rfl, ?hyb25⟩) hS ?restb25
        case hyb25 => (intro w' hSw; go_simp; first | done | with_reducible rfl)
        try simp only [Act.put, List.getElem_toArray, List.getElem_cons_zero, List.getElem_cons_succ, List.setIfInBounds_toArray, List.set_cons_zero, List.set_cons_succ]
        refine wpAnyH_take (i := 27) (v := ?vb27) rfl (by kernel_rfl) (by kernel_rfl) (by kernel_rfl) (fun _ _ _ h => h) (Or.inl ⟨by rfl, ?hyb27⟩) hS ?restb27
        case hyb27 => (intro w' hSw; go_simp; first | done | with_reducible rfl)
        try simp only [Act.put, List.getElem_toArray, List.getElem_cons_zero, List.getElem_cons_succ, List.setIfInBounds_toArray, List.set_cons_zero, List.set_cons_succ]
        refine wpAnyH_take (i := 28) (v := .pointer (some ⟨p.gb, 0, none⟩)) rfl (by kernel_rfl) (by kernel_rfl) (by kernel_rfl) (fun _ _ _ h => h) (Or.inl ⟨by rfl, ?hyb28⟩) hS ?restb28
        case hyb28 => (intro w' hSw; have c0 : w'.cell? ⟨G4, 0, none⟩ = some (.pointer (some ⟨p.gb, 0, none⟩)) := X4.out w' (Bb1.out.trans ((Bb2.out.trans ((Bb3.out.trans ((Bb4.out.trans (hSw.mono Bb4.out.size)).mono Bb3.out.size)).mono Bb2.out.size)).mono Bb1.out.size)) 0 _ rfl; go_simp; first | done | with_reducible rfl)
        try simp only [Act.put, List.getElem_toArray, List.getElem_cons_zero, List.getElem_cons_succ, List.setIfInBounds_toArray, List.set_cons_zero, List.set_cons_succ]
        refine wpAnyH_ready (rs := [26]) (by kernel_rfl) (by simp) ?_
        refine AllReadyH.cons rfl (fun K hK => ?_) AllReadyH.nil
        go_simp
        refine (vector_ gc (backB S 5) oc _ [] yb4 (KCX.out.below (Bb1.out.trans ((Bb2.out.trans ((Bb3.out.trans (Bb4.out.mono Bb3.out.size)).mono Bb2.out.size)).mono Bb1.out.size))) (fun k hk => absurd hk (by simp))).mono ?_
        rintro e yb5 ⟨VA, vn, vc, rfl, hvc, hvd, bk⟩
        rw [vecL_back RE.out.ok] at hvd
        have HVD := Lib.hid hvd
        clear hvd hvc
        go_wp2_with fail
        have Bb5 := Lib.hid bk
        refine hK.out _ _ bk ?_
        intro hS
        clear hK K hS bk
        try simp only [Act.put, List.getElem_toArray, List.getElem_cons_zero, List.getElem_cons_succ, List.setIfInBounds_toArray, List.set_cons_zero, List.set_cons_succ]
        refine wpAnyH_strong (S2 := fun w' => Below yb5.heap.size yb5 w') (fun w' h' => Bb5.out.trans (h'.mono Bb5.out.size)) _ _ _ _ ?_
        have hS : Below yb5.heap.size yb5 yb5 := Below.refl _ _
        refine wpAnyH_ready (rs := [29]) (by kernel_rfl) (by simp) ?_
        refine AllReadyH.cons rfl (fun K hK => ?_) AllReadyH.nil
        go_simp
        refine (vector_ p.gb S p.ob _ [] yb5 (K8X.out.below (Bb1.out.trans ((Bb2.out.trans ((Bb3.out.trans ((Bb4.out.trans (Bb5.out.mono Bb4.out.size)).mono Bb3.out.size)).mono Bb2.out.size)).mono Bb1.out.size))) (fun k hk => absurd hk (by simp))).mono ?_
        rintro e yb6 ⟨VB, vbn, vbc, rfl, hvc, hvd, bk⟩
        have HVB := Lib.hid hvd
        clear hvd hvc
        go_wp2_with fail
        have Bb6 := Lib.hid bk
        refine hK.out _ _ bk ?_
        intro hS
        clear hK K hS bk
        try simp only [Act.put, List.getElem_toArray, List.getElem_cons_zero, List.getElem_cons_succ, List.setIfInBounds_toArray, List.set_cons_zero, List.set_cons_succ]
        refine wpAnyH_strong (S2 := fun w' => Below yb6.heap.size yb6 w') (fun w' h' => Bb6.out.trans (h'.mono Bb6.out.size)) _ _ _ _ ?_
        have hS : Below yb6.heap.size yb6 yb6 := Below.refl _ _
        refine wpAnyH_ready (rs := [30]) (by kernel_rfl) (by simp) ?_
        refine AllReadyH.cons rfl (fun K hK => ?_) AllReadyH.nil
        go_simp
        refine (sameHeads_ VA vn vc (vecL S) VB vbn vbc (vecL S) [] [] yb6 (HVD.out.below Bb6.out) (HVB.out.below (Below.refl _ _)) (by have h1 := HVD.out.len; have h2 := hvl5.out; unfold vecL at h1; omega)).mono ?_
        rintro e yb7 ⟨rfl, bk⟩
        rw [show decide (vecL S = vecL S) = true from decide_eq_true rfl]
        go_wp2_with fail
        have Bb7 := Lib.hid bk
        refine hK.out _ _ bk ?_
        intro hS
        clear hK K hS bk
        try simp only [Act.put, List.getElem_toArray, List.getElem_cons_zero, List.getElem_cons_succ, List.setIfInBounds_toArray, List.set_cons_zero, List.set_cons_succ]
        refine wpAnyH_strong (S2 := fun w' => Below yb7.heap.size yb7 w') (fun w' h' => Bb7.out.trans (h'.mono Bb7.out.size)) _ _ _ _ ?_
        have hS : Below yb7.heap.size yb7 yb7 := Below.refl _ _
        refine wpAnyH_take (i := 31) (v := .bool true) rfl (by kernel_rfl) (by kernel_rfl) (by kernel_rfl) (fun _ _ _ h => h) (Or.inl ⟨by rfl, ?hyb31⟩) hS ?restb31
        case hyb31 => (intro w' hSw; go_simp; first | done | with_reducible rfl)
        try simp only [Act.put, List.getElem_toArray, List.getElem_cons_zero, List.getElem_cons_succ, List.setIfInBounds_toArray, List.set_cons_zero, List.set_cons_succ]
        refine wpAnyH_take (i := 32) (v := .bool true) rfl (by kernel_rfl) (by kernel_rfl) (by kernel_rfl) (fun _ _ _ h => h) (Or.inl ⟨by rfl, ?hyb32⟩) hS ?restb32
        case hyb32 => (intro w' hSw; go_simp; first | done | with_reducible rfl)
        try simp only [Act.put, List.getElem_toArray, List.getElem_cons_zero, List.getElem_cons_succ, List.setIfInBounds_toArray, List.set_cons_zero, List.set_cons_succ]
        refine wpAnyH_take (i := 33) (v := ?vb33) rfl (by kernel_rfl) (by kernel_rfl) (by kernel_rfl) (fun _ _ _ h => h) (Or.inl ⟨by rfl, ?hyb33⟩) hS ?restb33
        case hyb33 => (intro w' hSw; go_simp; first | done | with_reducible rfl)
        try simp only [Act.put, List.getElem_toArray, List.getElem_cons_zero, List.getElem_cons_succ, List.setIfInBounds_toArray, List.set_cons_zero, List.set_cons_succ]
        refine wpAnyH_take (i := 34) (v := .pointer (some ⟨p.gi, 0, none⟩)) rfl (by kernel_rfl) (by kernel_rfl) (by kernel_rfl) (fun _ _ _ h => h) (Or.inl ⟨by rfl, ?hyb34⟩) hS ?restb34
        case hyb34 => (intro w' hSw; have c0 : w'.cell? ⟨G4, 1, none⟩ = some (.pointer (some ⟨p.gi, 0, none⟩)) := X4.out w' (Bb1.out.trans ((Bb2.out.trans ((Bb3.out.trans ((Bb4.out.trans ((Bb5.out.trans ((Bb6.out.trans ((Bb7.out.trans (hSw.mono Bb7.out.size)).mono Bb6.out.size)).mono Bb5.out.size)).mono Bb4.out.size)).mono Bb3.out.size)).mono Bb2.out.size)).mono Bb1.out.size)) 1 _ rfl; go_simp; first | done | with_reducible rfl)
        try simp only [Act.put, List.getElem_toArray, List.getElem_cons_zero, List.getElem_cons_succ, List.setIfInBounds_toArray, List.set_cons_zero, List.set_cons_succ]
        refine wpAnyH_take (i := 36) (v := ?vb36) rfl (by kernel_rfl) (by kernel_rfl) (by kernel_rfl) (fun _ _ _ h => h) (Or.inl ⟨by rfl, ?hyb36⟩) hS ?restb36
        case hyb36 => (intro w' hSw; go_simp; first | done | with_reducible rfl)
        try simp only [Act.put, List.getElem_toArray, List.getElem_cons_zero, List.getElem_cons_succ, List.setIfInBounds_toArray, List.set_cons_zero, List.set_cons_succ]
        refine wpAnyH_ready (rs := [35]) (by kernel_rfl) (by simp) ?_
        refine AllReadyH.cons rfl (fun K hK => ?_) AllReadyH.nil
        go_simp
        refine (len_ p.gi hs o2 _ yb7 (ICX.out.below (Bb1.out.trans ((Bb2.out.trans ((Bb3.out.trans ((Bb4.out.trans ((Bb5.out.trans ((Bb6.out.trans (Bb7.out.mono Bb6.out.size)).mono Bb5.out.size)).mono Bb4.out.size)).mono Bb3.out.size)).mono Bb2.out.size)).mono Bb1.out.size)))).mono ?_
        rintro e yb8 ⟨rfl, he⟩
        have bk : Below yb7.heap.size yb7 yb8 := by rw [he]; exact Below.refl _ _
        clear he
        go_wp2_with fail
        have Bb8 := Lib.hid bk
        refine hK.out _ _ bk ?_
        intro hS
        clear hK K hS bk
        try simp only [Act.put, List.getElem_toArray, List.getElem_cons_zero, List.getElem_cons_succ, List.setIfInBounds_toArray, List.set_cons_zero, List.set_cons_succ]
        refine wpAnyH_strong (S2 := fun w' => Below yb8.heap.size yb8 w') (fun w' h' => Bb8.out.trans (h'.mono Bb8.out.size)) _ _ _ _ ?_
        have hS : Below yb8.heap.size yb8 yb8 := Below.refl _ _
        refine wpAnyH_take (i := 37) (v := .bool true) rfl (by kernel_rfl) (by kernel_rfl) (by kernel_rfl) (fun _ _ _ h => h) (Or.inl ⟨by rfl, ?hyb37⟩) hS ?restb37
        case hyb37 => (intro w' hSw; go_simp; first | done | with_reducible rfl)
        try simp only [Act.put, List.getElem_toArray, List.getElem_cons_zero, List.getElem_cons_succ, List.setIfInBounds_toArray, List.set_cons_zero, List.set_cons_succ]
        refine wpAnyH_take (i := 38) (v := .bool true) rfl (by kernel_rfl) (by kernel_rfl) (by kernel_rfl) (fun _ _ _ h => h) (Or.inl ⟨by rfl, ?hyb38⟩) hS ?restb38
        case hyb38 => (intro w' hSw; go_simp; first | done | with_reducible rfl)
        try simp only [Act.put, List.getElem_toArray, List.getElem_cons_zero, List.getElem_cons_succ, List.setIfInBounds_toArray, List.set_cons_zero, List.set_cons_succ]
        refine wpAnyH_take (i := 39) (v := .bool true) rfl (by kernel_rfl) (by kernel_rfl) (by kernel_rfl) (fun _ _ _ h => h) (Or.inl ⟨by rfl, ?hyb39⟩) hS ?restb39
        case hyb39 => (intro w' hSw; go_simp; first | done | with_reducible rfl)
        try simp only [Act.put, List.getElem_toArray, List.getElem_cons_zero, List.getElem_cons_succ, List.setIfInBounds_toArray, List.set_cons_zero, List.set_cons_succ]
        refine wpAnyH_ready (rs := [40]) (by kernel_rfl) (by simp) ?_
        refine AllReadyH.cons rfl (fun K hK => ?_) AllReadyH.nil
        go_simp
        refine (awake_ yb8).mono ?_
        rintro e yb9 ⟨rfl, bk⟩
        go_wp2_with fail
        have Bb9 := Lib.hid bk
        refine hK.out _ _ bk ?_
        intro hS
        clear hK K hS bk
        try simp only [Act.put, List.getElem_toArray, List.getElem_cons_zero, List.getElem_cons_succ, List.setIfInBounds_toArray, List.set_cons_zero, List.set_cons_succ]
        refine wpAnyH_strong (S2 := fun w' => Below yb9.heap.size yb9 w') (fun w' h' => Bb9.out.trans (h'.mono Bb9.out.size)) _ _ _ _ ?_
        have hS : Below yb9.heap.size yb9 yb9 := Below.refl _ _
        refine wpAnyH_take (i := 41) (v := .bool true) rfl (by kernel_rfl) (by kernel_rfl) (by kernel_rfl) (fun _ _ _ h => h) (Or.inl ⟨by rfl, ?hyb41⟩) hS ?restb41
        case hyb41 => (intro w' hSw; go_simp; first | done | with_reducible rfl)
        try simp only [Act.put, List.getElem_toArray, List.getElem_cons_zero, List.getElem_cons_succ, List.setIfInBounds_toArray, List.set_cons_zero, List.set_cons_succ]
        refine wpAnyH_take (i := 42) (v := .bool true) rfl (by kernel_rfl) (by kernel_rfl) (by kernel_rfl) (fun _ _ _ h => h) (Or.inl ⟨by rfl, ?hyb42⟩) hS ?restb42
        case hyb42 => (intro w' hSw; go_simp; first | done | with_reducible rfl)
        try simp only [Act.put, List.getElem_toArray, List.getElem_cons_zero, List.getElem_cons_succ, List.setIfInBounds_toArray, List.set_cons_zero, List.set_cons_succ]
        refine wpAnyH_done (by kernel_rfl) (NoPanic.normal ?_) _
        have BXt : Hid (Below w8.heap.size w8 yb9) := BX0.out.trans ((Bb1.out.trans ((Bb2.out.trans ((Bb3.out.trans ((Bb4.out.trans ((Bb5.out.trans ((Bb6.out.trans ((Bb7.out.trans ((Bb8.out.trans (Bb9.out.mono Bb8.out.size)).mono Bb7.out.size)).mono Bb6.out.size)).mono Bb5.out.size)).mono Bb4.out.size)).mono Bb3.out.size)).mono Bb2.out.size)).mono Bb1.out.size)).mono BX0.out.size)
        go_wp2_with fail
        go_ret
        exact ⟨rfl, B1.out.trans ((BW8.out.trans (BXt.out.mono BW8.out.size)).mono B1.out.size)⟩
  · have h4' : (4000 : Int) < n2 := by omega
    go_wp2_with fail
    refine (awake_ w).mono ?_
    rintro e w2 ⟨rfl, b2⟩
    go_wp2_with fail
    go_ret
    exact ⟨rfl, b2⟩
end Go.Proofs.Ytabcbpcfleociaa
