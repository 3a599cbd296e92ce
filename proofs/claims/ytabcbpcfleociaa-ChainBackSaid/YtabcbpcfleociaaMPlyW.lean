/- The law ChainPlays, walked. (Regions printed by gen_ply.py.) -/
import Derived.Test.YtabcbpcfleociaaMPv
import Derived.Test.YtabcbpcfleociaaMPla
namespace Go.Proofs.Ytabcbpcfleociaa
open Go.RowKit
attribute [local go_sem ↓] Go.wp_at_zero Go.wp_at_succ
set_option linter.unusedSimpArgs false
set_option linter.unusedVariables false
theorem Play.own {w : World} {B : Nat} {p : Pl} {S : Bk} {hs : List (List UInt8)} {X : List Nat} (h : Play w B p S hs X) : p.gb ∈ p.ob := by
  obtain ⟨b', n', f', hv⟩ := h.pr.bk
  exact hv.og
theorem Play.base {w : World} {B : Nat} {p : Pl} {S : Bk} {hs : List (List UInt8)} {X : List Nat} (h : Play w B p S hs X) : B ≤ w.heap.size := by
  have h1 := h.pr.bk.lt p.gb h.own
  have h2 := h.lo p.gb (List.mem_append.2 (Or.inl h.own))
  omega
theorem Play.out {w : World} {B : Nat} {p : Pl} {S : Bk} {hs : List (List UInt8)} {X : List Nat} (h : Play w B p S hs X) {k : Nat} (hk : k ∈ X) : k ∉ p.ob ++ p.oi := fun hm => by
  rcases List.mem_append.1 hm with h1 | h1
  · exact (h.pr.xd k hk).1 h1
  · exact (h.pr.xd k hk).2 h1
set_option maxRecDepth 20000 in
set_option maxHeartbeats 16000000 in
theorem chainPlays_walk (A : Option Addr) (n c : Nat) (ls : List Dn) (xa xq : Int) (w : World) (hr : RdD w w.heap.size A n ls) (hc : n ≤ c) (hq : n ≤ 140737488351232 ∧ Reaches w A n) (hxa : (Lit.int .i64 xa).wf = true) (hxq : (Lit.int .i64 xq).wf = true) :
    Calls Try.prog 6 #[.slice A n c, .int .i64 xa, .int .i64 xq] w fun e w' => e = .returned (.bool true) ∧ Below w.heap.size w w' := by
  have HR0 := Lib.hid hr
  have HQ := Lib.hid hq
  have HXA := Lib.hid (wf_inI hxa)
  clear hr hq hxa hxq
  go_enter Try.func6, Try.ntmps6
  go_wp2_with fail
  refine (small_ A n c ls w HR0.out HQ.out.1).mono ?_
  rintro e w1 ⟨⟨b, rfl, hb40⟩, b1⟩
  have B1 := Lib.hid b1
  clear b1
  rcases b with _ | _
  · clear hb40
    go_wp2_with fail
    refine (awake_ w1).mono ?_
    rintro e w2 ⟨rfl, b2⟩
    have B2 := Lib.hid b2
    clear b2
    go_wp2_with fail
    go_ret
    exact ⟨rfl, B1.out.trans (B2.out.mono B1.out.size)⟩
  · have HN : Hid (n ≤ 40) := hb40 rfl
    have HR : Hid (RdD w1 w1.heap.size A n ls) := (HR0.out.to B1.out).more B1.out.size
    have HRE : Hid (Reaches w1 A n) := (HQ.out.2).to HR0.out B1.out
    clear hb40
    go_wp2_with fail
    refine (begun_ [] w1 (fun k hk => absurd hk (by simp))).mono ?_
    rintro e u ⟨p, rfl, hp, bu⟩
    have P0 := Lib.hid hp
    have BU := Lib.hid bu
    clear hp bu
    unfold plV
    go_wp2_with fail
    obtain ⟨U, hU⟩ : ∃ U, Hid (U = u.alloc (.cells #[.pointer (some ⟨p.gb, 0, none⟩), .pointer (some ⟨p.gi, 0, none⟩), .slice p.A p.n p.c, .slice p.V p.vn p.vc, .int .i64 0] 35)) := ⟨_, Lib.hid rfl⟩
    obtain ⟨G4, hG4⟩ : ∃ g, Hid (g = u.heap.size) := ⟨_, Lib.hid rfl⟩
    rw [← hU.out, ← hG4.out]
    have BU1 : Below u.heap.size u U := by rw [hU.out]; exact (Below.refl _ _).alloc (Nat.le_refl _) _
    have RU : Hid (U.heap[G4]? = some (.cells (plC p).toArray 35 (0, 0))) := by unfold Hid; rw [hU.out, hG4.out]; exact heap_alloc_new _ _
    have P1 : Hid (Play U w1.heap.size p [] [] [G4]) := P0.out.keep (Fr.below (own := []) BU1) (fun _ h => absurd h (by simp)) (fun k hk => by simp at hk; exact Or.inr (by rw [hk, hG4.out]; exact Nat.le_refl _)) (fun k hk => by simp at hk; rw [hk]; exact lt_of_blk RU.out)
    have BU1w : Hid (Below w1.heap.size w1 U) := BU.out.trans (BU1.mono BU.out.size)
    have hG4w : Hid (w1.heap.size ≤ G4) := by rw [hG4.out]; exact BU.out.size
    clear BU1 hU P0 BU
    go_loopw [8, 24] (fun x8 x24 wr => ∃ (i : Nat) (q : Pl) (S : Bk) (hs : List (List UInt8)), x8 = .bool true ∧ x24 = .int .i64 i ∧ i ≤ n ∧ Hid (Play wr w1.heap.size q S hs [G4]) ∧ Hid (Reach i S hs) ∧ Hid (wr.heap[G4]? = some (.cells (plC q).toArray 35 (0, 0))) ∧ Hid (Below w1.heap.size w1 wr)) (fun _ x24 _ => n - (intOf x24).toNat)
    case atStart => exact ⟨0, p, [], [], rfl, rfl, by omega, P1, Reach.nil, RU, BU1w⟩
    case round =>
      obtain ⟨i, q, S, hs, rfl, rfl, hi, HP, HRe, R4, hb⟩ := hrel
      by_cases hin : i < n
      · have hin' : (i : Int) < (n : Int) := by omega
        have hi0 : (0 : Int) ≤ (i : Int) := by omega
        have e8 : IntKind.i64.wrap ((i : Int) + 1) = ((i + 1 : Nat) : Int) := by have := HN.out; rw [IntWalk.i64_in _ (by omega)]; omega
        obtain ⟨x, hx⟩ : ∃ x, ls[i]? = some x := ⟨_, List.getElem?_eq_getElem (by rw [HR.out.1]; exact hin)⟩
        obtain ⟨b, o, Ap, np, cp, Ab, nb, cb, rfl, hB, hrg, _, _, _, rp, _, rb, _⟩ := HR.out.2 i x hx
        have hww : ∀ j v, (lnC x.l Ap np cp Ab nb cb ++ [Value.bool x.nx])[j]? = some v → wr.cell? ⟨b, o + i * 6 + j, none⟩ = some v := fun j v hj => (World.cell?_of_block (a := ⟨b, o + i * 6 + j, none⟩) (hb.out.block b hB)).trans (hrg j v hj)
        have hle := Lib.hid (HRE.out i b o Ap np cp Ab nb cb hin rfl (hrg 3 _ rfl) (hrg 4 _ rfl))
        have c0 : wr.cell? ⟨b, o + i * 6, none⟩ = some (.int .i64 x.l.au) := hww 0 _ rfl
        have c1 : wr.cell? ⟨b, o + i * 6 + 1, none⟩ = some (.int .i64 x.l.sq) := hww 1 _ rfl
        have c2 : wr.cell? ⟨b, o + i * 6 + 2, none⟩ = some (.int .i64 x.l.ep) := hww 2 _ rfl
        have c3 : wr.cell? ⟨b, o + i * 6 + 3, none⟩ = some (.slice Ap np cp) := hww 3 _ rfl
        have c4 : wr.cell? ⟨b, o + i * 6 + 4, none⟩ = some (.slice Ab nb cb) := hww 4 _ rfl
        have c5 : wr.cell? ⟨b, o + i * 6 + 5, none⟩ = some (.bool x.nx) := hww 5 _ rfl
        have RP := Lib.hid rp
        have RB := Lib.hid rb
        clear hx hB hrg rp rb hww
        obtain ⟨V, hV⟩ : ∃ V, Hid (V = wr.alloc (.cells #[.int .i64 x.l.au, .int .i64 x.l.sq, .int .i64 x.l.ep, .slice Ap np cp, .slice Ab nb cb, .bool x.nx] 42)) := ⟨_, Lib.hid rfl⟩
        obtain ⟨G10, hG10⟩ : ∃ g, Hid (g = wr.heap.size) := ⟨_, Lib.hid rfl⟩
        have BV : Hid (Below wr.heap.size wr V) := by rw [hV.out]; exact (Below.refl _ _).alloc (Nat.le_refl _) _
        have V4 : Hid (V.heap[G4]? = some (.cells (plC q).toArray 35 (0, 0))) := (BV.out.block G4 (lt_of_blk R4.out)).trans R4.out
        have V10 : Hid (V.heap[G10]? = some (.cells #[.int .i64 x.l.au, .int .i64 x.l.sq, .int .i64 x.l.ep, .slice Ap np cp, .slice Ab nb cb, .bool x.nx] 42 (0, 0))) := by unfold Hid; rw [hV.out, hG10.out]; exact heap_alloc_new _ _
        have d0 : V.cell? ⟨G4, 0, none⟩ = some (.pointer (some ⟨q.gb, 0, none⟩)) := cell_blk V4.out 0 rfl
        have d1 : V.cell? ⟨G4, 1, none⟩ = some (.pointer (some ⟨q.gi, 0, none⟩)) := cell_blk V4.out 1 rfl
        have d2 : V.cell? ⟨G4, 2, none⟩ = some (.slice q.A q.n q.c) := cell_blk V4.out 2 rfl
        have d3 : V.cell? ⟨G4, 3, none⟩ = some (.slice q.V q.vn q.vc) := cell_blk V4.out 3 rfl
        have d4 : V.cell? ⟨G4, 4, none⟩ = some (.int .i64 0) := cell_blk V4.out 4 rfl
        rw [hV.out] at d0 d1 d2 d3 d4
        go_wp2_with fail
        clear c0 c1 c2 c3 c4 c5 d0 d1 d2 d3 d4
        rw [← hV.out, ← hG10.out]
        have HPV : Hid (Play V w1.heap.size q S hs [G10, G4]) := HP.out.keep (Fr.below (own := []) BV.out) (fun _ h => absurd h (by simp)) (fun k hk => by simp at hk; rcases hk with h | h; exact Or.inr (by rw [h, hG10.out]; exact Nat.le_refl _); exact Or.inl (by simp [h])) (fun k hk => by simp at hk; rcases hk with h | h; rw [h]; exact lt_of_blk V10.out; rw [h]; exact lt_of_blk V4.out)
        have hlow : Hid (∀ k, k ∈ q.ob ++ q.oi ++ [G10, G4] → w1.heap.size ≤ k) := fun k hk => by
          rcases List.mem_append.1 hk with h | h
          · exact HPV.out.lo k h
          · simp at h; rcases h with h | h
            · rw [h, hG10.out]; exact hb.out.size
            · rw [h]; exact hG4w.out
        have BwV : Hid (Below w1.heap.size w1 V) := hb.out.trans (BV.out.mono hb.out.size)
        refine (does_ w1.heap.size q S hs [G10, G4] x.l x.nx Ap np cp Ab nb cb V HPV.out HRe.out.ok HPV.out.base ((RP.out.below BwV.out).lowN BwV.out.size hlow.out) ((RB.out.below BwV.out).lowN BwV.out.size hlow.out) (by have h1 := HPV.out.rk.len; have h2 := HRe.out.len; have h3 := HN.out; omega) (by have h1 := HPV.out.vt.len; have h2 := HRe.out.len; have h3 := HN.out; omega) hle.out.1 hle.out.2).mono ?_
        rintro e v ⟨q', rfl, hp', hgb, hgi, hf'⟩
        clear hgb hgi
        have HP' := Lib.hid hp'
        have F' := Lib.hid hf'
        have v4 : v.heap[G4]? = some (.cells (plC q).toArray 35 (0, 0)) := (hf'.block G4 (lt_of_blk V4.out) (HPV.out.out (by simp))).trans V4.out
        have v10 : v.heap[G10]? = some (.cells #[.int .i64 x.l.au, .int .i64 x.l.sq, .int .i64 x.l.ep, .slice Ap np cp, .slice Ab nb cb, .bool x.nx] 42 (0, 0)) := (hf'.block G10 (lt_of_blk V10.out) (HPV.out.out (by simp))).trans V10.out
        clear hp' hf'
        obtain ⟨S', hS'⟩ : ∃ S', Hid (takeS S (checkH S hs (linkL S x.l x.nx)) (linkL S x.l x.nx) = S') := ⟨_, Lib.hid rfl⟩
        obtain ⟨hs', hhs'⟩ : ∃ hs', Hid (takeH S (checkH S hs (linkL S x.l x.nx)) (linkL S x.l x.nx) = hs') := ⟨_, Lib.hid rfl⟩
        rw [hS'.out, hhs'.out] at HP'
        have HRe' : Hid (Reach (i + 1) S' hs') := by rw [← hS'.out, ← hhs'.out]; exact HRe.out.step _
        unfold plV
        obtain ⟨Y, hY⟩ : ∃ Y, Hid (Y = v.alloc (.cells #[.pointer (some ⟨q'.gb, 0, none⟩), .pointer (some ⟨q'.gi, 0, none⟩), .slice q'.A q'.n q'.c, .slice q'.V q'.vn q'.vc, .int .i64 0] 35)) := ⟨_, Lib.hid rfl⟩
        have BY : Hid (Below v.heap.size v Y) := by rw [hY.out]; exact (Below.refl _ _).alloc (Nat.le_refl _) _
        have Y4 : Hid (Y.heap[G4]? = some (.cells (plC q).toArray 35 (0, 0))) := (BY.out.block G4 (lt_of_blk v4)).trans v4
        have Y10 : Hid (Y.heap[G10]? = some (.cells #[.int .i64 x.l.au, .int .i64 x.l.sq, .int .i64 x.l.ep, .slice Ap np cp, .slice Ab nb cb, .bool x.nx] 42 (0, 0))) := (BY.out.block G10 (lt_of_blk v10)).trans v10
        clear v4 v10
        have y4 := Y4.out
        rw [hY.out] at y4
        go_wp2_with (refine wpList_store_row rfl 35 (.tmp 7) (.tmp 34) rfl G4 (plC q').toArray rfl (by first | rfl | kernel_rfl) _ _ y4 (by kernel_rfl) rfl (by kernel_rfl) ?_)
        rw [← hY.out]
        obtain ⟨Z, hZ⟩ : ∃ Z, Hid (Z = Y.setRow G4 (plC q').toArray) := ⟨_, Lib.hid rfl⟩
        rw [← hZ.out]
        have FZ : Hid (Fr [G4] Y Z [G4]) := by rw [hZ.out]; exact setRow_fr _ _ _
        have Z4 : Hid (Z.heap[G4]? = some (.cells (plC q').toArray 35 (0, 0))) := by unfold Hid; rw [hZ.out]; exact setRow_heap _ _ _ _ _ _ Y4.out
        have hGG : Hid (G10 ≠ G4) := by have h1 := lt_of_blk R4.out; have h2 := hG10.out; unfold Hid; omega
        have Z10 : Hid (Z.heap[G10]? = some (.cells #[.int .i64 x.l.au, .int .i64 x.l.sq, .int .i64 x.l.ep, .slice Ap np cp, .slice Ab nb cb, .bool x.nx] 42 (0, 0))) := (FZ.out.block G10 (lt_of_blk Y10.out) (by have := hGG.out; simp [this])).trans Y10.out
        have PZ : Hid (Play Z w1.heap.size q' S' hs' [G4]) := (HP'.out.below BY.out).keep FZ.out (fun k hk => by simp at hk; simp [hk]) (fun k hk => Or.inl (by simp at hk; simp [hk])) (fun k hk => Nat.lt_of_lt_of_le ((HP'.out.below BY.out).pr.xl k (by simp at hk; simp [hk])) FZ.out.size)
        have FV : Fr (q.ob ++ q.oi) V Y (q'.ob ++ q'.oi) := F'.out.trans (Fr.below BY.out)
        have BZ : Hid (Below w1.heap.size w1 Z) := (BwV.out.trans ((FV.toBelow (fun k hk => HPV.out.lo k hk) BwV.out.size))).trans (FZ.out.toBelow (fun k hk => by simp at hk; rw [hk]; exact hG4w.out) (Nat.le_trans BwV.out.size FV.size))
        obtain ⟨au, hau2⟩ : ∃ a, Hid (x.l.au = a) := ⟨_, Lib.hid rfl⟩
        have Z10a : Hid (Z.cell? ⟨G10, 0, none⟩ = some (.int .i64 au)) := by rw [← hau2.out]; exact cell_blk Z10.out 0 rfl
        have hGZ : Hid (G4 < Z.heap.size ∧ G10 < Z.heap.size) := ⟨lt_of_blk Z4.out, lt_of_blk Z10.out⟩
        clear FV
        obtain ⟨X, hX⟩ : ∃ W, Hid (W = Z.drew) := ⟨_, Lib.hid rfl⟩
        have dX : Below Z.heap.size Z X := by rw [hX.out]; exact below_drew (Below.refl _ _)
        have PX := Lib.hid (PZ.out.below dX)
        have X4 : Hid (∀ w', Below X.heap.size X w' → ∀ j v, (plC q')[j]? = some v → w'.cell? ⟨G4, j, none⟩ = some v) := fun w' h' j v hj => by have := range_keep (range_of Z4.out) (dX.trans (h'.mono dX.size)) hGZ.out.1 j v hj; rwa [Nat.zero_add] at this
        have X10 : Hid (∀ w', Below X.heap.size X w' → w'.cell? ⟨G10, 0, none⟩ = some (.int .i64 au)) := fun w' h' => (World.cell?_of_block (a := ⟨G10, 0, none⟩) ((dX.trans (h'.mono dX.size)).block G10 hGZ.out.2)).trans Z10a.out
        have hqn : Hid (q'.n ≤ 1000000) := by have h1 := PZ.out.rk.len; have h2 := HRe'.out.len; have h3 := HN.out; unfold Hid; omega
        obtain ⟨HL, hHL⟩ : ∃ m, Hid ((ofA S' au).length = m) := ⟨_, Lib.hid rfl⟩
        have hSok : Hid S'.ok := HRe'.out.ok
        have BX0 := Lib.hid dX
        refine wp_region_noPanic ?_
        refine wp_region_held_drew (S := fun w' => Below X.heap.size X w') (by kernel_rfl) (by rw [← hX.out]; exact Below.refl _ _) (fun hS => ?_)
        rw [← hX.out]
        clear hS
        have hS : Below X.heap.size X X := Below.refl _ _
        refine wpAnyH_take (i := 0) (v := ?va0) rfl (by kernel_rfl) (by kernel_rfl) (by kernel_rfl) (fun _ _ _ h => h) (Or.inl ⟨by rfl, ?hya0⟩) hS ?resta0
        case hya0 => (intro w' hSw; go_simp; first | done | with_reducible rfl)
        try simp only [Act.put, List.getElem_toArray, List.getElem_cons_zero, List.getElem_cons_succ, List.setIfInBounds_toArray, List.set_cons_zero, List.set_cons_succ]
        refine wpAnyH_take (i := 1) (v := .pointer (some ⟨q'.gb, 0, none⟩)) rfl (by kernel_rfl) (by kernel_rfl) (by kernel_rfl) (fun _ _ _ h => h) (Or.inl ⟨by rfl, ?hya1⟩) hS ?resta1
        case hya1 => (intro w' hSw; have c0 : w'.cell? ⟨G4, 0, none⟩ = some (.pointer (some ⟨q'.gb, 0, none⟩)) := X4.out w' hSw 0 _ rfl; go_simp; first | done | with_reducible rfl)
        try simp only [Act.put, List.getElem_toArray, List.getElem_cons_zero, List.getElem_cons_succ, List.setIfInBounds_toArray, List.set_cons_zero, List.set_cons_succ]
        refine wpAnyH_take (i := 2) (v := ?va2) rfl (by kernel_rfl) (by kernel_rfl) (by kernel_rfl) (fun _ _ _ h => h) (Or.inl ⟨by rfl, ?hya2⟩) hS ?resta2
        case hya2 => (intro w' hSw; go_simp; first | done | with_reducible rfl)
        try simp only [Act.put, List.getElem_toArray, List.getElem_cons_zero, List.getElem_cons_succ, List.setIfInBounds_toArray, List.set_cons_zero, List.set_cons_succ]
        refine wpAnyH_take (i := 3) (v := ?va3) rfl (by kernel_rfl) (by kernel_rfl) (by kernel_rfl) (fun _ _ _ h => h) (Or.inl ⟨by rfl, ?hya3⟩) hS ?resta3
        case hya3 => (intro w' hSw; go_simp; first | done | with_reducible rfl)
        try simp only [Act.put, List.getElem_toArray, List.getElem_cons_zero, List.getElem_cons_succ, List.setIfInBounds_toArray, List.set_cons_zero, List.set_cons_succ]
        refine wpAnyH_take (i := 4) (v := .int .i64 au) rfl (by kernel_rfl) (by kernel_rfl) (by kernel_rfl) (fun _ _ _ h => h) (Or.inl ⟨by rfl, ?hya4⟩) hS ?resta4
        case hya4 => (intro w' hSw; have c0 := X10.out w' hSw; go_simp; first | done | with_reducible rfl)
        try simp only [Act.put, List.getElem_toArray, List.getElem_cons_zero, List.getElem_cons_succ, List.setIfInBounds_toArray, List.set_cons_zero, List.set_cons_succ]
        refine wpAnyH_take (i := 6) (v := ?va6) rfl (by kernel_rfl) (by kernel_rfl) (by kernel_rfl) (fun _ _ _ h => h) (Or.inl ⟨by rfl, ?hya6⟩) hS ?resta6
        case hya6 => (intro w' hSw; go_simp; first | done | with_reducible rfl)
        try simp only [Act.put, List.getElem_toArray, List.getElem_cons_zero, List.getElem_cons_succ, List.setIfInBounds_toArray, List.set_cons_zero, List.set_cons_succ]
        refine wpAnyH_take (i := 7) (v := .agg #[.slice q'.A q'.n q'.c]) rfl (by kernel_rfl) (by kernel_rfl) (by kernel_rfl) (fun _ _ _ h => h) (Or.inl ⟨by rfl, ?hya7⟩) hS ?resta7
        case hya7 => (intro w' hSw; have c0 : w'.cell? ⟨G4, 2, none⟩ = some (.slice q'.A q'.n q'.c) := X4.out w' hSw 2 _ rfl; go_simp; first | done | with_reducible rfl)
        try simp only [Act.put, List.getElem_toArray, List.getElem_cons_zero, List.getElem_cons_succ, List.setIfInBounds_toArray, List.set_cons_zero, List.set_cons_succ]
        refine wpAnyH_take (i := 8) (v := ?va8) rfl (by kernel_rfl) (by kernel_rfl) (by kernel_rfl) (fun _ _ _ h => h) (Or.inl ⟨by rfl, ?hya8⟩) hS ?resta8
        case hya8 => (intro w' hSw; go_simp; first | done | with_reducible rfl)
        try simp only [Act.put, List.getElem_toArray, List.getElem_cons_zero, List.getElem_cons_succ, List.setIfInBounds_toArray, List.set_cons_zero, List.set_cons_succ]
        refine wpAnyH_take (i := 9) (v := ?va9) rfl (by kernel_rfl) (by kernel_rfl) (by kernel_rfl) (fun _ _ _ h => h) (Or.inl ⟨by rfl, ?hya9⟩) hS ?resta9
        case hya9 => (intro w' hSw; go_simp; first | done | with_reducible rfl)
        try simp only [Act.put, List.getElem_toArray, List.getElem_cons_zero, List.getElem_cons_succ, List.setIfInBounds_toArray, List.set_cons_zero, List.set_cons_succ]
        refine wpAnyH_take (i := 10) (v := .int .i64 au) rfl (by kernel_rfl) (by kernel_rfl) (by kernel_rfl) (fun _ _ _ h => h) (Or.inl ⟨by rfl, ?hya10⟩) hS ?resta10
        case hya10 => (intro w' hSw; have c0 := X10.out w' hSw; go_simp; first | done | with_reducible rfl)
        try simp only [Act.put, List.getElem_toArray, List.getElem_cons_zero, List.getElem_cons_succ, List.setIfInBounds_toArray, List.set_cons_zero, List.set_cons_succ]
        refine wpAnyH_ready (rs := [5]) (by kernel_rfl) (by simp) ?_
        refine AllReadyH.cons rfl (fun K hK => ?_) AllReadyH.nil
        go_simp
        refine (head_any q'.gb S' q'.ob _ au X PX.out.pr.bk).mono ?_
        rintro e x1 ⟨Ha, hm, hc, rfl, hd1, bk⟩
        have K1 := Lib.hid bk
        have HD1 := Lib.hid hd1
        have P1x := Lib.hid (PX.out.below bk)
        rw [hHL.out]
        clear hd1
        go_wp2_with fail
        refine hK.out _ _ bk ?_
        intro hS
        clear hK K hS
        try simp only [Act.put, List.getElem_toArray, List.getElem_cons_zero, List.getElem_cons_succ, List.setIfInBounds_toArray, List.set_cons_zero, List.set_cons_succ]
        refine wpAnyH_strong (S2 := fun w' => Below x1.heap.size x1 w') (fun w' h' => bk.trans (h'.mono bk.size)) _ _ _ _ ?_
        have hS : Below x1.heap.size x1 x1 := Below.refl _ _
        refine wpAnyH_ready (rs := [11]) (by kernel_rfl) (by simp) ?_
        refine AllReadyH.cons rfl (fun K hK => ?_) AllReadyH.nil
        go_simp
        refine (rhead_any q'.A q'.n q'.c S' au _ x1 P1x.out.rk hqn.out P1x.out.lt hSok.out).mono ?_
        rintro e x2 ⟨Hb, hbm, hbc, rfl, hd2, bk⟩
        have K2 := Lib.hid (K1.out.trans (bk.mono K1.out.size))
        have HD2 := Lib.hid hd2
        have HD1b := Lib.hid (HD1.out.to bk)
        rw [hHL.out]
        clear hd2
        go_wp2_with fail
        refine hK.out _ _ bk ?_
        intro hS
        clear hK K hS
        try simp only [Act.put, List.getElem_toArray, List.getElem_cons_zero, List.getElem_cons_succ, List.setIfInBounds_toArray, List.set_cons_zero, List.set_cons_succ]
        refine wpAnyH_strong (S2 := fun w' => Below x2.heap.size x2 w') (fun w' h' => bk.trans (h'.mono bk.size)) _ _ _ _ ?_
        have hS : Below x2.heap.size x2 x2 := Below.refl _ _
        refine wpAnyH_ready (rs := [12]) (by kernel_rfl) (by simp) ?_
        refine AllReadyH.cons rfl (fun K hK => ?_) AllReadyH.nil
        go_simp
        refine (sameHead_ (hau au) HL Ha hm hc _ (hau au) HL Hb hbm hbc _ x2 HD1b.out HD2.out).mono ?_
        rintro e x3 ⟨rfl, bk⟩
        have K3 := Lib.hid (K2.out.trans (bk.mono K2.out.size))
        rw [show decide (hau au = hau au ∧ (HL : Int) = (HL : Int) ∧ lastDg (ofA S' au) = lastDg (ofA S' au)) = true from decide_eq_true ⟨rfl, rfl, rfl⟩]
        go_wp2_with fail
        refine hK.out _ _ bk ?_
        intro hS
        clear hK K hS
        try simp only [Act.put, List.getElem_toArray, List.getElem_cons_zero, List.getElem_cons_succ, List.setIfInBounds_toArray, List.set_cons_zero, List.set_cons_succ]
        refine wpAnyH_strong (S2 := fun w' => Below x3.heap.size x3 w') (fun w' h' => bk.trans (h'.mono bk.size)) _ _ _ _ ?_
        have hS : Below x3.heap.size x3 x3 := Below.refl _ _
        refine wpAnyH_take (i := 13) (v := .bool false) rfl (by kernel_rfl) (by kernel_rfl) (by kernel_rfl) (fun _ _ _ h => h) (Or.inl ⟨by rfl, ?hya13⟩) hS ?resta13
        case hya13 => (intro w' hSw; go_simp; first | done | with_reducible rfl)
        try simp only [Act.put, List.getElem_toArray, List.getElem_cons_zero, List.getElem_cons_succ, List.setIfInBounds_toArray, List.set_cons_zero, List.set_cons_succ]
        refine wpAnyH_done (by kernel_rfl) (NoPanic.normal ?_) _
        have BXt : Hid (Below Z.heap.size Z x3) := BX0.out.trans (K3.out.mono BX0.out.size)
        have BT := Lib.hid (BZ.out.trans (BXt.out.mono BZ.out.size))
        have PT := Lib.hid (PZ.out.below BXt.out)
        have T4 : Hid (x3.heap[G4]? = some (.cells (plC q').toArray 35 (0, 0))) := (BXt.out.block G4 hGZ.out.1).trans Z4.out
        go_wp2_with fail
        go_roundw
        case rel => exact ⟨i + 1, q', S', hs', rfl, by go_num, hin, PT, HRe', T4, BT⟩
        case measure => simp only [intOf]; omega
      · have hiS : Hid (i = n) := (by omega : i = n)
        have hin' : ¬ (i : Int) < (n : Int) := by omega
        have c0 : wr.cell? ⟨G4, 0, none⟩ = some (.pointer (some ⟨q.gb, 0, none⟩)) := cell_blk R4.out 0 rfl
        go_wp2_with fail
        clear c0
        refine (at_any q.gb S q.ob _ xa xq wr HP.out.pr.bk HXA.out).mono ?_
        rintro e v1 ⟨Da, da, dac, rfl, rda, bv1⟩
        have BV1 := Lib.hid bv1
        have RDA := Lib.hid rda
        have V14 : Hid (v1.heap[G4]? = some (.cells (plC q).toArray 35 (0, 0))) := (bv1.block G4 (lt_of_blk R4.out)).trans R4.out
        have c0 : v1.cell? ⟨G4, 2, none⟩ = some (.slice q.A q.n q.c) := cell_blk V14.out 2 rfl
        have hqn : Hid (q.n ≤ 1000000) := by have h1 := HP.out.rk.len; have h2 := HRe.out.len; have h3 := HN.out; unfold Hid; omega
        clear bv1 rda
        go_wp2_with fail
        clear c0
        refine (rat_any q.A q.n q.c S xa xq _ v1 (HP.out.rk.below BV1.out) hqn.out (fun k hk => Nat.lt_of_lt_of_le (HP.out.lt k hk) BV1.out.size)).mono ?_
        rintro e v2 ⟨Db, db, dbc, rfl, rdb, bv2⟩
        have B2 := Lib.hid (BV1.out.trans (bv2.mono BV1.out.size))
        have RDB := Lib.hid rdb
        have RDA2 := Lib.hid (RDA.out.to bv2)
        have P2 := Lib.hid (HP.out.below B2.out)
        have V24 : Hid (v2.heap[G4]? = some (.cells (plC q).toArray 35 (0, 0))) := (B2.out.block G4 (lt_of_blk R4.out)).trans R4.out
        have hSok : Hid S.ok := HRe.out.ok
        clear bv2 rdb
        go_wp2_with fail
        obtain ⟨X, hX⟩ : ∃ W, Hid (W = v2.drew) := ⟨_, Lib.hid rfl⟩
        have dX : Below v2.heap.size v2 X := by rw [hX.out]; exact below_drew (Below.refl _ _)
        have PX := Lib.hid (P2.out.below dX)
        have X4 : Hid (∀ w', Below X.heap.size X w' → ∀ j v, (plC q)[j]? = some v → w'.cell? ⟨G4, j, none⟩ = some v) := fun w' h' j v hj => by have := range_keep (range_of V24.out) (dX.trans (h'.mono dX.size)) (lt_of_blk V24.out) j v hj; rwa [Nat.zero_add] at this
        have BX0 := Lib.hid dX
        have RDAX := Lib.hid (RDA2.out.to dX)
        have RDBX := Lib.hid (RDB.out.to dX)
        obtain ⟨AE, hAE⟩ : ∃ m, Hid (atE S xa xq = m) := ⟨_, Lib.hid rfl⟩
        obtain ⟨AD, hAD⟩ : ∃ m, Hid (atD S xa xq = m) := ⟨_, Lib.hid rfl⟩
        obtain ⟨HL, hHL⟩ : ∃ m, Hid ((ofA S xa).length = m) := ⟨_, Lib.hid rfl⟩
        have hvl5 := Lib.hid (vecP_len S 5)
        rw [hAD.out] at RDAX RDBX
        rw [hAE.out]
        refine wp_region_noPanic ?_
        refine wp_region_held_drew (S := fun w' => Below X.heap.size X w') (by kernel_rfl) (by rw [← hX.out]; exact Below.refl _ _) (fun hS => ?_)
        rw [← hX.out]
        clear hS
        have hS : Below X.heap.size X X := Below.refl _ _
        refine wpAnyH_take (i := 0) (v := .bool true) rfl (by kernel_rfl) (by kernel_rfl) (by kernel_rfl) (fun _ _ _ h => h) (Or.inl ⟨by rfl, ?hyb0⟩) hS ?restb0
        case hyb0 => (intro w' hSw; go_simp; first | done | with_reducible rfl)
        try simp only [Act.put, List.getElem_toArray, List.getElem_cons_zero, List.getElem_cons_succ, List.setIfInBounds_toArray, List.set_cons_zero, List.set_cons_succ]
        refine wpAnyH_take (i := 1) (v := .bool true) rfl (by kernel_rfl) (by kernel_rfl) (by kernel_rfl) (fun _ _ _ h => h) (Or.inl ⟨by rfl, ?hyb1⟩) hS ?restb1
        case hyb1 => (intro w' hSw; go_simp; first | done | with_reducible rfl)
        try simp only [Act.put, List.getElem_toArray, List.getElem_cons_zero, List.getElem_cons_succ, List.setIfInBounds_toArray, List.set_cons_zero, List.set_cons_succ]
        refine wpAnyH_take (i := 2) (v := ?vb2) rfl (by kernel_rfl) (by kernel_rfl) (by kernel_rfl) (fun _ _ _ h => h) (Or.inl ⟨by rfl, ?hyb2⟩) hS ?restb2
        case hyb2 => (intro w' hSw; go_simp; first | done | with_reducible rfl)
        try simp only [Act.put, List.getElem_toArray, List.getElem_cons_zero, List.getElem_cons_succ, List.setIfInBounds_toArray, List.set_cons_zero, List.set_cons_succ]
        refine wpAnyH_take (i := 3) (v := .pointer (some ⟨q.gb, 0, none⟩)) rfl (by kernel_rfl) (by kernel_rfl) (by kernel_rfl) (fun _ _ _ h => h) (Or.inl ⟨by rfl, ?hyb3⟩) hS ?restb3
        case hyb3 => (intro w' hSw; have c0 : w'.cell? ⟨G4, 0, none⟩ = some (.pointer (some ⟨q.gb, 0, none⟩)) := X4.out w' hSw 0 _ rfl; go_simp; first | done | with_reducible rfl)
        try simp only [Act.put, List.getElem_toArray, List.getElem_cons_zero, List.getElem_cons_succ, List.setIfInBounds_toArray, List.set_cons_zero, List.set_cons_succ]
        refine wpAnyH_take (i := 5) (v := ?vb5) rfl (by kernel_rfl) (by kernel_rfl) (by kernel_rfl) (fun _ _ _ h => h) (Or.inl ⟨by rfl, ?hyb5⟩) hS ?restb5
        case hyb5 => (intro w' hSw; go_simp; first | done | with_reducible rfl)
        try simp only [Act.put, List.getElem_toArray, List.getElem_cons_zero, List.getElem_cons_succ, List.setIfInBounds_toArray, List.set_cons_zero, List.set_cons_succ]
        refine wpAnyH_take (i := 6) (v := .agg #[.slice q.A q.n q.c]) rfl (by kernel_rfl) (by kernel_rfl) (by kernel_rfl) (fun _ _ _ h => h) (Or.inl ⟨by rfl, ?hyb6⟩) hS ?restb6
        case hyb6 => (intro w' hSw; have c0 : w'.cell? ⟨G4, 2, none⟩ = some (.slice q.A q.n q.c) := X4.out w' hSw 2 _ rfl; go_simp; first | done | with_reducible rfl)
        try simp only [Act.put, List.getElem_toArray, List.getElem_cons_zero, List.getElem_cons_succ, List.setIfInBounds_toArray, List.set_cons_zero, List.set_cons_succ]
        refine wpAnyH_ready (rs := [4]) (by kernel_rfl) (by simp) ?_
        refine AllReadyH.cons rfl (fun K hK => ?_) AllReadyH.nil
        go_simp
        refine (vector_ q.gb S q.ob _ [] X (PX.out.below (Below.refl _ _)).pr.bk (fun k hk => absurd hk (by simp))).mono ?_
        rintro e yb1 ⟨VA, vn, vc, rfl, hvc, hvd, bk⟩
        have HVD := Lib.hid hvd
        clear hvd hvc
        go_wp2_with fail
        have Bb1 := Lib.hid bk
        refine hK.out _ _ bk ?_
        intro hS
        clear hK K hS bk
        try simp only [Act.put, List.getElem_toArray, List.getElem_cons_zero, List.getElem_cons_succ, List.setIfInBounds_toArray, List.set_cons_zero, List.set_cons_succ]
        refine wpAnyH_strong (S2 := fun w' => Below yb1.heap.size yb1 w') (fun w' h' => Bb1.out.trans (h'.mono Bb1.out.size)) _ _ _ _ ?_
        have hS : Below yb1.heap.size yb1 yb1 := Below.refl _ _
        refine wpAnyH_ready (rs := [7]) (by kernel_rfl) (by simp) ?_
        refine AllReadyH.cons rfl (fun K hK => ?_) AllReadyH.nil
        go_simp
        refine (rvector_ q.A q.n q.c S [] yb1 ((PX.out.below Bb1.out).rk.fr (own := []) (own' := []) (Fr.below (Below.refl _ _)) (fun _ h => absurd h (by simp)) (fun _ h => absurd h (by simp))) hqn.out (fun k hk => absurd hk (by simp))).mono ?_
        rintro e yb2 ⟨VB, vbn, vbc, rfl, hvc, hvd, bk⟩
        have HVB := Lib.hid hvd
        clear hvd hvc
        go_wp2_with fail
        have Bb2 := Lib.hid bk
        refine hK.out _ _ bk ?_
        intro hS
        clear hK K hS bk
        try simp only [Act.put, List.getElem_toArray, List.getElem_cons_zero, List.getElem_cons_succ, List.setIfInBounds_toArray, List.set_cons_zero, List.set_cons_succ]
        refine wpAnyH_strong (S2 := fun w' => Below yb2.heap.size yb2 w') (fun w' h' => Bb2.out.trans (h'.mono Bb2.out.size)) _ _ _ _ ?_
        have hS : Below yb2.heap.size yb2 yb2 := Below.refl _ _
        refine wpAnyH_ready (rs := [8]) (by kernel_rfl) (by simp) ?_
        refine AllReadyH.cons rfl (fun K hK => ?_) AllReadyH.nil
        go_simp
        refine (sameHeads_ VA vn vc (vecL S) VB vbn vbc (vecL S) [] [] yb2 (HVD.out.below Bb2.out) (HVB.out.below (Below.refl _ _)) (by have h1 := HVD.out.len; have h2 := hvl5.out; unfold vecL at h1; omega)).mono ?_
        rintro e yb3 ⟨rfl, bk⟩
        rw [show decide (vecL S = vecL S) = true from decide_eq_true rfl]
        go_wp2_with fail
        have Bb3 := Lib.hid bk
        refine hK.out _ _ bk ?_
        intro hS
        clear hK K hS bk
        try simp only [Act.put, List.getElem_toArray, List.getElem_cons_zero, List.getElem_cons_succ, List.setIfInBounds_toArray, List.set_cons_zero, List.set_cons_succ]
        refine wpAnyH_strong (S2 := fun w' => Below yb3.heap.size yb3 w') (fun w' h' => Bb3.out.trans (h'.mono Bb3.out.size)) _ _ _ _ ?_
        have hS : Below yb3.heap.size yb3 yb3 := Below.refl _ _
        refine wpAnyH_take (i := 9) (v := .bool true) rfl (by kernel_rfl) (by kernel_rfl) (by kernel_rfl) (fun _ _ _ h => h) (Or.inl ⟨by rfl, ?hyb9⟩) hS ?restb9
        case hyb9 => (intro w' hSw; go_simp; first | done | with_reducible rfl)
        try simp only [Act.put, List.getElem_toArray, List.getElem_cons_zero, List.getElem_cons_succ, List.setIfInBounds_toArray, List.set_cons_zero, List.set_cons_succ]
        refine wpAnyH_take (i := 10) (v := .bool true) rfl (by kernel_rfl) (by kernel_rfl) (by kernel_rfl) (fun _ _ _ h => h) (Or.inl ⟨by rfl, ?hyb10⟩) hS ?restb10
        case hyb10 => (intro w' hSw; go_simp; first | done | with_reducible rfl)
        try simp only [Act.put, List.getElem_toArray, List.getElem_cons_zero, List.getElem_cons_succ, List.setIfInBounds_toArray, List.set_cons_zero, List.set_cons_succ]
        refine wpAnyH_take (i := 11) (v := ?vb11) rfl (by kernel_rfl) (by kernel_rfl) (by kernel_rfl) (fun _ _ _ h => h) (Or.inl ⟨by rfl, ?hyb11⟩) hS ?restb11
        case hyb11 => (intro w' hSw; go_simp; first | done | with_reducible rfl)
        try simp only [Act.put, List.getElem_toArray, List.getElem_cons_zero, List.getElem_cons_succ, List.setIfInBounds_toArray, List.set_cons_zero, List.set_cons_succ]
        refine wpAnyH_take (i := 12) (v := .string (str AD)) rfl (by kernel_rfl) (by kernel_rfl) (by kernel_rfl) (fun _ _ _ h => h) (Or.inl ⟨by rfl, ?hyb12⟩) hS ?restb12
        case hyb12 => (intro w' hSw; have hc := conv8 w' Da da dac _ (RDAX.out.to (Bb1.out.trans ((Bb2.out.trans ((Bb3.out.trans (hSw.mono Bb3.out.size)).mono Bb2.out.size)).mono Bb1.out.size))); go_simp; first | done | with_reducible rfl)
        try simp only [Act.put, List.getElem_toArray, List.getElem_cons_zero, List.getElem_cons_succ, List.setIfInBounds_toArray, List.set_cons_zero, List.set_cons_succ]
        refine wpAnyH_take (i := 13) (v := ?vb13) rfl (by kernel_rfl) (by kernel_rfl) (by kernel_rfl) (fun _ _ _ h => h) (Or.inl ⟨by rfl, ?hyb13⟩) hS ?restb13
        case hyb13 => (intro w' hSw; go_simp; first | done | with_reducible rfl)
        try simp only [Act.put, List.getElem_toArray, List.getElem_cons_zero, List.getElem_cons_succ, List.setIfInBounds_toArray, List.set_cons_zero, List.set_cons_succ]
        refine wpAnyH_take (i := 14) (v := .string (str AD)) rfl (by kernel_rfl) (by kernel_rfl) (by kernel_rfl) (fun _ _ _ h => h) (Or.inl ⟨by rfl, ?hyb14⟩) hS ?restb14
        case hyb14 => (intro w' hSw; have hc := conv8 w' Db db dbc _ (RDBX.out.to (Bb1.out.trans ((Bb2.out.trans ((Bb3.out.trans (hSw.mono Bb3.out.size)).mono Bb2.out.size)).mono Bb1.out.size))); go_simp; first | done | with_reducible rfl)
        try simp only [Act.put, List.getElem_toArray, List.getElem_cons_zero, List.getElem_cons_succ, List.setIfInBounds_toArray, List.set_cons_zero, List.set_cons_succ]
        refine wpAnyH_take (i := 15) (v := .bool true) rfl (by kernel_rfl) (by kernel_rfl) (by kernel_rfl) (fun _ _ _ h => h) (Or.inl ⟨by rfl, ?hyb15⟩) hS ?restb15
        case hyb15 => (intro w' hSw; go_simp; first | done | with_reducible rfl)
        try simp only [Act.put, List.getElem_toArray, List.getElem_cons_zero, List.getElem_cons_succ, List.setIfInBounds_toArray, List.set_cons_zero, List.set_cons_succ]
        refine wpAnyH_take (i := 16) (v := .bool true) rfl (by kernel_rfl) (by kernel_rfl) (by kernel_rfl) (fun _ _ _ h => h) (Or.inl ⟨by rfl, ?hyb16⟩) hS ?restb16
        case hyb16 => (intro w' hSw; go_simp; first | done | with_reducible rfl)
        try simp only [Act.put, List.getElem_toArray, List.getElem_cons_zero, List.getElem_cons_succ, List.setIfInBounds_toArray, List.set_cons_zero, List.set_cons_succ]
        refine wpAnyH_take (i := 17) (v := .bool true) rfl (by kernel_rfl) (by kernel_rfl) (by kernel_rfl) (fun _ _ _ h => h) (Or.inl ⟨by rfl, ?hyb17⟩) hS ?restb17
        case hyb17 => (intro w' hSw; go_simp; first | done | with_reducible rfl)
        try simp only [Act.put, List.getElem_toArray, List.getElem_cons_zero, List.getElem_cons_succ, List.setIfInBounds_toArray, List.set_cons_zero, List.set_cons_succ]
        refine wpAnyH_take (i := 18) (v := .int .i64 AE) rfl (by kernel_rfl) (by kernel_rfl) (by kernel_rfl) (fun _ _ _ h => h) (Or.inl ⟨by rfl, ?hyb18⟩) hS ?restb18
        case hyb18 => (intro w' hSw; go_simp; first | done | with_reducible rfl)
        try simp only [Act.put, List.getElem_toArray, List.getElem_cons_zero, List.getElem_cons_succ, List.setIfInBounds_toArray, List.set_cons_zero, List.set_cons_succ]
        refine wpAnyH_take (i := 19) (v := .int .i64 AE) rfl (by kernel_rfl) (by kernel_rfl) (by kernel_rfl) (fun _ _ _ h => h) (Or.inl ⟨by rfl, ?hyb19⟩) hS ?restb19
        case hyb19 => (intro w' hSw; go_simp; first | done | with_reducible rfl)
        try simp only [Act.put, List.getElem_toArray, List.getElem_cons_zero, List.getElem_cons_succ, List.setIfInBounds_toArray, List.set_cons_zero, List.set_cons_succ]
        refine wpAnyH_take (i := 20) (v := .bool true) rfl (by kernel_rfl) (by kernel_rfl) (by kernel_rfl) (fun _ _ _ h => h) (Or.inl ⟨by rfl, ?hyb20⟩) hS ?restb20
        case hyb20 => (intro w' hSw; go_simp; first | done | with_reducible rfl)
        try simp only [Act.put, List.getElem_toArray, List.getElem_cons_zero, List.getElem_cons_succ, List.setIfInBounds_toArray, List.set_cons_zero, List.set_cons_succ]
        refine wpAnyH_take (i := 21) (v := .bool true) rfl (by kernel_rfl) (by kernel_rfl) (by kernel_rfl) (fun _ _ _ h => h) (Or.inl ⟨by rfl, ?hyb21⟩) hS ?restb21
        case hyb21 => (intro w' hSw; go_simp; first | done | with_reducible rfl)
        try simp only [Act.put, List.getElem_toArray, List.getElem_cons_zero, List.getElem_cons_succ, List.setIfInBounds_toArray, List.set_cons_zero, List.set_cons_succ]
        refine wpAnyH_take (i := 22) (v := .bool true) rfl (by kernel_rfl) (by kernel_rfl) (by kernel_rfl) (fun _ _ _ h => h) (Or.inl ⟨by rfl, ?hyb22⟩) hS ?restb22
        case hyb22 => (intro w' hSw; go_simp; first | done | with_reducible rfl)
        try simp only [Act.put, List.getElem_toArray, List.getElem_cons_zero, List.getElem_cons_succ, List.setIfInBounds_toArray, List.set_cons_zero, List.set_cons_succ]
        refine wpAnyH_take (i := 23) (v := ?vb23) rfl (by kernel_rfl) (by kernel_rfl) (by kernel_rfl) (fun _ _ _ h => h) (Or.inl ⟨by rfl, ?hyb23⟩) hS ?restb23
        case hyb23 => (intro w' hSw; go_simp; first | done | with_reducible rfl)
        try simp only [Act.put, List.getElem_toArray, List.getElem_cons_zero, List.getElem_cons_succ, List.setIfInBounds_toArray, List.set_cons_zero, List.set_cons_succ]
        refine wpAnyH_take (i := 24) (v := .pointer (some ⟨q.gb, 0, none⟩)) rfl (by kernel_rfl) (by kernel_rfl) (by kernel_rfl) (fun _ _ _ h => h) (Or.inl ⟨by rfl, ?hyb24⟩) hS ?restb24
        case hyb24 => (intro w' hSw; have c0 : w'.cell? ⟨G4, 0, none⟩ = some (.pointer (some ⟨q.gb, 0, none⟩)) := X4.out w' (Bb1.out.trans ((Bb2.out.trans ((Bb3.out.trans (hSw.mono Bb3.out.size)).mono Bb2.out.size)).mono Bb1.out.size)) 0 _ rfl; go_simp; first | done | with_reducible rfl)
        try simp only [Act.put, List.getElem_toArray, List.getElem_cons_zero, List.getElem_cons_succ, List.setIfInBounds_toArray, List.set_cons_zero, List.set_cons_succ]
        refine wpAnyH_take (i := 25) (v := ?vb25) rfl (by kernel_rfl) (by kernel_rfl) (by kernel_rfl) (fun _ _ _ h => h) (Or.inl ⟨by rfl, ?hyb25⟩) hS ?restb25
        case hyb25 => (intro w' hSw; go_simp; first | done | with_reducible rfl)
        try simp only [Act.put, List.getElem_toArray, List.getElem_cons_zero, List.getElem_cons_succ, List.setIfInBounds_toArray, List.set_cons_zero, List.set_cons_succ]
        refine wpAnyH_take (i := 27) (v := ?vb27) rfl (by kernel_rfl) (by kernel_rfl) (by kernel_rfl) (fun _ _ _ h => h) (Or.inl ⟨by rfl, ?hyb27⟩) hS ?restb27
        case hyb27 => (intro w' hSw; go_simp; first | done | with_reducible rfl)
        try simp only [Act.put, List.getElem_toArray, List.getElem_cons_zero, List.getElem_cons_succ, List.setIfInBounds_toArray, List.set_cons_zero, List.set_cons_succ]
        refine wpAnyH_take (i := 28) (v := .agg #[.slice q.A q.n q.c]) rfl (by kernel_rfl) (by kernel_rfl) (by kernel_rfl) (fun _ _ _ h => h) (Or.inl ⟨by rfl, ?hyb28⟩) hS ?restb28
        case hyb28 => (intro w' hSw; have c0 : w'.cell? ⟨G4, 2, none⟩ = some (.slice q.A q.n q.c) := X4.out w' (Bb1.out.trans ((Bb2.out.trans ((Bb3.out.trans (hSw.mono Bb3.out.size)).mono Bb2.out.size)).mono Bb1.out.size)) 2 _ rfl; go_simp; first | done | with_reducible rfl)
        try simp only [Act.put, List.getElem_toArray, List.getElem_cons_zero, List.getElem_cons_succ, List.setIfInBounds_toArray, List.set_cons_zero, List.set_cons_succ]
        refine wpAnyH_take (i := 29) (v := ?vb29) rfl (by kernel_rfl) (by kernel_rfl) (by kernel_rfl) (fun _ _ _ h => h) (Or.inl ⟨by rfl, ?hyb29⟩) hS ?restb29
        case hyb29 => (intro w' hSw; go_simp; first | done | with_reducible rfl)
        try simp only [Act.put, List.getElem_toArray, List.getElem_cons_zero, List.getElem_cons_succ, List.setIfInBounds_toArray, List.set_cons_zero, List.set_cons_succ]
        refine wpAnyH_ready (rs := [26]) (by kernel_rfl) (by simp) ?_
        refine AllReadyH.cons rfl (fun K hK => ?_) AllReadyH.nil
        go_simp
        refine (head_any q.gb S q.ob _ xa yb3 (PX.out.below (Bb1.out.trans ((Bb2.out.trans (Bb3.out.mono Bb2.out.size)).mono Bb1.out.size))).pr.bk).mono ?_
        rintro e yb4 ⟨Ha, hm, hc, rfl, hd1, bk⟩
        have HD1 := Lib.hid hd1
        rw [hHL.out]
        clear hd1
        go_wp2_with fail
        have Bb4 := Lib.hid bk
        refine hK.out _ _ bk ?_
        intro hS
        clear hK K hS bk
        try simp only [Act.put, List.getElem_toArray, List.getElem_cons_zero, List.getElem_cons_succ, List.setIfInBounds_toArray, List.set_cons_zero, List.set_cons_succ]
        refine wpAnyH_strong (S2 := fun w' => Below yb4.heap.size yb4 w') (fun w' h' => Bb4.out.trans (h'.mono Bb4.out.size)) _ _ _ _ ?_
        have hS : Below yb4.heap.size yb4 yb4 := Below.refl _ _
        refine wpAnyH_ready (rs := [30]) (by kernel_rfl) (by simp) ?_
        refine AllReadyH.cons rfl (fun K hK => ?_) AllReadyH.nil
        go_simp
        refine (rhead_any q.A q.n q.c S xa _ yb4 (PX.out.below (Bb1.out.trans ((Bb2.out.trans ((Bb3.out.trans (Bb4.out.mono Bb3.out.size)).mono Bb2.out.size)).mono Bb1.out.size))).rk hqn.out (PX.out.below (Bb1.out.trans ((Bb2.out.trans ((Bb3.out.trans (Bb4.out.mono Bb3.out.size)).mono Bb2.out.size)).mono Bb1.out.size))).lt hSok.out).mono ?_
        rintro e yb5 ⟨Hb, hbm, hbc, rfl, hd2, bk⟩
        have HD2 := Lib.hid hd2
        rw [hHL.out]
        clear hd2
        go_wp2_with fail
        have Bb5 := Lib.hid bk
        refine hK.out _ _ bk ?_
        intro hS
        clear hK K hS bk
        try simp only [Act.put, List.getElem_toArray, List.getElem_cons_zero, List.getElem_cons_succ, List.setIfInBounds_toArray, List.set_cons_zero, List.set_cons_succ]
        refine wpAnyH_strong (S2 := fun w' => Below yb5.heap.size yb5 w') (fun w' h' => Bb5.out.trans (h'.mono Bb5.out.size)) _ _ _ _ ?_
        have hS : Below yb5.heap.size yb5 yb5 := Below.refl _ _
        refine wpAnyH_ready (rs := [31]) (by kernel_rfl) (by simp) ?_
        refine AllReadyH.cons rfl (fun K hK => ?_) AllReadyH.nil
        go_simp
        refine (sameHead_ (hau xa) HL Ha hm hc _ (hau xa) HL Hb hbm hbc _ yb5 (HD1.out.to Bb5.out) (HD2.out.to (Below.refl _ _))).mono ?_
        rintro e yb6 ⟨rfl, bk⟩
        rw [show decide (hau xa = hau xa ∧ (HL : Int) = (HL : Int) ∧ lastDg (ofA S xa) = lastDg (ofA S xa)) = true from decide_eq_true ⟨rfl, rfl, rfl⟩]
        go_wp2_with fail
        have Bb6 := Lib.hid bk
        refine hK.out _ _ bk ?_
        intro hS
        clear hK K hS bk
        try simp only [Act.put, List.getElem_toArray, List.getElem_cons_zero, List.getElem_cons_succ, List.setIfInBounds_toArray, List.set_cons_zero, List.set_cons_succ]
        refine wpAnyH_strong (S2 := fun w' => Below yb6.heap.size yb6 w') (fun w' h' => Bb6.out.trans (h'.mono Bb6.out.size)) _ _ _ _ ?_
        have hS : Below yb6.heap.size yb6 yb6 := Below.refl _ _
        refine wpAnyH_take (i := 32) (v := .bool true) rfl (by kernel_rfl) (by kernel_rfl) (by kernel_rfl) (fun _ _ _ h => h) (Or.inl ⟨by rfl, ?hyb32⟩) hS ?restb32
        case hyb32 => (intro w' hSw; go_simp; first | done | with_reducible rfl)
        try simp only [Act.put, List.getElem_toArray, List.getElem_cons_zero, List.getElem_cons_succ, List.setIfInBounds_toArray, List.set_cons_zero, List.set_cons_succ]
        refine wpAnyH_take (i := 33) (v := .bool true) rfl (by kernel_rfl) (by kernel_rfl) (by kernel_rfl) (fun _ _ _ h => h) (Or.inl ⟨by rfl, ?hyb33⟩) hS ?restb33
        case hyb33 => (intro w' hSw; go_simp; first | done | with_reducible rfl)
        try simp only [Act.put, List.getElem_toArray, List.getElem_cons_zero, List.getElem_cons_succ, List.setIfInBounds_toArray, List.set_cons_zero, List.set_cons_succ]
        refine wpAnyH_take (i := 34) (v := ?vb34) rfl (by kernel_rfl) (by kernel_rfl) (by kernel_rfl) (fun _ _ _ h => h) (Or.inl ⟨by rfl, ?hyb34⟩) hS ?restb34
        case hyb34 => (intro w' hSw; go_simp; first | done | with_reducible rfl)
        try simp only [Act.put, List.getElem_toArray, List.getElem_cons_zero, List.getElem_cons_succ, List.setIfInBounds_toArray, List.set_cons_zero, List.set_cons_succ]
        refine wpAnyH_take (i := 35) (v := .pointer (some ⟨q.gb, 0, none⟩)) rfl (by kernel_rfl) (by kernel_rfl) (by kernel_rfl) (fun _ _ _ h => h) (Or.inl ⟨by rfl, ?hyb35⟩) hS ?restb35
        case hyb35 => (intro w' hSw; have c0 : w'.cell? ⟨G4, 0, none⟩ = some (.pointer (some ⟨q.gb, 0, none⟩)) := X4.out w' (Bb1.out.trans ((Bb2.out.trans ((Bb3.out.trans ((Bb4.out.trans ((Bb5.out.trans ((Bb6.out.trans (hSw.mono Bb6.out.size)).mono Bb5.out.size)).mono Bb4.out.size)).mono Bb3.out.size)).mono Bb2.out.size)).mono Bb1.out.size)) 0 _ rfl; go_simp; first | done | with_reducible rfl)
        try simp only [Act.put, List.getElem_toArray, List.getElem_cons_zero, List.getElem_cons_succ, List.setIfInBounds_toArray, List.set_cons_zero, List.set_cons_succ]
        refine wpAnyH_take (i := 39) (v := ?vb39) rfl (by kernel_rfl) (by kernel_rfl) (by kernel_rfl) (fun _ _ _ h => h) (Or.inl ⟨by rfl, ?hyb39⟩) hS ?restb39
        case hyb39 => (intro w' hSw; go_simp; first | done | with_reducible rfl)
        try simp only [Act.put, List.getElem_toArray, List.getElem_cons_zero, List.getElem_cons_succ, List.setIfInBounds_toArray, List.set_cons_zero, List.set_cons_succ]
        refine wpAnyH_take (i := 40) (v := .agg #[.slice q.A q.n q.c]) rfl (by kernel_rfl) (by kernel_rfl) (by kernel_rfl) (fun _ _ _ h => h) (Or.inl ⟨by rfl, ?hyb40⟩) hS ?restb40
        case hyb40 => (intro w' hSw; have c0 : w'.cell? ⟨G4, 2, none⟩ = some (.slice q.A q.n q.c) := X4.out w' (Bb1.out.trans ((Bb2.out.trans ((Bb3.out.trans ((Bb4.out.trans ((Bb5.out.trans ((Bb6.out.trans (hSw.mono Bb6.out.size)).mono Bb5.out.size)).mono Bb4.out.size)).mono Bb3.out.size)).mono Bb2.out.size)).mono Bb1.out.size)) 2 _ rfl; go_simp; first | done | with_reducible rfl)
        try simp only [Act.put, List.getElem_toArray, List.getElem_cons_zero, List.getElem_cons_succ, List.setIfInBounds_toArray, List.set_cons_zero, List.set_cons_succ]
        refine wpAnyH_ready (rs := [36, 41]) (by kernel_rfl) (by simp) ?_
        refine AllReadyH.cons rfl (fun K hK => ?_) (AllReadyH.cons rfl (fun K hK => ?_) AllReadyH.nil)
        · have hl7 := Lib.hid (one_lit yb6 7)
          go_simp
          have bk : Below yb6.heap.size yb6 (yb6.alloc (.cells #[.int .u8 7] 5)) := (Below.refl _ _).alloc (Nat.le_refl _) _
          obtain ⟨yba7, hyba7⟩ : ∃ W0, Hid (W0 = yb6.alloc (.cells #[.int .u8 7] 5)) := ⟨_, Lib.hid rfl⟩
          rw [← hyba7.out] at bk ⊢
          have Bba7 := Lib.hid bk
          refine hK.out _ _ bk ?_
          intro hS
          clear hK K hS bk
          try simp only [Act.put, List.getElem_toArray, List.getElem_cons_zero, List.getElem_cons_succ, List.setIfInBounds_toArray, List.set_cons_zero, List.set_cons_succ]
          refine wpAnyH_strong (S2 := fun w' => Below yba7.heap.size yba7 w') (fun w' h' => Bba7.out.trans (h'.mono Bba7.out.size)) _ _ _ _ ?_
          have hS : Below yba7.heap.size yba7 yba7 := Below.refl _ _
          have L36 : Hid (Rd yba7 yba7.heap.size 1 (some ⟨yb6.heap.size, 0, none⟩) 1 ([(7 : UInt8)].map B8)) := by rw [hyba7.out]; exact hl7.out
          refine wpAnyH_ready (rs := [37, 41]) (by kernel_rfl) (by simp) ?_
          refine AllReadyH.cons rfl (fun K hK => ?_) (AllReadyH.cons rfl (fun K hK => ?_) AllReadyH.nil)
          · go_simp
            refine (bput_ q.gb S q.ob _ (some ⟨yb6.heap.size, 0, none⟩) 1 1 [7] yba7 (PX.out.below (Bb1.out.trans ((Bb2.out.trans ((Bb3.out.trans ((Bb4.out.trans ((Bb5.out.trans ((Bb6.out.trans (Bba7.out.mono Bb6.out.size)).mono Bb5.out.size)).mono Bb4.out.size)).mono Bb3.out.size)).mono Bb2.out.size)).mono Bb1.out.size))).pr.bk (L36.out.to (Below.refl _ _)) (by decide)).mono ?_
            rintro e ybaa8 hr7
            obtain ⟨A7, m7, c7, rfl, hm7, o7, bk⟩ := hr7.n
            have O7 := Lib.hid (Rd.of_own o7)
            clear o7 hr7
            go_wp2_with fail
            have Bbaa8 := Lib.hid bk
            refine hK.out _ _ bk ?_
            intro hS
            clear hK K hS bk
            try simp only [Act.put, List.getElem_toArray, List.getElem_cons_zero, List.getElem_cons_succ, List.setIfInBounds_toArray, List.set_cons_zero, List.set_cons_succ]
            refine wpAnyH_strong (S2 := fun w' => Below ybaa8.heap.size ybaa8 w') (fun w' h' => Bbaa8.out.trans (h'.mono Bbaa8.out.size)) _ _ _ _ ?_
            have hS : Below ybaa8.heap.size ybaa8 ybaa8 := Below.refl _ _
            refine wpAnyH_take (i := 38) (v := .string (str ([7] ++ putL S))) rfl (by kernel_rfl) (by kernel_rfl) (by kernel_rfl) (fun _ _ _ h => h) (Or.inl ⟨by rfl, ?hybaa38⟩) hS ?restbaa38
            case hybaa38 => (intro w' hSw; have hc := conv8 w' A7 m7 c7 _ (O7.out.to hSw); go_simp; first | done | with_reducible rfl)
            try simp only [Act.put, List.getElem_toArray, List.getElem_cons_zero, List.getElem_cons_succ, List.setIfInBounds_toArray, List.set_cons_zero, List.set_cons_succ]
            refine wpAnyH_ready (rs := [41]) (by kernel_rfl) (by simp) ?_
            refine AllReadyH.cons rfl (fun K hK => ?_) AllReadyH.nil
            have hl7 := Lib.hid (one_lit ybaa8 7)
            go_simp
            have bk : Below ybaa8.heap.size ybaa8 (ybaa8.alloc (.cells #[.int .u8 7] 5)) := (Below.refl _ _).alloc (Nat.le_refl _) _
            obtain ⟨ybaa9, hybaa9⟩ : ∃ W0, Hid (W0 = ybaa8.alloc (.cells #[.int .u8 7] 5)) := ⟨_, Lib.hid rfl⟩
            rw [← hybaa9.out] at bk ⊢
            have Bbaa9 := Lib.hid bk
            refine hK.out _ _ bk ?_
            intro hS
            clear hK K hS bk
            try simp only [Act.put, List.getElem_toArray, List.getElem_cons_zero, List.getElem_cons_succ, List.setIfInBounds_toArray, List.set_cons_zero, List.set_cons_succ]
            refine wpAnyH_strong (S2 := fun w' => Below ybaa9.heap.size ybaa9 w') (fun w' h' => Bbaa9.out.trans (h'.mono Bbaa9.out.size)) _ _ _ _ ?_
            have hS : Below ybaa9.heap.size ybaa9 ybaa9 := Below.refl _ _
            have L41 : Hid (Rd ybaa9 ybaa9.heap.size 1 (some ⟨ybaa8.heap.size, 0, none⟩) 1 ([(7 : UInt8)].map B8)) := by rw [hybaa9.out]; exact hl7.out
            refine wpAnyH_ready (rs := [42]) (by kernel_rfl) (by simp) ?_
            refine AllReadyH.cons rfl (fun K hK => ?_) AllReadyH.nil
            go_simp
            refine (rput_ q.A q.n q.c S _ (some ⟨ybaa8.heap.size, 0, none⟩) 1 1 [7] ybaa9 (PX.out.below (Bb1.out.trans ((Bb2.out.trans ((Bb3.out.trans ((Bb4.out.trans ((Bb5.out.trans ((Bb6.out.trans ((Bba7.out.trans ((Bbaa8.out.trans (Bbaa9.out.mono Bbaa8.out.size)).mono Bba7.out.size)).mono Bb6.out.size)).mono Bb5.out.size)).mono Bb4.out.size)).mono Bb3.out.size)).mono Bb2.out.size)).mono Bb1.out.size))).rk hqn.out (PX.out.below (Bb1.out.trans ((Bb2.out.trans ((Bb3.out.trans ((Bb4.out.trans ((Bb5.out.trans ((Bb6.out.trans ((Bba7.out.trans ((Bbaa8.out.trans (Bbaa9.out.mono Bbaa8.out.size)).mono Bba7.out.size)).mono Bb6.out.size)).mono Bb5.out.size)).mono Bb4.out.size)).mono Bb3.out.size)).mono Bb2.out.size)).mono Bb1.out.size))).lt hSok.out (L41.out.to (Below.refl _ _)) (by decide)).mono ?_
            rintro e ybaa10 hr7
            obtain ⟨A9, m9, c9, rfl, hm9, o9, bk⟩ := hr7.n
            have O9 := Lib.hid (Rd.of_own o9)
            clear o9 hr7
            go_wp2_with fail
            have Bbaa10 := Lib.hid bk
            refine hK.out _ _ bk ?_
            intro hS
            clear hK K hS bk
            try simp only [Act.put, List.getElem_toArray, List.getElem_cons_zero, List.getElem_cons_succ, List.setIfInBounds_toArray, List.set_cons_zero, List.set_cons_succ]
            refine wpAnyH_strong (S2 := fun w' => Below ybaa10.heap.size ybaa10 w') (fun w' h' => Bbaa10.out.trans (h'.mono Bbaa10.out.size)) _ _ _ _ ?_
            have hS : Below ybaa10.heap.size ybaa10 ybaa10 := Below.refl _ _
            refine wpAnyH_take (i := 43) (v := .string (str ([7] ++ putL S))) rfl (by kernel_rfl) (by kernel_rfl) (by kernel_rfl) (fun _ _ _ h => h) (Or.inl ⟨by rfl, ?hybaa43⟩) hS ?restbaa43
            case hybaa43 => (intro w' hSw; have hc := conv8 w' A9 m9 c9 _ (O9.out.to hSw); go_simp; first | done | with_reducible rfl)
            try simp only [Act.put, List.getElem_toArray, List.getElem_cons_zero, List.getElem_cons_succ, List.setIfInBounds_toArray, List.set_cons_zero, List.set_cons_succ]
            refine wpAnyH_take (i := 44) (v := .bool true) rfl (by kernel_rfl) (by kernel_rfl) (by kernel_rfl) (fun _ _ _ h => h) (Or.inl ⟨by rfl, ?hybaa44⟩) hS ?restbaa44
            case hybaa44 => (intro w' hSw; go_simp; first | done | with_reducible rfl)
            try simp only [Act.put, List.getElem_toArray, List.getElem_cons_zero, List.getElem_cons_succ, List.setIfInBounds_toArray, List.set_cons_zero, List.set_cons_succ]
            refine wpAnyH_take (i := 45) (v := .bool true) rfl (by kernel_rfl) (by kernel_rfl) (by kernel_rfl) (fun _ _ _ h => h) (Or.inl ⟨by rfl, ?hybaa45⟩) hS ?restbaa45
            case hybaa45 => (intro w' hSw; go_simp; first | done | with_reducible rfl)
            try simp only [Act.put, List.getElem_toArray, List.getElem_cons_zero, List.getElem_cons_succ, List.setIfInBounds_toArray, List.set_cons_zero, List.set_cons_succ]
            refine wpAnyH_take (i := 46) (v := .bool true) rfl (by kernel_rfl) (by kernel_rfl) (by kernel_rfl) (fun _ _ _ h => h) (Or.inl ⟨by rfl, ?hybaa46⟩) hS ?restbaa46
            case hybaa46 => (intro w' hSw; go_simp; first | done | with_reducible rfl)
            try simp only [Act.put, List.getElem_toArray, List.getElem_cons_zero, List.getElem_cons_succ, List.setIfInBounds_toArray, List.set_cons_zero, List.set_cons_succ]
            refine wpAnyH_ready (rs := [47]) (by kernel_rfl) (by simp) ?_
            refine AllReadyH.cons rfl (fun K hK => ?_) AllReadyH.nil
            go_simp
            refine (awake_ ybaa10).mono ?_
            rintro e ybaa11 ⟨rfl, bk⟩
            go_wp2_with fail
            have Bbaa11 := Lib.hid bk
            refine hK.out _ _ bk ?_
            intro hS
            clear hK K hS bk
            try simp only [Act.put, List.getElem_toArray, List.getElem_cons_zero, List.getElem_cons_succ, List.setIfInBounds_toArray, List.set_cons_zero, List.set_cons_succ]
            refine wpAnyH_strong (S2 := fun w' => Below ybaa11.heap.size ybaa11 w') (fun w' h' => Bbaa11.out.trans (h'.mono Bbaa11.out.size)) _ _ _ _ ?_
            have hS : Below ybaa11.heap.size ybaa11 ybaa11 := Below.refl _ _
            refine wpAnyH_take (i := 48) (v := .bool true) rfl (by kernel_rfl) (by kernel_rfl) (by kernel_rfl) (fun _ _ _ h => h) (Or.inl ⟨by rfl, ?hybaa48⟩) hS ?restbaa48
            case hybaa48 => (intro w' hSw; go_simp; first | done | with_reducible rfl)
            try simp only [Act.put, List.getElem_toArray, List.getElem_cons_zero, List.getElem_cons_succ, List.setIfInBounds_toArray, List.set_cons_zero, List.set_cons_succ]
            refine wpAnyH_take (i := 49) (v := ?vbaa49) rfl (by kernel_rfl) (by kernel_rfl) (by kernel_rfl) (fun _ _ _ h => h) (Or.inl ⟨by rfl, ?hybaa49⟩) hS ?restbaa49
            case hybaa49 => (intro w' hSw; go_simp; first | done | with_reducible rfl)
            try simp only [Act.put, List.getElem_toArray, List.getElem_cons_zero, List.getElem_cons_succ, List.setIfInBounds_toArray, List.set_cons_zero, List.set_cons_succ]
            refine wpAnyH_done (by kernel_rfl) (NoPanic.normal ?_) _
            have BXt : Hid (Below v2.heap.size v2 ybaa11) := BX0.out.trans ((Bb1.out.trans ((Bb2.out.trans ((Bb3.out.trans ((Bb4.out.trans ((Bb5.out.trans ((Bb6.out.trans ((Bba7.out.trans ((Bbaa8.out.trans ((Bbaa9.out.trans ((Bbaa10.out.trans (Bbaa11.out.mono Bbaa10.out.size)).mono Bbaa9.out.size)).mono Bbaa8.out.size)).mono Bba7.out.size)).mono Bb6.out.size)).mono Bb5.out.size)).mono Bb4.out.size)).mono Bb3.out.size)).mono Bb2.out.size)).mono Bb1.out.size)).mono BX0.out.size)
            go_wp2_with fail
            go_ret
            refine ⟨rfl, ?_⟩
            have hbw := B1.out.trans (hb.out.mono B1.out.size)
            exact hbw.trans ((B2.out.trans (BXt.out.mono B2.out.size)).mono hbw.size)
          · have hl7 := Lib.hid (one_lit yba7 7)
            go_simp
            have bk : Below yba7.heap.size yba7 (yba7.alloc (.cells #[.int .u8 7] 5)) := (Below.refl _ _).alloc (Nat.le_refl _) _
            obtain ⟨ybab8, hybab8⟩ : ∃ W0, Hid (W0 = yba7.alloc (.cells #[.int .u8 7] 5)) := ⟨_, Lib.hid rfl⟩
            rw [← hybab8.out] at bk ⊢
            have Bbab8 := Lib.hid bk
            refine hK.out _ _ bk ?_
            intro hS
            clear hK K hS bk
            try simp only [Act.put, List.getElem_toArray, List.getElem_cons_zero, List.getElem_cons_succ, List.setIfInBounds_toArray, List.set_cons_zero, List.set_cons_succ]
            refine wpAnyH_strong (S2 := fun w' => Below ybab8.heap.size ybab8 w') (fun w' h' => Bbab8.out.trans (h'.mono Bbab8.out.size)) _ _ _ _ ?_
            have hS : Below ybab8.heap.size ybab8 ybab8 := Below.refl _ _
            have L41 : Hid (Rd ybab8 ybab8.heap.size 1 (some ⟨yba7.heap.size, 0, none⟩) 1 ([(7 : UInt8)].map B8)) := by rw [hybab8.out]; exact hl7.out
            refine wpAnyH_ready (rs := [37]) (by kernel_rfl) (by simp) ?_
            refine AllReadyH.cons rfl (fun K hK => ?_) AllReadyH.nil
            go_simp
            refine (bput_ q.gb S q.ob _ (some ⟨yb6.heap.size, 0, none⟩) 1 1 [7] ybab8 (PX.out.below (Bb1.out.trans ((Bb2.out.trans ((Bb3.out.trans ((Bb4.out.trans ((Bb5.out.trans ((Bb6.out.trans ((Bba7.out.trans (Bbab8.out.mono Bba7.out.size)).mono Bb6.out.size)).mono Bb5.out.size)).mono Bb4.out.size)).mono Bb3.out.size)).mono Bb2.out.size)).mono Bb1.out.size))).pr.bk (L36.out.to Bbab8.out) (by decide)).mono ?_
            rintro e ybab9 hr7
            obtain ⟨A7, m7, c7, rfl, hm7, o7, bk⟩ := hr7.n
            have O7 := Lib.hid (Rd.of_own o7)
            clear o7 hr7
            go_wp2_with fail
            have Bbab9 := Lib.hid bk
            refine hK.out _ _ bk ?_
            intro hS
            clear hK K hS bk
            try simp only [Act.put, List.getElem_toArray, List.getElem_cons_zero, List.getElem_cons_succ, List.setIfInBounds_toArray, List.set_cons_zero, List.set_cons_succ]
            refine wpAnyH_strong (S2 := fun w' => Below ybab9.heap.size ybab9 w') (fun w' h' => Bbab9.out.trans (h'.mono Bbab9.out.size)) _ _ _ _ ?_
            have hS : Below ybab9.heap.size ybab9 ybab9 := Below.refl _ _
            refine wpAnyH_take (i := 38) (v := .string (str ([7] ++ putL S))) rfl (by kernel_rfl) (by kernel_rfl) (by kernel_rfl) (fun _ _ _ h => h) (Or.inl ⟨by rfl, ?hybab38⟩) hS ?restbab38
            case hybab38 => (intro w' hSw; have hc := conv8 w' A7 m7 c7 _ (O7.out.to hSw); go_simp; first | done | with_reducible rfl)
            try simp only [Act.put, List.getElem_toArray, List.getElem_cons_zero, List.getElem_cons_succ, List.setIfInBounds_toArray, List.set_cons_zero, List.set_cons_succ]
            refine wpAnyH_ready (rs := [42]) (by kernel_rfl) (by simp) ?_
            refine AllReadyH.cons rfl (fun K hK => ?_) AllReadyH.nil
            go_simp
            refine (rput_ q.A q.n q.c S _ (some ⟨yba7.heap.size, 0, none⟩) 1 1 [7] ybab9 (PX.out.below (Bb1.out.trans ((Bb2.out.trans ((Bb3.out.trans ((Bb4.out.trans ((Bb5.out.trans ((Bb6.out.trans ((Bba7.out.trans ((Bbab8.out.trans (Bbab9.out.mono Bbab8.out.size)).mono Bba7.out.size)).mono Bb6.out.size)).mono Bb5.out.size)).mono Bb4.out.size)).mono Bb3.out.size)).mono Bb2.out.size)).mono Bb1.out.size))).rk hqn.out (PX.out.below (Bb1.out.trans ((Bb2.out.trans ((Bb3.out.trans ((Bb4.out.trans ((Bb5.out.trans ((Bb6.out.trans ((Bba7.out.trans ((Bbab8.out.trans (Bbab9.out.mono Bbab8.out.size)).mono Bba7.out.size)).mono Bb6.out.size)).mono Bb5.out.size)).mono Bb4.out.size)).mono Bb3.out.size)).mono Bb2.out.size)).mono Bb1.out.size))).lt hSok.out (L41.out.to Bbab9.out) (by decide)).mono ?_
            rintro e ybab10 hr7
            obtain ⟨A9, m9, c9, rfl, hm9, o9, bk⟩ := hr7.n
            have O9 := Lib.hid (Rd.of_own o9)
            clear o9 hr7
            go_wp2_with fail
            have Bbab10 := Lib.hid bk
            refine hK.out _ _ bk ?_
            intro hS
            clear hK K hS bk
            try simp only [Act.put, List.getElem_toArray, List.getElem_cons_zero, List.getElem_cons_succ, List.setIfInBounds_toArray, List.set_cons_zero, List.set_cons_succ]
            refine wpAnyH_strong (S2 := fun w' => Below ybab10.heap.size ybab10 w') (fun w' h' => Bbab10.out.trans (h'.mono Bbab10.out.size)) _ _ _ _ ?_
            have hS : Below ybab10.heap.size ybab10 ybab10 := Below.refl _ _
            refine wpAnyH_take (i := 43) (v := .string (str ([7] ++ putL S))) rfl (by kernel_rfl) (by kernel_rfl) (by kernel_rfl) (fun _ _ _ h => h) (Or.inl ⟨by rfl, ?hybab43⟩) hS ?restbab43
            case hybab43 => (intro w' hSw; have hc := conv8 w' A9 m9 c9 _ (O9.out.to hSw); go_simp; first | done | with_reducible rfl)
            try simp only [Act.put, List.getElem_toArray, List.getElem_cons_zero, List.getElem_cons_succ, List.setIfInBounds_toArray, List.set_cons_zero, List.set_cons_succ]
            refine wpAnyH_take (i := 44) (v := .bool true) rfl (by kernel_rfl) (by kernel_rfl) (by kernel_rfl) (fun _ _ _ h => h) (Or.inl ⟨by rfl, ?hybab44⟩) hS ?restbab44
            case hybab44 => (intro w' hSw; go_simp; first | done | with_reducible rfl)
            try simp only [Act.put, List.getElem_toArray, List.getElem_cons_zero, List.getElem_cons_succ, List.setIfInBounds_toArray, List.set_cons_zero, List.set_cons_succ]
            refine wpAnyH_take (i := 45) (v := .bool true) rfl (by kernel_rfl) (by kernel_rfl) (by kernel_rfl) (fun _ _ _ h => h) (Or.inl ⟨by rfl, ?hybab45⟩) hS ?restbab45
            case hybab45 => (intro w' hSw; go_simp; first | done | with_reducible rfl)
            try simp only [Act.put, List.getElem_toArray, List.getElem_cons_zero, List.getElem_cons_succ, List.setIfInBounds_toArray, List.set_cons_zero, List.set_cons_succ]
            refine wpAnyH_take (i := 46) (v := .bool true) rfl (by kernel_rfl) (by kernel_rfl) (by kernel_rfl) (fun _ _ _ h => h) (Or.inl ⟨by rfl, ?hybab46⟩) hS ?restbab46
            case hybab46 => (intro w' hSw; go_simp; first | done | with_reducible rfl)
            try simp only [Act.put, List.getElem_toArray, List.getElem_cons_zero, List.getElem_cons_succ, List.setIfInBounds_toArray, List.set_cons_zero, List.set_cons_succ]
            refine wpAnyH_ready (rs := [47]) (by kernel_rfl) (by simp) ?_
            refine AllReadyH.cons rfl (fun K hK => ?_) AllReadyH.nil
            go_simp
            refine (awake_ ybab10).mono ?_
            rintro e ybab11 ⟨rfl, bk⟩
            go_wp2_with fail
            have Bbab11 := Lib.hid bk
            refine hK.out _ _ bk ?_
            intro hS
            clear hK K hS bk
            try simp only [Act.put, List.getElem_toArray, List.getElem_cons_zero, List.getElem_cons_succ, List.setIfInBounds_toArray, List.set_cons_zero, List.set_cons_succ]
            refine wpAnyH_strong (S2 := fun w' => Below ybab11.heap.size ybab11 w') (fun w' h' => Bbab11.out.trans (h'.mono Bbab11.out.size)) _ _ _ _ ?_
            have hS : Below ybab11.heap.size ybab11 ybab11 := Below.refl _ _
            refine wpAnyH_take (i := 48) (v := .bool true) rfl (by kernel_rfl) (by kernel_rfl) (by kernel_rfl) (fun _ _ _ h => h) (Or.inl ⟨by rfl, ?hybab48⟩) hS ?restbab48
            case hybab48 => (intro w' hSw; go_simp; first | done | with_reducible rfl)
            try simp only [Act.put, List.getElem_toArray, List.getElem_cons_zero, List.getElem_cons_succ, List.setIfInBounds_toArray, List.set_cons_zero, List.set_cons_succ]
            refine wpAnyH_take (i := 49) (v := ?vbab49) rfl (by kernel_rfl) (by kernel_rfl) (by kernel_rfl) (fun _ _ _ h => h) (Or.inl ⟨by rfl, ?hybab49⟩) hS ?restbab49
            case hybab49 => (intro w' hSw; go_simp; first | done | with_reducible rfl)
            try simp only [Act.put, List.getElem_toArray, List.getElem_cons_zero, List.getElem_cons_succ, List.setIfInBounds_toArray, List.set_cons_zero, List.set_cons_succ]
            refine wpAnyH_done (by kernel_rfl) (NoPanic.normal ?_) _
            have BXt : Hid (Below v2.heap.size v2 ybab11) := BX0.out.trans ((Bb1.out.trans ((Bb2.out.trans ((Bb3.out.trans ((Bb4.out.trans ((Bb5.out.trans ((Bb6.out.trans ((Bba7.out.trans ((Bbab8.out.trans ((Bbab9.out.trans ((Bbab10.out.trans (Bbab11.out.mono Bbab10.out.size)).mono Bbab9.out.size)).mono Bbab8.out.size)).mono Bba7.out.size)).mono Bb6.out.size)).mono Bb5.out.size)).mono Bb4.out.size)).mono Bb3.out.size)).mono Bb2.out.size)).mono Bb1.out.size)).mono BX0.out.size)
            go_wp2_with fail
            go_ret
            refine ⟨rfl, ?_⟩
            have hbw := B1.out.trans (hb.out.mono B1.out.size)
            exact hbw.trans ((B2.out.trans (BXt.out.mono B2.out.size)).mono hbw.size)
        · have hl7 := Lib.hid (one_lit yb6 7)
          go_simp
          have bk : Below yb6.heap.size yb6 (yb6.alloc (.cells #[.int .u8 7] 5)) := (Below.refl _ _).alloc (Nat.le_refl _) _
          obtain ⟨ybb7, hybb7⟩ : ∃ W0, Hid (W0 = yb6.alloc (.cells #[.int .u8 7] 5)) := ⟨_, Lib.hid rfl⟩
          rw [← hybb7.out] at bk ⊢
          have Bbb7 := Lib.hid bk
          refine hK.out _ _ bk ?_
          intro hS
          clear hK K hS bk
          try simp only [Act.put, List.getElem_toArray, List.getElem_cons_zero, List.getElem_cons_succ, List.setIfInBounds_toArray, List.set_cons_zero, List.set_cons_succ]
          refine wpAnyH_strong (S2 := fun w' => Below ybb7.heap.size ybb7 w') (fun w' h' => Bbb7.out.trans (h'.mono Bbb7.out.size)) _ _ _ _ ?_
          have hS : Below ybb7.heap.size ybb7 ybb7 := Below.refl _ _
          have L41 : Hid (Rd ybb7 ybb7.heap.size 1 (some ⟨yb6.heap.size, 0, none⟩) 1 ([(7 : UInt8)].map B8)) := by rw [hybb7.out]; exact hl7.out
          refine wpAnyH_ready (rs := [36]) (by kernel_rfl) (by simp) ?_
          refine AllReadyH.cons rfl (fun K hK => ?_) AllReadyH.nil
          have hl7 := Lib.hid (one_lit ybb7 7)
          go_simp
          have bk : Below ybb7.heap.size ybb7 (ybb7.alloc (.cells #[.int .u8 7] 5)) := (Below.refl _ _).alloc (Nat.le_refl _) _
          obtain ⟨ybb8, hybb8⟩ : ∃ W0, Hid (W0 = ybb7.alloc (.cells #[.int .u8 7] 5)) := ⟨_, Lib.hid rfl⟩
          rw [← hybb8.out] at bk ⊢
          have Bbb8 := Lib.hid bk
          refine hK.out _ _ bk ?_
          intro hS
          clear hK K hS bk
          try simp only [Act.put, List.getElem_toArray, List.getElem_cons_zero, List.getElem_cons_succ, List.setIfInBounds_toArray, List.set_cons_zero, List.set_cons_succ]
          refine wpAnyH_strong (S2 := fun w' => Below ybb8.heap.size ybb8 w') (fun w' h' => Bbb8.out.trans (h'.mono Bbb8.out.size)) _ _ _ _ ?_
          have hS : Below ybb8.heap.size ybb8 ybb8 := Below.refl _ _
          have L36 : Hid (Rd ybb8 ybb8.heap.size 1 (some ⟨ybb7.heap.size, 0, none⟩) 1 ([(7 : UInt8)].map B8)) := by rw [hybb8.out]; exact hl7.out
          refine wpAnyH_ready (rs := [37]) (by kernel_rfl) (by simp) ?_
          refine AllReadyH.cons rfl (fun K hK => ?_) AllReadyH.nil
          go_simp
          refine (bput_ q.gb S q.ob _ (some ⟨ybb7.heap.size, 0, none⟩) 1 1 [7] ybb8 (PX.out.below (Bb1.out.trans ((Bb2.out.trans ((Bb3.out.trans ((Bb4.out.trans ((Bb5.out.trans ((Bb6.out.trans ((Bbb7.out.trans (Bbb8.out.mono Bbb7.out.size)).mono Bb6.out.size)).mono Bb5.out.size)).mono Bb4.out.size)).mono Bb3.out.size)).mono Bb2.out.size)).mono Bb1.out.size))).pr.bk (L36.out.to (Below.refl _ _)) (by decide)).mono ?_
          rintro e ybb9 hr7
          obtain ⟨A7, m7, c7, rfl, hm7, o7, bk⟩ := hr7.n
          have O7 := Lib.hid (Rd.of_own o7)
          clear o7 hr7
          go_wp2_with fail
          have Bbb9 := Lib.hid bk
          refine hK.out _ _ bk ?_
          intro hS
          clear hK K hS bk
          try simp only [Act.put, List.getElem_toArray, List.getElem_cons_zero, List.getElem_cons_succ, List.setIfInBounds_toArray, List.set_cons_zero, List.set_cons_succ]
          refine wpAnyH_strong (S2 := fun w' => Below ybb9.heap.size ybb9 w') (fun w' h' => Bbb9.out.trans (h'.mono Bbb9.out.size)) _ _ _ _ ?_
          have hS : Below ybb9.heap.size ybb9 ybb9 := Below.refl _ _
          refine wpAnyH_take (i := 38) (v := .string (str ([7] ++ putL S))) rfl (by kernel_rfl) (by kernel_rfl) (by kernel_rfl) (fun _ _ _ h => h) (Or.inl ⟨by rfl, ?hybb38⟩) hS ?restbb38
          case hybb38 => (intro w' hSw; have hc := conv8 w' A7 m7 c7 _ (O7.out.to hSw); go_simp; first | done | with_reducible rfl)
          try simp only [Act.put, List.getElem_toArray, List.getElem_cons_zero, List.getElem_cons_succ, List.setIfInBounds_toArray, List.set_cons_zero, List.set_cons_succ]
          refine wpAnyH_ready (rs := [42]) (by kernel_rfl) (by simp) ?_
          refine AllReadyH.cons rfl (fun K hK => ?_) AllReadyH.nil
          go_simp
          refine (rput_ q.A q.n q.c S _ (some ⟨yb6.heap.size, 0, none⟩) 1 1 [7] ybb9 (PX.out.below (Bb1.out.trans ((Bb2.out.trans ((Bb3.out.trans ((Bb4.out.trans ((Bb5.out.trans ((Bb6.out.trans ((Bbb7.out.trans ((Bbb8.out.trans (Bbb9.out.mono Bbb8.out.size)).mono Bbb7.out.size)).mono Bb6.out.size)).mono Bb5.out.size)).mono Bb4.out.size)).mono Bb3.out.size)).mono Bb2.out.size)).mono Bb1.out.size))).rk hqn.out (PX.out.below (Bb1.out.trans ((Bb2.out.trans ((Bb3.out.trans ((Bb4.out.trans ((Bb5.out.trans ((Bb6.out.trans ((Bbb7.out.trans ((Bbb8.out.trans (Bbb9.out.mono Bbb8.out.size)).mono Bbb7.out.size)).mono Bb6.out.size)).mono Bb5.out.size)).mono Bb4.out.size)).mono Bb3.out.size)).mono Bb2.out.size)).mono Bb1.out.size))).lt hSok.out (L41.out.to (Bbb8.out.trans (Bbb9.out.mono Bbb8.out.size))) (by decide)).mono ?_
          rintro e ybb10 hr7
          obtain ⟨A9, m9, c9, rfl, hm9, o9, bk⟩ := hr7.n
          have O9 := Lib.hid (Rd.of_own o9)
          clear o9 hr7
          go_wp2_with fail
          have Bbb10 := Lib.hid bk
          refine hK.out _ _ bk ?_
          intro hS
          clear hK K hS bk
          try simp only [Act.put, List.getElem_toArray, List.getElem_cons_zero, List.getElem_cons_succ, List.setIfInBounds_toArray, List.set_cons_zero, List.set_cons_succ]
          refine wpAnyH_strong (S2 := fun w' => Below ybb10.heap.size ybb10 w') (fun w' h' => Bbb10.out.trans (h'.mono Bbb10.out.size)) _ _ _ _ ?_
          have hS : Below ybb10.heap.size ybb10 ybb10 := Below.refl _ _
          refine wpAnyH_take (i := 43) (v := .string (str ([7] ++ putL S))) rfl (by kernel_rfl) (by kernel_rfl) (by kernel_rfl) (fun _ _ _ h => h) (Or.inl ⟨by rfl, ?hybb43⟩) hS ?restbb43
          case hybb43 => (intro w' hSw; have hc := conv8 w' A9 m9 c9 _ (O9.out.to hSw); go_simp; first | done | with_reducible rfl)
          try simp only [Act.put, List.getElem_toArray, List.getElem_cons_zero, List.getElem_cons_succ, List.setIfInBounds_toArray, List.set_cons_zero, List.set_cons_succ]
          refine wpAnyH_take (i := 44) (v := .bool true) rfl (by kernel_rfl) (by kernel_rfl) (by kernel_rfl) (fun _ _ _ h => h) (Or.inl ⟨by rfl, ?hybb44⟩) hS ?restbb44
          case hybb44 => (intro w' hSw; go_simp; first | done | with_reducible rfl)
          try simp only [Act.put, List.getElem_toArray, List.getElem_cons_zero, List.getElem_cons_succ, List.setIfInBounds_toArray, List.set_cons_zero, List.set_cons_succ]
          refine wpAnyH_take (i := 45) (v := .bool true) rfl (by kernel_rfl) (by kernel_rfl) (by kernel_rfl) (fun _ _ _ h => h) (Or.inl ⟨by rfl, ?hybb45⟩) hS ?restbb45
          case hybb45 => (intro w' hSw; go_simp; first | done | with_reducible rfl)
          try simp only [Act.put, List.getElem_toArray, List.getElem_cons_zero, List.getElem_cons_succ, List.setIfInBounds_toArray, List.set_cons_zero, List.set_cons_succ]
          refine wpAnyH_take (i := 46) (v := .bool true) rfl (by kernel_rfl) (by kernel_rfl) (by kernel_rfl) (fun _ _ _ h => h) (Or.inl ⟨by rfl, ?hybb46⟩) hS ?restbb46
          case hybb46 => (intro w' hSw; go_simp; first | done | with_reducible rfl)
          try simp only [Act.put, List.getElem_toArray, List.getElem_cons_zero, List.getElem_cons_succ, List.setIfInBounds_toArray, List.set_cons_zero, List.set_cons_succ]
          refine wpAnyH_ready (rs := [47]) (by kernel_rfl) (by simp) ?_
          refine AllReadyH.cons rfl (fun K hK => ?_) AllReadyH.nil
          go_simp
          refine (awake_ ybb10).mono ?_
          rintro e ybb11 ⟨rfl, bk⟩
          go_wp2_with fail
          have Bbb11 := Lib.hid bk
          refine hK.out _ _ bk ?_
          intro hS
          clear hK K hS bk
          try simp only [Act.put, List.getElem_toArray, List.getElem_cons_zero, List.getElem_cons_succ, List.setIfInBounds_toArray, List.set_cons_zero, List.set_cons_succ]
          refine wpAnyH_strong (S2 := fun w' => Below ybb11.heap.size ybb11 w') (fun w' h' => Bbb11.out.trans (h'.mono Bbb11.out.size)) _ _ _ _ ?_
          have hS : Below ybb11.heap.size ybb11 ybb11 := Below.refl _ _
          refine wpAnyH_take (i := 48) (v := .bool true) rfl (by kernel_rfl) (by kernel_rfl) (by kernel_rfl) (fun _ _ _ h => h) (Or.inl ⟨by rfl, ?hybb48⟩) hS ?restbb48
          case hybb48 => (intro w' hSw; go_simp; first | done | with_reducible rfl)
          try simp only [Act.put, List.getElem_toArray, List.getElem_cons_zero, List.getElem_cons_succ, List.setIfInBounds_toArray, List.set_cons_zero, List.set_cons_succ]
          refine wpAnyH_take (i := 49) (v := ?vbb49) rfl (by kernel_rfl) (by kernel_rfl) (by kernel_rfl) (fun _ _ _ h => h) (Or.inl ⟨by rfl, ?hybb49⟩) hS ?restbb49
          case hybb49 => (intro w' hSw; go_simp; first | done | with_reducible rfl)
          try simp only [Act.put, List.getElem_toArray, List.getElem_cons_zero, List.getElem_cons_succ, List.setIfInBounds_toArray, List.set_cons_zero, List.set_cons_succ]
          refine wpAnyH_done (by kernel_rfl) (NoPanic.normal ?_) _
          have BXt : Hid (Below v2.heap.size v2 ybb11) := BX0.out.trans ((Bb1.out.trans ((Bb2.out.trans ((Bb3.out.trans ((Bb4.out.trans ((Bb5.out.trans ((Bb6.out.trans ((Bbb7.out.trans ((Bbb8.out.trans ((Bbb9.out.trans ((Bbb10.out.trans (Bbb11.out.mono Bbb10.out.size)).mono Bbb9.out.size)).mono Bbb8.out.size)).mono Bbb7.out.size)).mono Bb6.out.size)).mono Bb5.out.size)).mono Bb4.out.size)).mono Bb3.out.size)).mono Bb2.out.size)).mono Bb1.out.size)).mono BX0.out.size)
          go_wp2_with fail
          go_ret
          refine ⟨rfl, ?_⟩
          have hbw := B1.out.trans (hb.out.mono B1.out.size)
          exact hbw.trans ((B2.out.trans (BXt.out.mono B2.out.size)).mono hbw.size)
end Go.Proofs.Ytabcbpcfleociaa
