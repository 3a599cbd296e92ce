/- The law's steps, one behind another, in the book and in the document's: played. -/
import Derived.Test.YtabcbpcfleociaaPlC
import Derived.Test.YtabcbpcfleociaaFro
namespace Go.Proofs.Ytabcbpcfleociaa
open Go.RowKit
attribute [local go_sem ↓] Go.wp_at_zero Go.wp_at_succ
set_option linter.unusedSimpArgs false
set_option linter.unusedVariables false
/-- What is known, and what was hashed, behind some steps. -/
inductive Reach : Nat → Bk → List (List UInt8) → Prop
  | nil : Reach 0 [] []
  | step {n : Nat} {S : Bk} {hs : List (List UInt8)} (l : Ln) : Reach n S hs → Reach (n + 1) (takeS S (checkH S hs l) l) (takeH S (checkH S hs l) l)
theorem Reach.ok {n : Nat} {S : Bk} {hs : List (List UInt8)} (h : Reach n S hs) : S.ok := by
  induction h with
  | nil => exact Bk.ok.nil
  | step l h ih => exact takeS_ok ih _ _
theorem Reach.len {n : Nat} {S : Bk} {hs : List (List UInt8)} (h : Reach n S hs) : S.length ≤ n ∧ hs.length ≤ 2 * n := by
  induction h with
  | nil => simp
  | @step n S hs l h ih =>
    have h1 := takeS_len S (checkH S hs l) l
    have h2 := takeH_len S (checkH S hs l) l
    have h3 := checkH_len S hs l
    omega
theorem Play.keep {w w' : World} {B : Nat} {p : Pl} {S : Bk} {hs : List (List UInt8)} {X o2 o2' X' : List Nat} (h : Play w B p S hs X) (hf : Fr o2 w w' o2') (h1 : ∀ k, k ∈ o2 → k ∈ X) (h3 : ∀ k, k ∈ X' → k ∈ X ∨ w.heap.size ≤ k) (h4 : ∀ k, k ∈ X' → k < w'.heap.size) : Play w' B p S hs X' := by
  have s1 : ∀ k, k ∈ o2 → k ∈ p.ob ++ p.oi ++ X := fun k hk => List.mem_append.2 (Or.inr (h1 k hk))
  have s2 : ∀ k, k ∈ p.ob ++ p.oi ++ X' → k ∈ p.ob ++ p.oi ++ X ∨ w.heap.size ≤ k := fun k hk => by
    rcases List.mem_append.1 hk with h5 | h5
    · exact Or.inl (List.mem_append.2 (Or.inl h5))
    · exact (h3 k h5).imp (fun h6 => List.mem_append.2 (Or.inr h6)) id
  exact ⟨h.pr.keep hf h1 h3 h4, h.rk.fr hf s1 s2, h.vt.fr hf s1 s2, h.vc, h.lo⟩
/-- What is read stays clear of the blocks that lie at or above a base. -/
theorem Rd.lowN {w : World} {B n : Nat} {A : Option Addr} {xs : List Value} {no : List Nat} (h : Rd w B 1 A n xs) (hB : B ≤ w.heap.size) (hno : ∀ k, k ∈ no → B ≤ k) : RdN no w 1 A n xs := by
  refine ⟨h.more hB, fun b o h0 e hm => ?_⟩
  obtain ⟨b', o', e', hb', _⟩ := h.2 h0
  rw [e] at e'
  injection e' with e'
  injection e' with e1
  have := hno b hm
  omega
/-- How long the slices in the steps are. -/
def Reaches (w : World) (A : Option Addr) (n : Nat) : Prop := ∀ (i b o : Nat) (Ap : Option Addr) (np cp : Nat) (Ab : Option Addr) (nb cb : Nat), i < n → A = some ⟨b, o, none⟩ → w.cell? ⟨b, o + i * 6 + 3, none⟩ = some (.slice Ap np cp) → w.cell? ⟨b, o + i * 6 + 4, none⟩ = some (.slice Ab nb cb) → np ≤ 140737488351232 ∧ nb ≤ 140737488351232
theorem RdD.more {w : World} {B B' n : Nat} {A : Option Addr} {ls : List Dn} (h : RdD w B A n ls) (hB : B ≤ B') : RdD w B' A n ls := by
  refine ⟨h.1, fun i x hx => ?_⟩
  obtain ⟨b, o, Ap, np, cp, Ab, nb, cb, e, hb, hr, i1, i2, i3, r1, l1, r2, l2⟩ := h.2 i x hx
  exact ⟨b, o, Ap, np, cp, Ab, nb, cb, e, Nat.lt_of_lt_of_le hb hB, hr, i1, i2, i3, r1.more hB, l1, r2.more hB, l2⟩
theorem Reaches.to {w w' : World} {B n : Nat} {A : Option Addr} {ls : List Dn} (h : Reaches w A n) (hr : RdD w B A n ls) (hb : Below B w w') : Reaches w' A n := by
  intro i b o Ap np cp Ab nb cb hi ha h3 h4
  have hl : i < ls.length := by rw [hr.1]; exact hi
  obtain ⟨b', o', Ap', np', cp', Ab', nb', cb', e, hB, _⟩ := hr.2 i ls[i] (List.getElem?_eq_getElem hl)
  rw [ha] at e
  injection e with e
  injection e with e1 e2
  subst e1
  refine h i b o Ap np cp Ab nb cb hi ha ?_ ?_
  · rw [← h3]; exact (World.cell?_of_block (a := ⟨b, o + i * 6 + 3, none⟩) (hb.block b hB)).symm
  · rw [← h4]; exact (World.cell?_of_block (a := ⟨b, o + i * 6 + 4, none⟩) (hb.block b hB)).symm
set_option maxRecDepth 8000 in
set_option maxHeartbeats 4000000 in
theorem played_ (A : Option Addr) (n c : Nat) (ls : List Dn) (w : World) (hr : RdD w w.heap.size A n ls) (hre : Reaches w A n) (hn : n ≤ 40) :
    Calls Try.prog 40 #[.slice A n c] w fun e w' => ∃ p S hs, e = .returned (.tuple #[plV p, .bool true]) ∧ Play w' w.heap.size p S hs [] ∧ Reach n S hs ∧ Below w.heap.size w w' := by
  obtain ⟨W, hW⟩ : ∃ W, Hid (W = w.alloc (.cells #[.pointer none, .pointer none, .slice none 0 0, .slice none 0 0, .int .i64 0] 35)) := ⟨_, Lib.hid rfl⟩
  obtain ⟨G, hG⟩ : ∃ g, Hid (g = w.heap.size) := ⟨_, Lib.hid rfl⟩
  have BW : Hid (Below w.heap.size w W) := by rw [hW.out]; exact (Below.refl _ _).alloc (Nat.le_refl _) _
  have RW : Hid (W.heap[G]? = some (.cells #[.pointer none, .pointer none, .slice none 0 0, .slice none 0 0, .int .i64 0] 35 (0, 0))) := by unfold Hid; rw [hW.out, hG.out]; exact heap_alloc_new _ _
  have hGW : Hid (G < W.heap.size) := lt_of_blk RW.out
  have HX : Hid (∀ k, k ∈ [G] → k < W.heap.size) := fun k hk => by simp at hk; exact hk ▸ hGW.out
  have HR := Lib.hid hr
  have HRE := Lib.hid hre
  have HN := Lib.hid hn
  clear hr hre
  go_enter Try.func40, Try.ntmps40
  go_wp2_with fail
  rw [← hW.out, ← hG.out]
  refine (begun_ [G] W HX.out).mono ?_
  rintro e u ⟨p, rfl, hp, bu⟩
  have P0 := Lib.hid hp
  have BU := Lib.hid bu
  clear hp bu
  unfold plV
  go_wp2_with fail
  obtain ⟨U, hU⟩ : ∃ U, Hid (U = u.alloc (.cells #[.pointer (some ⟨p.gb, 0, none⟩), .pointer (some ⟨p.gi, 0, none⟩), .slice p.A p.n p.c, .slice p.V p.vn p.vc, .int .i64 0] 35)) := ⟨_, Lib.hid rfl⟩
  obtain ⟨G4, hG4⟩ : ∃ g, Hid (g = u.heap.size) := ⟨_, Lib.hid rfl⟩
  rw [← hU.out, ← hG4.out]
  have BU1 : Below u.heap.size u U := by rw [hU.out]; exact (Below.refl _ _).alloc (Nat.le_refl _) _
  have RU : Hid (U.heap[G4]? = some (.cells (plC p).toArray 35 (0, 0))) := by unfold Hid; rw [hU.out, hG4.out]; exact heap_alloc_new _ _
  have P1 : Hid (Play U W.heap.size p [] [] [G4, G]) := P0.out.keep (Fr.below (own := []) BU1) (fun _ h => absurd h (by simp)) (fun k hk => by rcases List.mem_cons.1 hk with h | h; exact Or.inr (by rw [h, hG4.out]; exact Nat.le_refl _); exact Or.inl h) (fun k hk => by rcases List.mem_cons.1 hk with h | h; rw [h]; exact lt_of_blk RU.out; exact Nat.lt_of_lt_of_le (HX.out k h) (Nat.le_trans BU.out.size BU1.size))
  have RG : Hid (U.heap[G]? = some (.cells #[.pointer none, .pointer none, .slice none 0 0, .slice none 0 0, .int .i64 0] 35 (0, 0))) := (BU1.block G (Nat.lt_of_lt_of_le hGW.out BU.out.size)).trans ((BU.out.block G hGW.out).trans RW.out)
  have BUw : Hid (Below w.heap.size w U) := BW.out.trans ((BU.out.trans (BU1.mono BU.out.size)).mono BW.out.size)
  have hG44 : Hid (W.heap.size ≤ G4) := by rw [hG4.out]; exact BU.out.size
  have hG4w : Hid (w.heap.size ≤ G4) := by rw [hG4.out]; exact Nat.le_trans BW.out.size BU.out.size
  clear BU1 hU P0 BU
  go_wp2_with fail
  go_loopw [5, 13] (fun x5 x13 wr => ∃ (i : Nat) (q : Pl) (S : Bk) (hs : List (List UInt8)), x5 = .bool true ∧ x13 = .int .i64 i ∧ i ≤ n ∧ Hid (Play wr W.heap.size q S hs [G4, G]) ∧ Hid (Reach i S hs) ∧ Hid (wr.heap[G4]? = some (.cells (plC q).toArray 35 (0, 0))) ∧ Hid (wr.heap[G]? = some (.cells #[.pointer none, .pointer none, .slice none 0 0, .slice none 0 0, .int .i64 0] 35 (0, 0))) ∧ Hid (Below w.heap.size w wr)) (fun _ x13 _ => n - (intOf x13).toNat)
  case atStart => exact ⟨0, p, [], [], rfl, rfl, by omega, P1, Reach.nil, RU, RG, BUw⟩
  case round =>
    obtain ⟨i, q, S, hs, rfl, rfl, hi, HP, HRe, R4, R2, hb⟩ := hrel
    by_cases hin : i < n
    · have hin' : (i : Int) < (n : Int) := by omega
      have hi0 : (0 : Int) ≤ (i : Int) := by omega
      have e8 : IntKind.i64.wrap ((i : Int) + 1) = ((i + 1 : Nat) : Int) := by rw [IntWalk.i64_in _ (by omega)]; omega
      obtain ⟨x, hx⟩ : ∃ x, ls[i]? = some x := ⟨_, List.getElem?_eq_getElem (by rw [HR.out.1]; exact hin)⟩
      obtain ⟨b, o, Ap, np, cp, Ab, nb, cb, rfl, hB, hrg, _, _, _, rp, _, rb, _⟩ := HR.out.2 i x hx
      have hww : ∀ j v, (lnC x.l Ap np cp Ab nb cb ++ [Value.bool x.nx])[j]? = some v → wr.cell? ⟨b, o + i * 6 + j, none⟩ = some v := fun j v hj => (World.cell?_of_block (a := ⟨b, o + i * 6 + j, none⟩) (hb.out.block b hB)).trans (hrg j v hj)
      have hle := Lib.hid (HRE.out i b o Ap np cp Ab nb cb hin rfl (hrg 3 _ rfl) (hrg 4 _ rfl))
      have c0 : wr.cell? ⟨b, o + i * 6, none⟩ = some (.int .i64 x.l.au) := hww 0 _ rfl
      have c1 : wr.cell? ⟨b, o + i * 6 + 1, none⟩ = some (.int .i64 x.l.sq) := hww 1 _ rfl
      have c2 : wr.cell? ⟨b, o + i * 6 + 2, none⟩ = some (.int .i64 x.l.ep) := hww 2 _ rfl
      have c3 : wr.cell? ⟨b, o + i * 6 + 3, none⟩ = some (.slice Ap np cp) := hww 3 _ rfl
      have c4 : wr.cell? ⟨b, o + i * 6 + 4, none⟩ = some (.slice Ab nb cb) := hww 4 _ rfl
      have c5 : wr.cell? ⟨b, o + i * 6 + 5, none⟩ = some (.bool x.nx) := hww 5 _ rfl
      have RP := Lib.hid rp
      have RB := Lib.hid rb
      clear hx hB hrg rp rb hww
      obtain ⟨V, hV⟩ : ∃ V, Hid (V = wr.alloc (.cells #[.int .i64 x.l.au, .int .i64 x.l.sq, .int .i64 x.l.ep, .slice Ap np cp, .slice Ab nb cb, .bool x.nx] 42)) := ⟨_, Lib.hid rfl⟩
      have BV : Hid (Below wr.heap.size wr V) := by rw [hV.out]; exact (Below.refl _ _).alloc (Nat.le_refl _) _
      have V4 : Hid (V.heap[G4]? = some (.cells (plC q).toArray 35 (0, 0))) := (BV.out.block G4 (lt_of_blk R4.out)).trans R4.out
      have V2 : Hid (V.heap[G]? = some (.cells #[.pointer none, .pointer none, .slice none 0 0, .slice none 0 0, .int .i64 0] 35 (0, 0))) := (BV.out.block G (lt_of_blk R2.out)).trans R2.out
      have d0 : V.cell? ⟨G4, 0, none⟩ = some (.pointer (some ⟨q.gb, 0, none⟩)) := cell_blk V4.out 0 rfl
      have d1 : V.cell? ⟨G4, 1, none⟩ = some (.pointer (some ⟨q.gi, 0, none⟩)) := cell_blk V4.out 1 rfl
      have d2 : V.cell? ⟨G4, 2, none⟩ = some (.slice q.A q.n q.c) := cell_blk V4.out 2 rfl
      have d3 : V.cell? ⟨G4, 3, none⟩ = some (.slice q.V q.vn q.vc) := cell_blk V4.out 3 rfl
      have d4 : V.cell? ⟨G4, 4, none⟩ = some (.int .i64 0) := cell_blk V4.out 4 rfl
      rw [hV.out] at d0 d1 d2 d3 d4
      go_wp2_with fail
      clear c0 c1 c2 c3 c4 c5 d0 d1 d2 d3 d4
      rw [← hV.out]
      have HPV : Hid (Play V W.heap.size q S hs [G4, G]) := HP.out.below BV.out
      have hlow : Hid (∀ k, k ∈ q.ob ++ q.oi ++ [G4, G] → w.heap.size ≤ k) := fun k hk => by
        rcases List.mem_append.1 hk with h | h
        · exact Nat.le_trans BW.out.size (HPV.out.lo k h)
        · simp at h; rcases h with h | h
          · rw [h]; exact hG4w.out
          · rw [h, hG.out]; exact Nat.le_refl _
      have BwV : Hid (Below w.heap.size w V) := hb.out.trans (BV.out.mono hb.out.size)
      have hWV : Hid (W.heap.size ≤ V.heap.size) := by
        rcases Nat.lt_or_ge V.heap.size W.heap.size with h | h
        · have h1 := HPV.out.pr.bk.lt q.gb (by obtain ⟨b', n', f', hv⟩ := HPV.out.pr.bk; exact hv.og)
          have h2 := HPV.out.lo q.gb (List.mem_append.2 (Or.inl (by obtain ⟨b', n', f', hv⟩ := HPV.out.pr.bk; exact hv.og)))
          exact absurd h (by omega)
        · exact h
      refine (does_ W.heap.size q S hs [G4, G] x.l x.nx Ap np cp Ab nb cb V HPV.out HRe.out.ok hWV.out ((RP.out.below BwV.out).lowN BwV.out.size hlow.out) ((RB.out.below BwV.out).lowN BwV.out.size hlow.out) (by have h1 := HPV.out.rk.len; have h2 := HRe.out.len; omega) (by have h1 := HPV.out.vt.len; have h2 := HRe.out.len; omega) hle.out.1 hle.out.2).mono ?_
      rintro e v ⟨q', rfl, hp', hgb, hgi, hf'⟩
      clear hgb hgi
      have HP' := Lib.hid hp'
      have F' := Lib.hid hf'
      have v4 : v.heap[G4]? = some (.cells (plC q).toArray 35 (0, 0)) := (hf'.block G4 (lt_of_blk V4.out) (fun hm => by
        rcases List.mem_append.1 hm with h | h
        · exact (HPV.out.pr.xd G4 (by simp)).1 h
        · exact (HPV.out.pr.xd G4 (by simp)).2 h)).trans V4.out
      have v2 : v.heap[G]? = some (.cells #[.pointer none, .pointer none, .slice none 0 0, .slice none 0 0, .int .i64 0] 35 (0, 0)) := (hf'.block G (lt_of_blk V2.out) (fun hm => by
        rcases List.mem_append.1 hm with h | h
        · exact (HPV.out.pr.xd G (by simp)).1 h
        · exact (HPV.out.pr.xd G (by simp)).2 h)).trans V2.out
      clear hp' hf'
      unfold plV
      obtain ⟨Y, hY⟩ : ∃ Y, Hid (Y = v.alloc (.cells #[.pointer (some ⟨q'.gb, 0, none⟩), .pointer (some ⟨q'.gi, 0, none⟩), .slice q'.A q'.n q'.c, .slice q'.V q'.vn q'.vc, .int .i64 0] 35)) := ⟨_, Lib.hid rfl⟩
      have BY : Hid (Below v.heap.size v Y) := by rw [hY.out]; exact (Below.refl _ _).alloc (Nat.le_refl _) _
      have Y4 : Hid (Y.heap[G4]? = some (.cells (plC q).toArray 35 (0, 0))) := (BY.out.block G4 (lt_of_blk v4)).trans v4
      have Y2 : Hid (Y.heap[G]? = some (.cells #[.pointer none, .pointer none, .slice none 0 0, .slice none 0 0, .int .i64 0] 35 (0, 0))) := (BY.out.block G (lt_of_blk v2)).trans v2
      clear v4 v2
      have y4 := Y4.out
      rw [hY.out] at y4
      go_wp2_with (refine wpList_store_row rfl 35 (.tmp 4) (.tmp 23) rfl G4 (plC q').toArray rfl (by first | rfl | kernel_rfl) _ _ y4 (by kernel_rfl) rfl (by kernel_rfl) ?_)
      rw [← hY.out]
      obtain ⟨Z, hZ⟩ : ∃ Z, Hid (Z = Y.setRow G4 (plC q').toArray) := ⟨_, Lib.hid rfl⟩
      rw [← hZ.out]
      have FZ : Hid (Fr [G4] Y Z [G4]) := by rw [hZ.out]; exact setRow_fr _ _ _
      have Z4 : Hid (Z.heap[G4]? = some (.cells (plC q').toArray 35 (0, 0))) := by unfold Hid; rw [hZ.out]; exact setRow_heap _ _ _ _ _ _ Y4.out
      have hGG : Hid (G ≠ G4) := by have h1 := hGW.out; have h2 := P1.out.pr.xl G4 (by simp); have h3 := hG4w.out; have h4 := hG.out; have h5 := hG44.out; unfold Hid; omega
      have Z2 : Hid (Z.heap[G]? = some (.cells #[.pointer none, .pointer none, .slice none 0 0, .slice none 0 0, .int .i64 0] 35 (0, 0))) := (FZ.out.block G (lt_of_blk Y2.out) (by have := hGG.out; simp [this])).trans Y2.out
      have PZ : Hid (Play Z W.heap.size q' (takeS S (checkH S hs (linkL S x.l x.nx)) (linkL S x.l x.nx)) (takeH S (checkH S hs (linkL S x.l x.nx)) (linkL S x.l x.nx)) [G4, G]) := (HP'.out.below BY.out).keep FZ.out (fun k hk => by simp at hk; simp [hk]) (fun k hk => Or.inl hk) (fun k hk => Nat.lt_of_lt_of_le ((HP'.out.below BY.out).pr.xl k hk) FZ.out.size)
      have FV : Fr (q.ob ++ q.oi) V Y (q'.ob ++ q'.oi) := F'.out.trans (Fr.below BY.out)
      have BZ : Hid (Below w.heap.size w Z) := (BwV.out.trans ((FV.toBelow (fun k hk => Nat.le_trans BW.out.size (HPV.out.lo k hk)) BwV.out.size))).trans (FZ.out.toBelow (fun k hk => by simp at hk; rw [hk]; exact hG4w.out) (Nat.le_trans BwV.out.size FV.size))
      go_roundw
      case rel => exact ⟨i + 1, q', _, _, rfl, by go_num, hin, PZ, HRe.out.step _, Z4, Z2, BZ⟩
      case measure => simp only [intOf]; omega
    · have hiS : Hid (i = n) := (by omega : i = n)
      have hin' : ¬ (i : Int) < (n : Int) := by omega
      have d0 : wr.cell? ⟨G4, 0, none⟩ = some (.pointer (some ⟨q.gb, 0, none⟩)) := cell_blk R4.out 0 rfl
      have d1 : wr.cell? ⟨G4, 1, none⟩ = some (.pointer (some ⟨q.gi, 0, none⟩)) := cell_blk R4.out 1 rfl
      have d2 : wr.cell? ⟨G4, 2, none⟩ = some (.slice q.A q.n q.c) := cell_blk R4.out 2 rfl
      have d3 : wr.cell? ⟨G4, 3, none⟩ = some (.slice q.V q.vn q.vc) := cell_blk R4.out 3 rfl
      have d4 : wr.cell? ⟨G4, 4, none⟩ = some (.int .i64 0) := cell_blk R4.out 4 rfl
      have r2 := R2.out
      go_wp2_with (refine wpList_store_row rfl 35 (.tmp 2) (.tmp 29) rfl G (plC q).toArray rfl (by first | rfl | kernel_rfl) _ _ r2 (by kernel_rfl) rfl (by kernel_rfl) ?_)
      generalize hZ : World.setRow _ _ _ = Z
      have FZ : Fr [G] wr Z [G] := by rw [← hZ]; exact setRow_fr _ _ _
      have Zg : Z.heap[G]? = some (.cells (plC q).toArray 35 (0, 0)) := by rw [← hZ]; exact setRow_heap _ _ _ _ _ _ r2
      refine bodyPost_ret (v := .tuple #[plV q, .bool true]) (results_cell_tmp Try.results40 rfl (run_loadVar_mid (P := Try.prog) Z G 0 35 _ _ (range_of Zg) Try.underlying35 rfl (by kernel_rfl))) rfl ?_
      have hRe := HRe.out
      rw [hiS.out] at hRe
      have hP := HP.out.keep FZ (fun k hk => by simp at hk; simp [hk]) (X' := []) (fun k hk => absurd hk (by simp)) (fun k hk => absurd hk (by simp))
      refine ⟨q, rfl, S, hs, ⟨hP.pr, hP.rk, hP.vt, hP.vc, fun k hk => Nat.le_trans BW.out.size (hP.lo k hk)⟩, hRe, hb.out.trans (FZ.toBelow (fun k hk => by simp at hk; rw [hk, hG.out]; exact Nat.le_refl _) hb.out.size)⟩
end Go.Proofs.Ytabcbpcfleociaa
