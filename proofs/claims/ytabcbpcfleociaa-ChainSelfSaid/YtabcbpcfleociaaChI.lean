/- A book's put, Take. (Printed by gen_chi.py.) -/
import Derived.Test.YtabcbpcfleociaaChH
namespace Go.Proofs.Ytabcbpcfleociaa
open Go.RowKit Go.Maps
attribute [local go_sem ↓] Go.wp_at_zero Go.wp_at_succ
set_option linter.unusedSimpArgs false
set_option linter.unusedVariables false
/-- A block's cells that a change elsewhere leaves. -/
theorem range_fr {w w' : World} {g o : Nat} {cs : List Value} {own own' : List Nat} (h : w.rangeAt g o cs) (hf : Fr own w w' own') (hg : g < w.heap.size) (hn : g ∉ own) : w'.rangeAt g o cs := fun j v hj => (World.cell?_of_block (a := ⟨g, o + j, none⟩) (hf.block g hg hn)).trans (h j v hj)
theorem range_gr {w w' : World} {g o : Nat} {cs : List Value} {r : Option Nat} (h : w.rangeAt g o cs) (hf : w.grownBy w' r) (hg : g < w.heap.size) (hn : r ≠ some g) : w'.rangeAt g o cs := fun j v hj => (World.cell?_of_block (a := ⟨g, o + j, none⟩) (hf.block g hg (fun e => hn e.symm))).trans (h j v hj)
theorem IdealV.ca {w : World} {g : Nat} {hs : List (List UInt8)} {own R : List Nat} {A : Option Addr} {c b : Nat} {Qs : List (Option Addr × Nat)} {f : Lit → Value} (h : IdealV w g hs own R A c b Qs f) : True := trivial
theorem ofA_snoc (S : Bk) (a b : Int) (k : Kn) : ofA (S ++ [(a, k)]) b = if b = a then ofA S b ++ [k] else ofA S b := by
  rw [ofA_app, ofA_one]
  by_cases h : a = b
  · rw [if_pos h, if_pos h.symm]
  · rw [if_neg h, if_neg (fun e => h e.symm), List.append_nil]
theorem alloc2 (w : World) (o : Obj) (z : Array Value) (t : TypeId) : ((w.alloc o).alloc (.cells z t)).heap[w.heap.size + 1]? = some (.cells z t (0, 0)) := by
  have := heap_alloc_new (w.alloc o) (.cells z t)
  rwa [szAlloc] at this
theorem zero65 (x : Int) : Try.zeroCells114.setIfInBounds 64 (.int .i64 x) = (knC (kn0 x)).toArray := by kernel_rfl
theorem Fr.set {own own' : List Nat} {w u v : World} {r : Nat} (h : Fr own w u own') (hg : u.grownBy v (some r)) (hr : w.heap.size ≤ r) : Fr own w v own' :=
  ⟨hg.os.trans h.os, hg.tape.trans h.tape, hg.output.trans h.output, Nat.le_trans h.size hg.size, fun k hk hn => (hg.block k (Nat.lt_of_lt_of_le hk h.size) (fun e => by injection e with e; omega)).trans (h.block k hk hn), h.sub⟩
theorem Fr.one {w w' : World} {r : Nat} (h : w.grownBy w' (some r)) : Fr [r] w w' [r] := Fr.grown h (fun r' e => by injection e with e; exact Or.inl (by simp [e])) (fun k hk => Or.inl hk)
theorem BookV.ne {w : World} {g : Nat} {S : Bk} {own R : List Nat} {b n : Nat} {f : Lit → Value} (h : BookV w g S own R b n f) : g ≠ b := by
  intro e
  obtain ⟨D, ⟨es, clock, hb, _⟩, _⟩ := h.map
  have := h.blk
  rw [e, hb] at this
  cases this
/-- The book behind a map's update. -/
theorem BookV.put {w w1 w2 : World} {g : Nat} {S : Bk} {own R : List Nat} {b n : Nat} {f : Lit → Value} (h : BookV w g S own R b n f) {a : Int} {k : Kn} (ha : 0 ≤ a ∧ a < 5) (hk : k.ok) (hs : S.length < 1048576) {A : Option Addr} {c : Nat}
    (ho : w1.ownsRow w.heap.size 114 65 (.slice A ((ofA S a).length + 1) c) ((ofA S a).length + 1) ((ofA S a).flatMap knC ++ knC k)) (hg : w.grownBy w1 none)
    (hm : MapV Try.prog 3 w2 b (n + 1) (.slice none 0 0) (updV f (.int .i64 a) (.slice A ((ofA S a).length + 1) c))) (h2 : w1.grownBy w2 (some b)) (hgb : g ≠ b) (hR : ∀ k, k ∈ R → k < w.heap.size) :
    BookV w2 g (S ++ [(a, k)]) own R b (n + 1) (updV f (.int .i64 a) (.slice A ((ofA S a).length + 1) c)) := by
  have hb1 : Below w.heap.size w w1 := ⟨hg.os, hg.tape, hg.output, hg.size, fun k hk => hg.block k hk (by simp)⟩
  have h1 := h.below hb1
  have hF2 : Fr [b] w1 w2 [b] := Fr.grown h2 (fun r e => by injection e with e; exact Or.inl (by simp [e])) (fun k hk => Or.inl hk)
  refine ⟨(hF2.block g (h1.lt g h1.og) (by simp [hgb])).trans h1.blk, hm, ?_, by simp; omega, fun x => ?_, h.ok.app ha hk, h.og, h.ob, fun k hk => Nat.lt_of_lt_of_le (h1.lt k hk) hF2.size⟩
  · have := h.le; simp; omega
  · rw [ofA_snoc]
    by_cases e : x = a
    · subst e
      rw [if_pos rfl, updV_same]
      refine ⟨A, c, by simp, by rw [List.length_append]; exact own_cap ho, ?_, ?_⟩
      · rw [List.length_append, List.flatMap_append]
        have hrd := Rd.of_own ho
        rw [show [k].flatMap knC = knC k by simp]
        refine (hrd.same fun b' o' _ e1 => hF2.block b' ?_ ?_).more hF2.size
        · obtain ⟨g', e2, _, h4⟩ := own_addr ho (by omega)
          rw [e1] at e2; injection e2 with e2; injection e2 with e3; omega
        · obtain ⟨g', e2, h3, _⟩ := own_addr ho (by omega)
          rw [e1] at e2; injection e2 with e2; injection e2 with e3
          have := h.lt b h.ob
          simp; omega
      · intro b' o' _ e1 hm'
        obtain ⟨g', e2, h3, _⟩ := own_addr ho (by omega)
        rw [e1] at e2; injection e2 with e2; injection e2 with e3
        rcases List.mem_append.1 hm' with h4 | h4
        · have := h.lt b' h4; omega
        · have := hR b' h4; omega
    · rw [if_neg e, updV_other _ _ (by intro h5; injection h5 with h5 h6; exact e h6)]
      obtain ⟨A2, c2, e2, hc2, hr2⟩ := h1.rows x
      exact ⟨A2, c2, e2, hc2, hr2.go hF2 (fun k hk => by simp at hk; subst hk; exact List.mem_append.2 (Or.inl h.ob))⟩
set_option maxRecDepth 20000 in
set_option maxHeartbeats 2000000 in
theorem put_ (gb : Nat) (S : Bk) (ob Rb : List Nat) (gi : Nat) (hs : List (List UInt8)) (oi Ri : List Nat) (l : Ln) (A : Option Addr) (n c : Nat) (B : Option Addr) (m d : Nat) (w : World) (hK : BookAt w gb S ob Rb) (hI : IdealAt w gi hs oi Ri)
    (hp : RdN oi w 1 A n (l.pv.map B8)) (hq : RdN oi w 1 B m (l.bd.map B8)) (ho : ∀ k, k ∈ oi → k ∈ Rb) (ho2 : ∀ k, k ∈ ob → k ∈ Ri) (hdj : ∀ k, k ∈ oi → k ∉ ob) (hn : hs.length ≤ 1000000) (hS : S.length < 1048576) (hRi : ∀ k, k ∈ Ri → k < w.heap.size) (hRb : ∀ k, k ∈ Rb → k < w.heap.size) (hr : rightL l) :
    Calls Try.prog 57 #[.pointer (some ⟨gb, 0, none⟩), .iface 27 (.pointer (some ⟨gi, 0, none⟩)), lnV l A n c B m d] w fun e w' => ∃ oi', e = .returned undef ∧ IdealAt w' gi (note hs (bytesL l)) oi' Ri ∧ BookAt w' gb (S ++ [(l.au, knL hs l)]) ob (Rb ++ oi') ∧ Fr (ob ++ oi) w w' (ob ++ oi') ∧ (∀ k, k ∈ oi' → k ∈ oi ∨ w.heap.size ≤ k) := by
  obtain rfl : m = 32 := by have h1 := hq.1.len; rw [List.length_map] at h1; rw [← h1]; exact hr.2.1
  obtain ⟨Y, hY⟩ : ∃ Y, Hid (Y = w.alloc (.cells #[.int .i64 l.au, .int .i64 l.sq, .int .i64 l.ep, .slice A n c, .slice B 32 d] 40)) := ⟨_, Lib.hid rfl⟩
  have BY : Hid (Below w.heap.size w Y) := by rw [hY.out]; exact (Below.refl _ _).alloc (Nat.le_refl _) _
  obtain ⟨G, hG⟩ : ∃ g, Hid (g = w.heap.size) := ⟨_, Lib.hid rfl⟩
  have RY : Hid (Y.rangeAt G 0 [.int .i64 l.au, .int .i64 l.sq, .int .i64 l.ep, .slice A n c, .slice B 32 d]) := by rw [hY.out, hG.out]; exact rangeNew w _ _
  have hGY : Hid (G < Y.heap.size) := by unfold Hid; rw [hG.out, hY.out, szAlloc]; exact Nat.lt_succ_self _
  have hGo : Hid (∀ k, k ∈ oi → k < G) := by unfold Hid; rw [hG.out]; exact note_lt hI
  have hau : Hid (0 ≤ l.au ∧ l.au < 5) := ⟨hr.1.1, hr.1.2.1⟩
  have hbd : Hid (l.bd.length = 32) := hr.2.1
  have HK := Lib.hid hK
  have HI := Lib.hid hI
  have HP := Lib.hid hp
  have HQ := Lib.hid hq
  have HO := Lib.hid ho
  have HO2 := Lib.hid ho2
  have HDJ := Lib.hid hdj
  have HRi := Lib.hid hRi
  have HRb := Lib.hid hRb
  have HN := Lib.hid hn
  have HS := Lib.hid hS
  have Hr := Lib.hid hr
  have hYs : Hid (Y.heap.size = w.heap.size + 1) := by unfold Hid; rw [hY.out, szAlloc]
  have f2 : (w.alloc (.cells #[.int .i64 l.au, .int .i64 l.sq, .int .i64 l.ep, .slice A n c, .slice B 32 d] 40)).cell? ⟨w.heap.size, 2, none⟩ = some (.int .i64 l.ep) := cell_blk (heap_alloc_new w _) 2 rfl
  clear hK hI hp hq ho ho2 hdj hRi hRb hn hS hr
  go_enter Try.func57, Try.ntmps57
  unfold lnV
  go_wp2_with (refine wpList_store_row rfl 114 (.tmp 6) (.tmp 10) rfl (w.heap.size + 1) (Try.zeroCells114.setIfInBounds 64 (.int .i64 l.ep)) rfl rfl _ _ (alloc2 w _ _ _) (by kernel_rfl) (by kernel_rfl) (by kernel_rfl) ?_)
  rw [zero65]
  rw [← hY.out]
  generalize hZ0 : World.setRow _ _ _ = Z
  rw [← hYs.out] at hZ0 ⊢
  obtain ⟨hZk, hZb, hZs⟩ := row_new Y _ _ _ hZ0
  obtain ⟨KB, hKB⟩ : ∃ k, Hid (k = Y.heap.size) := ⟨_, Lib.hid rfl⟩
  rw [← hKB.out] at hZk ⊢
  rw [← hG.out]
  have KZ := Lib.hid hZk
  have RZ := Lib.hid (range_keep RY.out hZb hGY.out)
  have BZ := Lib.hid (BY.out.trans (hZb.mono BY.out.size))
  have hGZ : Hid (G < Z.heap.size) := Nat.lt_of_lt_of_le hGY.out hZb.size
  have hKZ : Hid (KB < Z.heap.size) := lt_of_blk hZk
  have hGK : Hid (G < KB) := by unfold Hid; rw [hKB.out]; exact hGY.out
  have hwG : Hid (w.heap.size ≤ G) := Nat.le_of_eq hG.out.symm
  have IZ : Hid (IdealAt Z gi hs oi (KB :: Ri)) := HI.out.keep (own2 := []) (own2' := []) (Fr.below BZ.out) (fun _ h => absurd h (by simp)) (fun _ h => absurd h (by simp)) (fun k hk => by rcases List.mem_cons.1 hk with h1 | h1; exact Or.inr (by rw [h1]; exact Nat.le_of_lt (Nat.lt_of_le_of_lt hwG.out hGK.out)); exact Or.inl h1)
  clear hZ0 hZk hZb hZs f2
  simp only [Act.put]
  obtain ⟨X, hX⟩ : ∃ W, Hid (W = Z.drew) := ⟨_, Lib.hid rfl⟩
  have dX : Below Z.heap.size Z X := by rw [hX.out]; exact below_drew (Below.refl _ _)
  have RX := Lib.hid (range_keep RZ.out dX hGZ.out)
  have hGX : Hid (G < X.heap.size) := Nat.lt_of_lt_of_le hGZ.out dX.size
  have hKX : Hid (KB < X.heap.size) := Nat.lt_of_lt_of_le hKZ.out dX.size
  have BX := Lib.hid (BZ.out.trans (dX.mono BZ.out.size))
  have KX : Hid (X.heap[KB]? = some (.cells (knC (kn0 l.ep)).toArray 114 (0, 0))) := (dX.block KB hKZ.out).trans KZ.out
  have IX := Lib.hid (IZ.out.below dX)
  have PX := Lib.hid (HP.out.1.to BX.out)
  have QX := Lib.hid (HQ.out.1.to BX.out)
  have HRX : Hid (∀ k, k ∈ KB :: Ri → k < X.heap.size) := fun k hk => by rcases List.mem_cons.1 hk with h1 | h1; exact h1 ▸ hKX.out; exact Nat.lt_of_lt_of_le (HRi.out k h1) BX.out.size
  have hKo : Hid (KB ∉ oi) := fun hm => absurd (hGo.out KB hm) (by have := hGK.out; omega)
  refine wp_region_noPanic ?_
  refine wp_region_held_drew (S := fun w' => w'.rangeAt G 0 [.int .i64 l.au, .int .i64 l.sq, .int .i64 l.ep, .slice A n c, .slice B 32 d]) (by kernel_rfl) (by rw [← hX.out]; exact RX.out) (fun hS => ?_)
  rw [← hX.out]
  clear hS
  have hS : X.rangeAt G 0 [.int .i64 l.au, .int .i64 l.sq, .int .i64 l.ep, .slice A n c, .slice B 32 d] := RX.out
  refine wpAnyH_take (i := 0) (v := ?va0) rfl (by kernel_rfl) (by kernel_rfl) (by kernel_rfl) (fun _ _ _ h => h) (Or.inl ⟨by rfl, ?hya0⟩) hS ?resta0
  case hya0 => (intro w' hSw; go_simp; first | done | with_reducible rfl)
  try simp only [Act.put, List.getElem_toArray, List.getElem_cons_zero, List.getElem_cons_succ, List.setIfInBounds_toArray, List.set_cons_zero, List.set_cons_succ]
  refine wpAnyH_take (i := 1) (v := .slice (some ⟨KB, 0, none⟩) 32 32) rfl (by kernel_rfl) (by kernel_rfl) (by kernel_rfl) (fun _ _ _ h => h) (Or.inl ⟨by rfl, ?hya1⟩) hS ?resta1
  case hya1 => (intro w' hSw; go_simp; first | done | with_reducible rfl)
  try simp only [Act.put, List.getElem_toArray, List.getElem_cons_zero, List.getElem_cons_succ, List.setIfInBounds_toArray, List.set_cons_zero, List.set_cons_succ]
  refine wpAnyH_take (i := 2) (v := ?va2) rfl (by kernel_rfl) (by kernel_rfl) (by kernel_rfl) (fun _ _ _ h => h) (Or.inl ⟨by rfl, ?hya2⟩) hS ?resta2
  case hya2 => (intro w' hSw; go_simp; first | done | with_reducible rfl)
  try simp only [Act.put, List.getElem_toArray, List.getElem_cons_zero, List.getElem_cons_succ, List.setIfInBounds_toArray, List.set_cons_zero, List.set_cons_succ]
  refine wpAnyH_take (i := 3) (v := .agg #[.int .i64 l.au, .int .i64 l.sq, .int .i64 l.ep, .slice A n c, .slice B 32 d]) rfl (by kernel_rfl) (by kernel_rfl) (by kernel_rfl) (fun _ _ _ h => h) (Or.inl ⟨by rfl, ?hya3⟩) hS ?resta3
  case hya3 => (intro w' hSw; have c0 := hSw 0 _ rfl; have c1 := hSw 1 _ rfl; have c2 := hSw 2 _ rfl; have c3 := hSw 3 _ rfl; have c4 := hSw 4 _ rfl; go_simp; first | done | with_reducible rfl)
  try simp only [Act.put, List.getElem_toArray, List.getElem_cons_zero, List.getElem_cons_succ, List.setIfInBounds_toArray, List.set_cons_zero, List.set_cons_succ]
  refine wpAnyH_ready (rs := [4]) (by kernel_rfl) (by simp) ?_
  refine AllReadyH.cons rfl (fun K hK => ?_) AllReadyH.nil
  go_simp
  refine (digest_ gi hs oi (KB :: Ri) l A n c B 32 d X IX.out PX.out QX.out Hr.out HN.out HRX.out).mono ?_
  rintro e u ⟨oi', A6, c6, rfl, o6, i6, f6⟩
  have S6 := range_fr RX.out f6 hGX.out (fun hm => Nat.lt_irrefl _ (hGo.out G hm))
  have K6 : Hid (u.heap[KB]? = some (.cells (knC (kn0 l.ep)).toArray 114 (0, 0))) := (f6.block KB hKX.out hKo.out).trans KX.out
  have O6 := Lib.hid o6.rd
  have I6 := Lib.hid i6
  have F6 : Hid (Fr oi w u oi') := (Fr.below BX.out).trans f6
  have hKo' : Hid (KB ∉ oi') := fun hm => by rcases f6.sub KB hm with h1 | h1; exact hKo.out h1; exact absurd h1 (by have := hKX.out; omega)
  have hsu := f6.size
  clear o6 i6 f6
  go_wp2_with fail
  refine hK.out _ _ S6 ?_
  intro hS
  clear hK K hS
  try simp only [Act.put, List.getElem_toArray, List.getElem_cons_zero, List.getElem_cons_succ, List.setIfInBounds_toArray, List.set_cons_zero, List.set_cons_succ]
  have hS : u.rangeAt G 0 [.int .i64 l.au, .int .i64 l.sq, .int .i64 l.ep, .slice A n c, .slice B 32 d] := S6
  refine wpAnyH_ready (rs := [5]) (by kernel_rfl) (by simp) ?_
  refine AllReadyH.cons rfl (fun K hK => ?_) AllReadyH.nil
  refine step_copy_at (.tmp 12) (.tmp 15) 38 38 rfl rfl 5 Try.underlying38 (by kernel_rfl) KB 0 32 32 A6 c6 rfl rfl (by decide) (knC (kn0 l.ep)) 114 K6.out ((digL hs l).map B8) _ O6.out (by rw [knC_len ⟨List.length_replicate, List.length_replicate, Hr.out.1.2.2.2.2.1, Hr.out.1.2.2.2.2.2⟩]; decide) (oneB _) ?_
  intro v hk hg
  rw [splice_dg (digL_len hs l)] at hk
  have KV := Lib.hid hk
  have FV := Lib.hid (F6.out.set hg (Nat.le_of_lt (Nat.lt_of_le_of_lt hwG.out hGK.out)))
  have IV : Hid (IdealAt v gi (note hs (bytesL l)) oi' (KB :: Ri)) := I6.out.keep (Fr.one hg) (fun k hk => by simp at hk; simp [hk]) (fun k hk => by simp at hk; rw [hk]; exact hKo'.out) (fun k hk => Or.inl hk)
  have SV := range_gr S6 hg (Nat.lt_of_lt_of_le hGX.out hsu) (by intro e; injection e with e; have := hGK.out; omega)
  have hGV : Hid (G < v.heap.size) := Nat.lt_of_lt_of_le (Nat.lt_of_lt_of_le hGX.out hsu) hg.size
  clear hk
  refine hK.out _ _ SV ?_
  intro hS
  clear hK K hS
  try simp only [Act.put, List.getElem_toArray, List.getElem_cons_zero, List.getElem_cons_succ, List.setIfInBounds_toArray, List.set_cons_zero, List.set_cons_succ]
  refine wpAnyH_done (by kernel_rfl) (NoPanic.normal ?_) _
  go_wp2_with fail
  obtain ⟨T, hT⟩ : ∃ W, Hid (W = v.drew) := ⟨_, Lib.hid rfl⟩
  have dT : Below v.heap.size v T := by rw [hT.out]; exact below_drew (Below.refl _ _)
  have RT := Lib.hid (range_keep SV dT hGV.out)
  have hKV : Hid (KB < v.heap.size) := lt_of_blk KV.out
  have KT : Hid (T.heap[KB]? = some (.cells (knC ⟨digL hs l, List.replicate 32 0, l.ep⟩).toArray 114 (0, 0))) := (dT.block KB hKV.out).trans KV.out
  have IT := Lib.hid (IV.out.below dT)
  have FT : Hid (Fr oi w T oi') := FV.out.trans (Fr.below dT)
  have hGT : Hid (G < T.heap.size) := Nat.lt_of_lt_of_le hGV.out dT.size
  have QT := Lib.hid (HQ.out.go FT.out (fun k hk => hk)).1
  refine wp_region_noPanic ?_
  refine wp_region_held_drew (S := fun w' => w'.rangeAt G 0 [.int .i64 l.au, .int .i64 l.sq, .int .i64 l.ep, .slice A n c, .slice B 32 d]) (by kernel_rfl) (by rw [← hT.out]; exact RT.out) (fun hS => ?_)
  rw [← hT.out]
  clear hS
  have hS : T.rangeAt G 0 [.int .i64 l.au, .int .i64 l.sq, .int .i64 l.ep, .slice A n c, .slice B 32 d] := RT.out
  refine wpAnyH_take (i := 0) (v := ?vb0) rfl (by kernel_rfl) (by kernel_rfl) (by kernel_rfl) (fun _ _ _ h => h) (Or.inl ⟨by rfl, ?hyb0⟩) hS ?restb0
  case hyb0 => (intro w' hSw; go_simp; first | done | with_reducible rfl)
  try simp only [Act.put, List.getElem_toArray, List.getElem_cons_zero, List.getElem_cons_succ, List.setIfInBounds_toArray, List.set_cons_zero, List.set_cons_succ]
  refine wpAnyH_take (i := 1) (v := .slice (some ⟨KB, 32, none⟩) 32 32) rfl (by kernel_rfl) (by kernel_rfl) (by kernel_rfl) (fun _ _ _ h => h) (Or.inl ⟨by rfl, ?hyb1⟩) hS ?restb1
  case hyb1 => (intro w' hSw; go_simp; first | done | with_reducible rfl)
  try simp only [Act.put, List.getElem_toArray, List.getElem_cons_zero, List.getElem_cons_succ, List.setIfInBounds_toArray, List.set_cons_zero, List.set_cons_succ]
  refine wpAnyH_take (i := 2) (v := ?vb2) rfl (by kernel_rfl) (by kernel_rfl) (by kernel_rfl) (fun _ _ _ h => h) (Or.inl ⟨by rfl, ?hyb2⟩) hS ?restb2
  case hyb2 => (intro w' hSw; go_simp; first | done | with_reducible rfl)
  try simp only [Act.put, List.getElem_toArray, List.getElem_cons_zero, List.getElem_cons_succ, List.setIfInBounds_toArray, List.set_cons_zero, List.set_cons_succ]
  refine wpAnyH_take (i := 3) (v := .slice B 32 d) rfl (by kernel_rfl) (by kernel_rfl) (by kernel_rfl) (fun _ _ _ h => h) (Or.inl ⟨by rfl, ?hyb3⟩) hS ?restb3
  case hyb3 => (intro w' hSw; have c4 := hSw 4 _ rfl; go_simp; first | done | with_reducible rfl)
  try simp only [Act.put, List.getElem_toArray, List.getElem_cons_zero, List.getElem_cons_succ, List.setIfInBounds_toArray, List.set_cons_zero, List.set_cons_succ]
  refine wpAnyH_ready (rs := [4]) (by kernel_rfl) (by simp) ?_
  refine AllReadyH.cons rfl (fun K hK => ?_) AllReadyH.nil
  refine step_copy_at (.tmp 18) (.tmp 20) 38 38 rfl rfl 5 Try.underlying38 (by kernel_rfl) KB 32 32 32 B d rfl rfl (by decide) (knC ⟨digL hs l, List.replicate 32 0, l.ep⟩) 114 KT.out (l.bd.map B8) _ QT.out (by rw [knC_len ⟨digL_len hs l, List.length_replicate, Hr.out.1.2.2.2.2.1, Hr.out.1.2.2.2.2.2⟩]; decide) (oneB _) ?_
  intro x hk hg
  rw [splice_bd (digL_len hs l) hbd.out] at hk
  have KX2 : Hid (x.heap[KB]? = some (.cells (knC (knL hs l)).toArray 114 (0, 0))) := hk
  have FX := Lib.hid (FT.out.set hg (Nat.le_of_lt (Nat.lt_of_le_of_lt hwG.out hGK.out)))
  have IX2 : Hid (IdealAt x gi (note hs (bytesL l)) oi' (KB :: Ri)) := IT.out.keep (Fr.one hg) (fun k hk => by simp at hk; simp [hk]) (fun k hk => by simp at hk; rw [hk]; exact hKo'.out) (fun k hk => Or.inl hk)
  have SX := range_gr RT.out hg hGT.out (by intro e; injection e with e; have := hGK.out; omega)
  have hGX2 : Hid (G < x.heap.size) := Nat.lt_of_lt_of_le hGT.out hg.size
  clear hk
  refine hK.out _ _ SX ?_
  intro hS
  clear hK K hS
  try simp only [Act.put, List.getElem_toArray, List.getElem_cons_zero, List.getElem_cons_succ, List.setIfInBounds_toArray, List.set_cons_zero, List.set_cons_succ]
  refine wpAnyH_done (by kernel_rfl) (NoPanic.normal ?_) _
  go_wp2_with fail
  obtain ⟨U, hU⟩ : ∃ W, Hid (W = x.drew) := ⟨_, Lib.hid rfl⟩
  have dU : Below x.heap.size x U := by rw [hU.out]; exact below_drew (Below.refl _ _)
  have RU := Lib.hid (range_keep SX dU hGX2.out)
  have hGU : Hid (G < U.heap.size) := Nat.lt_of_lt_of_le hGX2.out dU.size
  have hKX2 : Hid (KB < x.heap.size) := lt_of_blk KX2.out
  have KU : Hid (U.heap[KB]? = some (.cells (knC (knL hs l)).toArray 114 (0, 0))) := (dU.block KB hKX2.out).trans KX2.out
  have FU : Hid (Fr oi w U oi') := FX.out.trans (Fr.below dU)
  have IU := Lib.hid (IX2.out.below dU)
  have HKU : Hid (BookAt U gb S ob (Rb ++ oi')) := HK.out.keep FU.out HO.out HDJ.out (fun k hk => by rcases List.mem_append.1 hk with h1 | h1; exact Or.inl h1; exact (FU.out.sub k h1).imp (HO.out k) id)
  obtain ⟨b, nb, f, hv⟩ := HKU.out
  obtain ⟨RA, Rc, ef, hRc, hrow⟩ := hv.rows l.au
  have hbl := cell_blk hv.blk 0 rfl
  have hlk := hv.look ⟨by have := hau.out; omega, by have := hau.out; omega⟩ ef
  have HV := Lib.hid hv
  have HROW := Lib.hid hrow
  have hef := Lib.hid ef
  obtain ⟨L, hL⟩ : ∃ L, Hid ((ofA S l.au).length = L) := ⟨_, Lib.hid rfl⟩
  rw [hL.out] at hlk HROW hRc hef
  have c0 := RU.out 0 _ rfl
  clear hv hrow ef
  refine wp_region_noPanic ?_
  refine wp_region_held_drew (S := fun w' => w' = U) (by kernel_rfl) hU.out.symm (fun hS => ?_)
  rw [← hU.out]
  clear hS
  have hS : U = U := rfl
  refine wpAnyH_take (i := 0) (v := ?vc0) rfl (by kernel_rfl) (by kernel_rfl) (by kernel_rfl) (fun _ _ _ h => h) (Or.inl ⟨by rfl, ?hyc0⟩) hS ?restc0
  case hyc0 => ((intro w' hSw; subst hSw; go_simp; first | done | with_reducible rfl))
  try simp only [Act.put, List.getElem_toArray, List.getElem_cons_zero, List.getElem_cons_succ, List.setIfInBounds_toArray, List.set_cons_zero, List.set_cons_succ]
  refine wpAnyH_take (i := 1) (v := ?vc1) rfl (by kernel_rfl) (by kernel_rfl) (by kernel_rfl) (fun _ _ _ h => h) (Or.inl ⟨by rfl, ?hyc1⟩) hS ?restc1
  case hyc1 => ((intro w' hSw; subst hSw; go_simp; first | done | with_reducible rfl))
  try simp only [Act.put, List.getElem_toArray, List.getElem_cons_zero, List.getElem_cons_succ, List.setIfInBounds_toArray, List.set_cons_zero, List.set_cons_succ]
  refine wpAnyH_take (i := 2) (v := ?vc2) rfl (by kernel_rfl) (by kernel_rfl) (by kernel_rfl) (fun _ _ _ h => h) (Or.inl ⟨by rfl, ?hyc2⟩) hS ?restc2
  case hyc2 => ((intro w' hSw; subst hSw; go_simp; first | done | with_reducible rfl))
  try simp only [Act.put, List.getElem_toArray, List.getElem_cons_zero, List.getElem_cons_succ, List.setIfInBounds_toArray, List.set_cons_zero, List.set_cons_succ]
  refine wpAnyH_take (i := 3) (v := .map (some b)) rfl (by kernel_rfl) (by kernel_rfl) (by kernel_rfl) (fun _ _ _ h => h) (Or.inl ⟨by rfl, ?hyc3⟩) hS ?restc3
  case hyc3 => ((intro w' hSw; subst hSw; go_simp; first | done | with_reducible rfl))
  try simp only [Act.put, List.getElem_toArray, List.getElem_cons_zero, List.getElem_cons_succ, List.setIfInBounds_toArray, List.set_cons_zero, List.set_cons_succ]
  refine wpAnyH_take (i := 4) (v := ?vc4) rfl (by kernel_rfl) (by kernel_rfl) (by kernel_rfl) (fun _ _ _ h => h) (Or.inl ⟨by rfl, ?hyc4⟩) hS ?restc4
  case hyc4 => ((intro w' hSw; subst hSw; go_simp; first | done | with_reducible rfl))
  try simp only [Act.put, List.getElem_toArray, List.getElem_cons_zero, List.getElem_cons_succ, List.setIfInBounds_toArray, List.set_cons_zero, List.set_cons_succ]
  refine wpAnyH_take (i := 5) (v := .int .i64 l.au) rfl (by kernel_rfl) (by kernel_rfl) (by kernel_rfl) (fun _ _ _ h => h) (Or.inl ⟨by rfl, ?hyc5⟩) hS ?restc5
  case hyc5 => ((intro w' hSw; subst hSw; go_simp; first | done | with_reducible rfl))
  try simp only [Act.put, List.getElem_toArray, List.getElem_cons_zero, List.getElem_cons_succ, List.setIfInBounds_toArray, List.set_cons_zero, List.set_cons_succ]
  refine wpAnyH_take (i := 6) (v := .slice RA L Rc) rfl (by kernel_rfl) (by kernel_rfl) (by kernel_rfl) (fun _ _ _ h => h) (Or.inl ⟨by rfl, ?hyc6⟩) hS ?restc6
  case hyc6 => ((intro w' hSw; subst hSw; go_simp; first | done | with_reducible rfl))
  try simp only [Act.put, List.getElem_toArray, List.getElem_cons_zero, List.getElem_cons_succ, List.setIfInBounds_toArray, List.set_cons_zero, List.set_cons_succ]
  refine wpAnyH_take (i := 7) (v := ?vc7) rfl (by kernel_rfl) (by kernel_rfl) (by kernel_rfl) (fun _ _ _ h => h) (Or.inl ⟨by rfl, ?hyc7⟩) hS ?restc7
  case hyc7 => ((intro w' hSw; subst hSw; go_simp; first | done | with_reducible rfl))
  try simp only [Act.put, List.getElem_toArray, List.getElem_cons_zero, List.getElem_cons_succ, List.setIfInBounds_toArray, List.set_cons_zero, List.set_cons_succ]
  refine wpAnyH_done (by kernel_rfl) (NoPanic.normal ?_) _
  clear c0 hbl hlk hS
  have hLm : Hid (L ≤ 1048576) := by have h1 := ofA_len S l.au; have h2 := HV.out.sm; have h3 := hL.out; unfold Hid; omega
  go_wp2_with fail
  have hKU2 : Hid (KB < U.heap.size) := lt_of_blk KU.out
  have hgU : Hid (gb < U.heap.size) := HV.out.lt gb HV.out.og
  obtain ⟨Q, hQ⟩ : ∃ W, Hid (W = U.drew) := ⟨_, Lib.hid rfl⟩
  have dQ : Below U.heap.size U Q := by rw [hQ.out]; exact below_drew (Below.refl _ _)
  have RQ := Lib.hid (range_keep RU.out dQ hGU.out)
  have hGQ : Hid (G < Q.heap.size) := Nat.lt_of_lt_of_le hGU.out dQ.size
  have KQ := Lib.hid (range_keep (range_of KU.out) dQ hKU2.out)
  have hKQ : Hid (KB < Q.heap.size) := Nat.lt_of_lt_of_le hKU2.out dQ.size
  have VQ := Lib.hid (HV.out.below dQ)
  have GQ : Hid (Q.rangeAt gb 0 [.map (some b)]) := range_of VQ.out.blk
  have hgQ : Hid (gb < Q.heap.size) := VQ.out.lt gb VQ.out.og
  have FQ : Hid (Fr oi w Q oi') := FU.out.trans (Fr.below dQ)
  have IQ := Lib.hid (IU.out.below dQ)
  have hkok := Lib.hid (knL_ok hs Hr.out)
  have SQ : Q.rangeAt G 0 [.int .i64 l.au, .int .i64 l.sq, .int .i64 l.ep, .slice A n c, .slice B 32 d] ∧ Q.rangeAt gb 0 [.map (some b)] ∧ Q.rangeAt KB 0 (knC (knL hs l)) := ⟨RQ.out, GQ.out, KQ.out⟩
  have hgb : Hid (gb ≠ b) := VQ.out.ne
  have HROWQ : Hid (Rd Q Q.heap.size 65 RA L ((ofA S l.au).flatMap knC)) := by
    obtain ⟨A2, c2, ef2, _, hr2⟩ := VQ.out.rows l.au
    rw [hL.out] at ef2 hr2
    have e4 := hef.out.symm.trans ef2
    injection e4 with e4
    rw [e4]; exact hr2.1
  have hRAn : Hid (RA = none → L = 0) := fun e => by
    rcases Nat.eq_zero_or_pos L with h0 | h0
    · exact h0
    · obtain ⟨b', o', e', _⟩ := HROWQ.out.2 h0
      rw [e] at e'; cases e'
  refine wp_region_noPanic ?_
  refine wp_region_held_drew (S := fun w' => w'.rangeAt G 0 [.int .i64 l.au, .int .i64 l.sq, .int .i64 l.ep, .slice A n c, .slice B 32 d] ∧ w'.rangeAt gb 0 [.map (some b)] ∧ w'.rangeAt KB 0 (knC (knL hs l))) (by kernel_rfl) (by rw [← hQ.out]; exact SQ) (fun hS => ?_)
  rw [← hQ.out]
  clear hS
  have hS : Q.rangeAt G 0 [.int .i64 l.au, .int .i64 l.sq, .int .i64 l.ep, .slice A n c, .slice B 32 d] ∧ Q.rangeAt gb 0 [.map (some b)] ∧ Q.rangeAt KB 0 (knC (knL hs l)) := SQ
  refine wpAnyH_take (i := 0) (v := ?vd0) rfl (by kernel_rfl) (by kernel_rfl) (by kernel_rfl) (fun _ _ _ h => h) (Or.inl ⟨by rfl, ?hyd0⟩) hS ?restd0
  case hyd0 => (intro w' hSw; go_simp; first | done | with_reducible rfl)
  try simp only [Act.put, List.getElem_toArray, List.getElem_cons_zero, List.getElem_cons_succ, List.setIfInBounds_toArray, List.set_cons_zero, List.set_cons_succ]
  refine wpAnyH_take (i := 1) (v := ?vd1) rfl (by kernel_rfl) (by kernel_rfl) (by kernel_rfl) (fun _ _ _ h => h) (Or.inl ⟨by rfl, ?hyd1⟩) hS ?restd1
  case hyd1 => (intro w' hSw; go_simp; first | done | with_reducible rfl)
  try simp only [Act.put, List.getElem_toArray, List.getElem_cons_zero, List.getElem_cons_succ, List.setIfInBounds_toArray, List.set_cons_zero, List.set_cons_succ]
  refine wpAnyH_take (i := 2) (v := ?vd2) rfl (by kernel_rfl) (by kernel_rfl) (by kernel_rfl) (fun _ _ _ h => h) (Or.inl ⟨by rfl, ?hyd2⟩) hS ?restd2
  case hyd2 => (intro w' hSw; go_simp; first | done | with_reducible rfl)
  try simp only [Act.put, List.getElem_toArray, List.getElem_cons_zero, List.getElem_cons_succ, List.setIfInBounds_toArray, List.set_cons_zero, List.set_cons_succ]
  refine wpAnyH_take (i := 3) (v := .map (some b)) rfl (by kernel_rfl) (by kernel_rfl) (by kernel_rfl) (fun _ _ _ h => h) (Or.inl ⟨by rfl, ?hyd3⟩) hS ?restd3
  case hyd3 => (intro w' hSw; have c0 := hSw.2.1 0 _ rfl; go_simp; first | done | with_reducible rfl)
  try simp only [Act.put, List.getElem_toArray, List.getElem_cons_zero, List.getElem_cons_succ, List.setIfInBounds_toArray, List.set_cons_zero, List.set_cons_succ]
  refine wpAnyH_take (i := 4) (v := ?vd4) rfl (by kernel_rfl) (by kernel_rfl) (by kernel_rfl) (fun _ _ _ h => h) (Or.inl ⟨by rfl, ?hyd4⟩) hS ?restd4
  case hyd4 => (intro w' hSw; go_simp; first | done | with_reducible rfl)
  try simp only [Act.put, List.getElem_toArray, List.getElem_cons_zero, List.getElem_cons_succ, List.setIfInBounds_toArray, List.set_cons_zero, List.set_cons_succ]
  refine wpAnyH_take (i := 5) (v := .int .i64 l.au) rfl (by kernel_rfl) (by kernel_rfl) (by kernel_rfl) (fun _ _ _ h => h) (Or.inl ⟨by rfl, ?hyd5⟩) hS ?restd5
  case hyd5 => (intro w' hSw; have c0 := hSw.1 0 _ rfl; go_simp; first | done | with_reducible rfl)
  try simp only [Act.put, List.getElem_toArray, List.getElem_cons_zero, List.getElem_cons_succ, List.setIfInBounds_toArray, List.set_cons_zero, List.set_cons_succ]
  refine wpAnyH_take (i := 6) (v := ?vd6) rfl (by kernel_rfl) (by kernel_rfl) (by kernel_rfl) (fun _ _ _ h => h) (Or.inl ⟨by rfl, ?hyd6⟩) hS ?restd6
  case hyd6 => (intro w' hSw; go_simp; first | done | with_reducible rfl)
  try simp only [Act.put, List.getElem_toArray, List.getElem_cons_zero, List.getElem_cons_succ, List.setIfInBounds_toArray, List.set_cons_zero, List.set_cons_succ]
  refine wpAnyH_take (i := 7) (v := ?vd7) rfl (by kernel_rfl) (by kernel_rfl) (by kernel_rfl) (fun _ _ _ h => h) (Or.inl ⟨by rfl, ?hyd7⟩) hS ?restd7
  case hyd7 => (intro w' hSw; go_simp; first | done | with_reducible rfl)
  try simp only [Act.put, List.getElem_toArray, List.getElem_cons_zero, List.getElem_cons_succ, List.setIfInBounds_toArray, List.set_cons_zero, List.set_cons_succ]
  refine wpAnyH_take (i := 8) (v := .int .i64 (L : Int)) rfl (by kernel_rfl) (by kernel_rfl) (by kernel_rfl) (fun _ _ _ h => h) (Or.inl ⟨by rfl, ?hyd8⟩) hS ?restd8
  case hyd8 => (intro w' hSw; go_simp; first | done | with_reducible rfl)
  try simp only [Act.put, List.getElem_toArray, List.getElem_cons_zero, List.getElem_cons_succ, List.setIfInBounds_toArray, List.set_cons_zero, List.set_cons_succ]
  refine wpAnyH_take (i := 9) (v := ?vd9) rfl (by kernel_rfl) (by kernel_rfl) (by kernel_rfl) (fun _ _ _ h => h) (Or.inl ⟨by rfl, ?hyd9⟩) hS ?restd9
  case hyd9 => (intro w' hSw; go_simp; first | done | with_reducible rfl)
  try simp only [Act.put, List.getElem_toArray, List.getElem_cons_zero, List.getElem_cons_succ, List.setIfInBounds_toArray, List.set_cons_zero, List.set_cons_succ]
  refine wpAnyH_take (i := 10) (v := .int .i64 (L : Int)) rfl (by kernel_rfl) (by kernel_rfl) (by kernel_rfl) (fun _ _ _ h => h) (Or.inl ⟨by rfl, ?hyd10⟩) hS ?restd10
  case hyd10 => (intro w' hSw; go_simp; first | done | with_reducible rfl)
  try simp only [Act.put, List.getElem_toArray, List.getElem_cons_zero, List.getElem_cons_succ, List.setIfInBounds_toArray, List.set_cons_zero, List.set_cons_succ]
  refine wpAnyH_take (i := 11) (v := .slice RA L L) rfl (by kernel_rfl) (by kernel_rfl) (by kernel_rfl) (fun _ _ _ h => h) (Or.inl ⟨by rfl, ?hyd11⟩) hS ?restd11
  case hyd11 => (intro w' hSw; go_simp; first | done | with_reducible rfl)
  try simp only [Act.put, List.getElem_toArray, List.getElem_cons_zero, List.getElem_cons_succ, List.setIfInBounds_toArray, List.set_cons_zero, List.set_cons_succ]
  refine wpAnyH_take (i := 12) (v := .agg (knC (knL hs l)).toArray) rfl (by kernel_rfl) (by kernel_rfl) (by kernel_rfl) (fun _ _ _ h => h) (yieldsIf_load_mid (by rfl) 114 (.tmp 6) rfl KB 0 rfl (knC (knL hs l)) _ (fun w' hw => hw.2.2) Try.underlying114 rfl (by rw [knC_len hkok.out]; exact info65)) hS ?restd12
  try simp only [Act.put, List.getElem_toArray, List.getElem_cons_zero, List.getElem_cons_succ, List.setIfInBounds_toArray, List.set_cons_zero, List.set_cons_succ]
  refine wpAnyH_ready (rs := [13]) (by kernel_rfl) (by simp) ?_
  refine AllReadyH.cons rfl (fun K hK => ?_) AllReadyH.nil
  refine step_lit65 (.tmp 41) rfl rfl (knL hs l) hkok.out rfl ?_
  have PA := Lib.hid ((Below.refl Q.heap.size Q).alloc (Nat.le_refl _) (.cells (knC (knL hs l)).toArray 114))
  have LA : Hid (Rd (Q.alloc (.cells (knC (knL hs l)).toArray 114)) (Q.heap.size + 1) 65 (some ⟨Q.heap.size, 0, none⟩) 1 (knC (knL hs l))) := ⟨by rw [knC_len hkok.out], fun _ => ⟨Q.heap.size, 0, rfl, Nat.lt_succ_self _, fun j u hu => rangeNew Q (knC (knL hs l)) _ j u hu⟩⟩
  obtain ⟨M, hM⟩ : ∃ W, Hid (W = Q.alloc (.cells (knC (knL hs l)).toArray 114)) := ⟨_, Lib.hid rfl⟩
  rw [← hM.out] at PA LA ⊢
  obtain ⟨qz, hqz⟩ : ∃ q, Hid (q = Q.heap.size) := ⟨_, Lib.hid rfl⟩
  rw [← hqz.out] at LA ⊢
  have SM : M.rangeAt G 0 [.int .i64 l.au, .int .i64 l.sq, .int .i64 l.ep, .slice A n c, .slice B 32 d] ∧ M.rangeAt gb 0 [.map (some b)] ∧ M.rangeAt KB 0 (knC (knL hs l)) := ⟨range_keep RQ.out PA.out hGQ.out, range_keep GQ.out PA.out hgQ.out, range_keep KQ.out PA.out hKQ.out⟩
  refine hK.out _ _ SM ?_
  intro hS
  clear hK K hS
  try simp only [Act.put, List.getElem_toArray, List.getElem_cons_zero, List.getElem_cons_succ, List.setIfInBounds_toArray, List.set_cons_zero, List.set_cons_succ]
  obtain ⟨i65, z65, q1, q2, q3, q4, q5⟩ := info65z
  have VM := Lib.hid (VQ.out.below PA.out)
  have HROWM := Lib.hid (HROWQ.out.to PA.out)
  refine wpAnyH_ready (rs := [14]) (by kernel_rfl) (by simp) ?_
  refine AllReadyH.cons rfl (fun K hK => ?_) AllReadyH.nil
  refine step_grow (.tmp 40) (.tmp 42) 102 rfl rfl 114 i65 z65 65 72 Try.underlying102 q1 q2 q3 q4 q5 (by decide) RA L ((ofA S l.au).flatMap knC) rfl HROWM.out hRAn.out _ qz 1 1 (knC (knL hs l)) rfl LA.out (knC_one _) (by decide) (by have := hLm.out; simp only [maxLen]; omega) (by have := hLm.out; omega) ?_
  intro NA Nc N hown hgr
  have HOWN := Lib.hid hown
  have HGR := Lib.hid hgr
  have PN : Hid (Below Q.heap.size Q N) := PA.out.trans (Below.mono ⟨hgr.os, hgr.tape, hgr.output, hgr.size, fun k hk => hgr.block k hk (by simp)⟩ PA.out.size)
  have SN : N.rangeAt G 0 [.int .i64 l.au, .int .i64 l.sq, .int .i64 l.ep, .slice A n c, .slice B 32 d] ∧ N.rangeAt gb 0 [.map (some b)] ∧ N.rangeAt KB 0 (knC (knL hs l)) := ⟨range_keep RQ.out PN.out hGQ.out, range_keep GQ.out PN.out hgQ.out, range_keep KQ.out PN.out hKQ.out⟩
  clear hown hgr q1 q2 q3 q4 q5
  refine hK.out _ _ SN ?_
  intro hS
  clear hK K hS
  try simp only [Act.put, List.getElem_toArray, List.getElem_cons_zero, List.getElem_cons_succ, List.setIfInBounds_toArray, List.set_cons_zero, List.set_cons_succ]
  have hbN : Hid (MapV Try.prog 3 N b nb (.slice none 0 0) f) := VM.out.map.same (HGR.out.block b (VM.out.lt b VM.out.ob) (by simp))
  refine wpAnyH_ready (rs := [15]) (by kernel_rfl) (by simp) ?_
  refine AllReadyH.cons rfl (fun K hK => ?_) AllReadyH.nil
  refine step_updV (.tmp 32) (.tmp 34) (.tmp 43) 103 rfl rfl 3 102 keyedI Try.underlying103 (.slice none 0 0) b nb f rfl hbN.out (by have := HV.out.le; have := HV.out.sm; simp only [maxLen]; omega) (.int .i64 l.au) _ (.int .i64 l.au) rfl rfl (keyI _ ⟨by have := hau.out; omega, by have := hau.out; omega⟩) ?_
  intro F hmap hgr2
  have HMAP := Lib.hid hmap
  have HGR2 := Lib.hid hgr2
  have hbG : Hid (b ≠ G ∧ b ≠ KB) := ⟨fun e => by have h1 := HK.out.lt b HV.out.ob; have h2 := hwG.out; omega, fun e => by have h1 := HK.out.lt b HV.out.ob; have h2 := hwG.out; have h3 := hGK.out; omega⟩
  have hNs := PN.out.size
  have SF : F.rangeAt G 0 [.int .i64 l.au, .int .i64 l.sq, .int .i64 l.ep, .slice A n c, .slice B 32 d] ∧ F.rangeAt gb 0 [.map (some b)] ∧ F.rangeAt KB 0 (knC (knL hs l)) := ⟨range_gr SN.1 hgr2 (Nat.lt_of_lt_of_le hGQ.out hNs) (by intro e; injection e with e; exact hbG.out.1 e), range_gr SN.2.1 hgr2 (Nat.lt_of_lt_of_le hgQ.out hNs) (by intro e; injection e with e; exact hgb.out e.symm), range_gr SN.2.2 hgr2 (Nat.lt_of_lt_of_le hKQ.out hNs) (by intro e; injection e with e; exact hbG.out.2 e)⟩
  clear hmap hgr2
  refine hK.out _ _ SF ?_
  intro hS
  clear hK K hS
  try simp only [Act.put, List.getElem_toArray, List.getElem_cons_zero, List.getElem_cons_succ, List.setIfInBounds_toArray, List.set_cons_zero, List.set_cons_succ]
  refine wpAnyH_done (by kernel_rfl) (NoPanic.normal ?_) _
  go_wp2_with fail
  go_returns
  have hbo : Hid (b ∈ ob) := HV.out.ob
  have hboi : Hid (b ∉ oi') := fun hm => by rcases FQ.out.sub b hm with h1 | h1; exact HDJ.out b h1 hbo.out; have h2 := HK.out.lt b hbo.out; omega
  have hoi' : Hid (∀ k, k ∈ oi' → k < Q.heap.size) := note_lt IQ.out
  have hLe := hL.out
  subst hLe
  refine ⟨rfl, oi', ?_, ?_, ?_, FQ.out.sub⟩
  · exact (IQ.out.below PN.out).keep (Fr.one HGR2.out) (fun k hk => by simp at hk; rw [hk]; exact List.mem_cons_of_mem _ (HO2.out b hbo.out)) (fun k hk => by simp at hk; rw [hk]; exact hboi.out) (fun k hk => Or.inl (List.mem_cons_of_mem _ hk))
  · refine ⟨b, nb + 1, _, VM.out.put hau.out hkok.out HS.out HOWN.out HGR.out HMAP.out HGR2.out hgb.out (fun k hk => ?_)⟩
    have hQM := PA.out.size
    rcases List.mem_append.1 hk with h1 | h1
    · exact Nat.lt_of_lt_of_le (HRb.out k h1) (Nat.le_trans FQ.out.size hQM)
    · exact Nat.lt_of_lt_of_le (hoi'.out k h1) hQM
  · refine ⟨HGR2.out.os.trans (PN.out.os.trans FQ.out.os), HGR2.out.tape.trans (PN.out.tape.trans FQ.out.tape), HGR2.out.output.trans (PN.out.output.trans FQ.out.output), Nat.le_trans FQ.out.size (Nat.le_trans PN.out.size HGR2.out.size), fun k hk hn => ?_, fun k hk => ?_⟩
    · have h1 : k < Q.heap.size := Nat.lt_of_lt_of_le hk FQ.out.size
      have h2 : k ≠ b := fun e => hn (List.mem_append.2 (Or.inl (by rw [e]; exact hbo.out)))
      exact (HGR2.out.block k (Nat.lt_of_lt_of_le h1 PN.out.size) (fun e => h2 (by injection e))).trans ((PN.out.block k h1).trans (FQ.out.block k hk (fun hm => hn (List.mem_append.2 (Or.inr hm)))))
    · rcases List.mem_append.1 hk with h1 | h1
      · exact Or.inl (List.mem_append.2 (Or.inl h1))
      · exact (FQ.out.sub k h1).imp (fun h2 => List.mem_append.2 (Or.inr h2)) id
set_option maxHeartbeats 1000000 in
theorem take_ (gb : Nat) (S : Bk) (ob Rb : List Nat) (gi : Nat) (hs : List (List UInt8)) (oi Ri : List Nat) (l : Ln) (A : Option Addr) (n c : Nat) (B : Option Addr) (m d : Nat) (w : World) (hK : BookAt w gb S ob Rb) (hI : IdealAt w gi hs oi Ri)
    (hp : RdN oi w 1 A n (l.pv.map B8)) (hq : RdN oi w 1 B m (l.bd.map B8)) (ho : ∀ k, k ∈ oi → k ∈ Rb) (ho2 : ∀ k, k ∈ ob → k ∈ Ri) (hdj : ∀ k, k ∈ oi → k ∉ ob) (hn : hs.length ≤ 1000000) (hS : S.length < 1048576) (hRi : ∀ k, k ∈ Ri → k < w.heap.size) (hRb : ∀ k, k ∈ Rb → k < w.heap.size) :
    Calls Try.prog 21 #[.pointer (some ⟨gb, 0, none⟩), .iface 27 (.pointer (some ⟨gi, 0, none⟩)), lnV l A n c B m d] w fun e w' => ∃ oi', e = .returned (.int .i64 (checkE S hs l)) ∧ IdealAt w' gi (takeH S hs l) oi' Ri ∧ BookAt w' gb (takeS S hs l) ob (Rb ++ oi') ∧ Fr (ob ++ oi) w w' (ob ++ oi') ∧ (∀ k, k ∈ oi' → k ∈ oi ∨ w.heap.size ≤ k) := by
  obtain ⟨Y, hY⟩ : ∃ Y, Hid (Y = w.alloc (.cells #[.int .i64 l.au, .int .i64 l.sq, .int .i64 l.ep, .slice A n c, .slice B m d] 40)) := ⟨_, Lib.hid rfl⟩
  have BY : Hid (Below w.heap.size w Y) := by rw [hY.out]; exact (Below.refl _ _).alloc (Nat.le_refl _) _
  obtain ⟨G, hG⟩ : ∃ g, Hid (g = w.heap.size) := ⟨_, Lib.hid rfl⟩
  have RY : Hid (Y.rangeAt G 0 [.int .i64 l.au, .int .i64 l.sq, .int .i64 l.ep, .slice A n c, .slice B m d]) := by rw [hY.out, hG.out]; exact rangeNew w _ _
  have hGY : Hid (G < Y.heap.size) := by unfold Hid; rw [hG.out, hY.out, szAlloc]; exact Nat.lt_succ_self _
  have hGo : Hid (∀ k, k ∈ oi → k < G) := by unfold Hid; rw [hG.out]; exact note_lt hI
  have HK := Lib.hid hK
  have HI := Lib.hid hI
  have HP := Lib.hid hp
  have HQ := Lib.hid hq
  have HO := Lib.hid ho
  have HO2 := Lib.hid ho2
  have HDJ := Lib.hid hdj
  have HRi := Lib.hid hRi
  have HRb := Lib.hid hRb
  have HN := Lib.hid hn
  have HS := Lib.hid hS
  clear hK hI hp hq ho ho2 hdj hRi hRb hn hS
  go_enter Try.func21, Try.ntmps21
  unfold lnV
  go_wp2_with fail
  rw [← hY.out, ← hG.out]
  refine (check_ gb S ob Rb gi hs oi Ri l A n c B m d Y (HK.out.below BY.out) (HI.out.below BY.out) (HP.out.1.to BY.out) (HQ.out.1.to BY.out) HO.out HN.out (fun k hk => Nat.lt_of_lt_of_le (HRi.out k hk) BY.out.size)).mono ?_
  rintro e u ⟨o1, rfl, i1, f1⟩
  obtain ⟨E, hE⟩ : ∃ E, Hid (E = checkE S hs l) := ⟨_, Lib.hid rfl⟩
  rw [← hE.out]
  have I1 := Lib.hid i1
  have F1 : Hid (Fr oi w u o1) := (Fr.below BY.out).trans f1
  have RU := range_fr RY.out f1 hGY.out (fun hm => Nat.lt_irrefl _ (hGo.out G hm))
  clear i1 f1
  have hE0 : Hid (checkE S hs l = E) := hE.out.symm
  by_cases h0 : E = 0
  · have hT : Hid (takeH S hs l = note hs (bytesL l) ∧ takeS S hs l = S ++ [(l.au, knL hs l)]) := by
      have := hE.out; rw [h0] at this
      exact ⟨if_pos this.symm, if_pos this.symm⟩
    have hr : rightL l := checkE_right (hs := hs) (S := S) (by rw [← hE.out, h0])
    have hHS : Hid (checkH S hs l = hs) := by
      by_cases hle : l.sq ≤ ((ofA S l.au).length : Int)
      · exfalso
        have h1 := hE.out
        rw [h0, checkE_old hr hle (List.getElem?_eq_getElem (i := (l.sq - 1).toNat) (by have := hr.1.2.2.1; omega))] at h1
        split at h1 <;> omega
      · exact checkH_new (fun h => hle h.2)
    rw [hHS.out] at I1
    have c0 := RU 0 _ rfl
    have c1 := RU 1 _ rfl
    have c2 := RU 2 _ rfl
    have c3 := RU 3 _ rfl
    have c4 := RU 4 _ rfl
    have hr' := Lib.hid hr
    clear hr
    have K1 : Hid (BookAt u gb S ob (Rb ++ o1)) := HK.out.keep F1.out HO.out HDJ.out (fun k hk => by
      rcases List.mem_append.1 hk with h1 | h1
      · exact Or.inl h1
      · exact (F1.out.sub k h1).imp (HO.out k) id)
    have P1 : Hid (RdN o1 u 1 A n (l.pv.map B8)) := (HP.out.go F1.out (fun k hk => hk)).1 |> fun h => ⟨h, fun b o h0 e hm => by
      rcases F1.out.sub b hm with h1 | h1
      · exact HP.out.2 b o h0 e h1
      · obtain ⟨b', o', e', hb', _⟩ := HP.out.1.2 h0
        rw [e] at e'; injection e' with e'; injection e' with e1; omega⟩
    have Q1 : Hid (RdN o1 u 1 B m (l.bd.map B8)) := (HQ.out.go F1.out (fun k hk => hk)).1 |> fun h => ⟨h, fun b o h0 e hm => by
      rcases F1.out.sub b hm with h1 | h1
      · exact HQ.out.2 b o h0 e h1
      · obtain ⟨b', o', e', hb', _⟩ := HQ.out.1.2 h0
        rw [e] at e'; injection e' with e'; injection e' with e1; omega⟩
    have hdj1 : Hid (∀ k, k ∈ o1 → k ∉ ob) := fun k hk hm => by
      rcases F1.out.sub k hk with h1 | h1
      · exact HDJ.out k h1 hm
      · exact absurd (HK.out.lt k hm) (by omega)
    have hRi1 : Hid (∀ k, k ∈ Ri → k < u.heap.size) := fun k hk => Nat.lt_of_lt_of_le (HRi.out k hk) F1.out.size
    have hRb1 : Hid (∀ k, k ∈ Rb ++ o1 → k < u.heap.size) := fun k hk => by
      rcases List.mem_append.1 hk with h1 | h1
      · exact Nat.lt_of_lt_of_le (HRb.out k h1) F1.out.size
      · exact note_lt I1.out k h1
    clear hE RU
    subst h0
    go_wp2_with fail
    refine (put_ gb S ob (Rb ++ o1) gi hs o1 Ri l A n c B m d u K1.out I1.out P1.out Q1.out (fun k hk => List.mem_append.2 (Or.inr hk)) HO2.out hdj1.out HN.out HS.out hRi1.out hRb1.out hr'.out).mono ?_
    rintro e v ⟨o2, rfl, i2, k2, f2, s2⟩
    have I2 := Lib.hid i2
    have K2 := Lib.hid k2
    have F2 := Lib.hid f2
    have S2 := Lib.hid s2
    clear i2 k2 f2 s2 c0 c1 c2 c3 c4
    go_wp2_with fail
    go_ret
    refine ⟨o2, by rw [hE0.out]; rfl, by rw [hT.out.1]; exact I2.out, ?_, ?_, fun k hk => by
      rcases S2.out k hk with h1 | h1
      · exact F1.out.sub k h1
      · exact Or.inr (Nat.le_trans F1.out.size h1)⟩
    · rw [hT.out.2]
      refine K2.out.keep (own2 := []) (own2' := []) (Fr.below (Below.refl _ _)) (fun _ h => absurd h (by simp)) (fun _ h => absurd h (by simp)) (fun k hk => Or.inl ?_)
      rcases List.mem_append.1 hk with h1 | h1
      · exact List.mem_append.2 (Or.inl (List.mem_append.2 (Or.inl h1)))
      · exact List.mem_append.2 (Or.inr h1)
    · refine (Fr.trans (own' := ob ++ o1) ⟨F1.out.os, F1.out.tape, F1.out.output, F1.out.size, fun k hk hn => F1.out.block k hk (fun hm => hn (List.mem_append.2 (Or.inr hm))), fun k hk => ?_⟩ F2.out)
      rcases List.mem_append.1 hk with h1 | h1
      · exact Or.inl (List.mem_append.2 (Or.inl h1))
      · exact (F1.out.sub k h1).imp (fun h2 => List.mem_append.2 (Or.inr h2)) id
  · have hT : Hid (takeH S hs l = checkH S hs l ∧ takeS S hs l = S) := by
      have := hE.out
      exact ⟨if_neg (by rw [← this]; exact h0), if_neg (by rw [← this]; exact h0)⟩
    have h0' : (E != 0) = true := by simp [h0]
    clear RU
    go_wp2_with fail
    go_ret
    refine ⟨o1, by rw [hE0.out]; rfl, by rw [hT.out.1]; exact I1.out, ?_, ?_, F1.out.sub⟩
    · rw [hT.out.2]
      exact HK.out.keep F1.out HO.out HDJ.out (fun k hk => by
        rcases List.mem_append.1 hk with h1 | h1
        · exact Or.inl h1
        · exact (F1.out.sub k h1).imp (HO.out k) id)
    · refine ⟨F1.out.os, F1.out.tape, F1.out.output, F1.out.size, fun k hk hn => F1.out.block k hk (fun hm => hn (List.mem_append.2 (Or.inr hm))), fun k hk => ?_⟩
      rcases List.mem_append.1 hk with h1 | h1
      · exact Or.inl (List.mem_append.2 (Or.inl h1))
      · exact (F1.out.sub k h1).imp (fun h2 => List.mem_append.2 (Or.inr h2)) id
end Go.Proofs.Ytabcbpcfleociaa
