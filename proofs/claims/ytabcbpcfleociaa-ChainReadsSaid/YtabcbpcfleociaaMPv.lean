/- A book in bytes: plain; the program's Put. (The drawn region is printed by gen_put.py.) -/
import Derived.Test.YtabcbpcfleociaaMChk
import Derived.Test.YtabcbpcfleociaaMVak
import Derived.Test.YtabcbpcfleociaaMRbC
import Derived.Test.YtabcbpcfleociaaMRba
import Derived.Test.YtabcbpcfleociaaMHd
import Derived.Test.YtabcbpcfleociaaMPlc
namespace Go.Proofs.Ytabcbpcfleociaa
open Go.RowKit Go.Maps
attribute [local go_sem ↓] Go.wp_at_zero Go.wp_at_succ
set_option linter.unusedSimpArgs false
set_option linter.unusedVariables false
/-- A known link in bytes. -/
def knB (k : Kn) : List UInt8 := textL k.bd ++ numL k.ep
def knsB (L : List Kn) : List UInt8 := L.flatMap knB
theorem knB_len {k : Kn} (h : k.ok) : (knB k).length ≤ 44 := by
  have h1 := numL_len k.ep
  have h2 := numL_len k.bd.length
  have h3 := h.bd
  unfold knB textL
  simp only [List.length_append]
  omega
theorem knsB_len : ∀ (L : List Kn), (∀ k ∈ L, k.ok) → (knsB L).length ≤ 44 * L.length
  | [], _ => by simp [knsB]
  | k :: t, h => by
    have h1 := knB_len (h k (by simp))
    have h2 := knsB_len t (fun k hk => h k (by simp [hk]))
    unfold knsB at *
    rw [List.flatMap_cons, List.length_append, List.length_cons]
    omega
theorem knsB_snoc {L : List Kn} {j : Nat} {k : Kn} (h : L[j]? = some k) : knsB (L.take (j + 1)) = knsB (L.take j) ++ knB k := by
  unfold knsB
  rw [List.take_add_one, h, List.flatMap_append]
  simp
/-- The first i authors' links in bytes. -/
def putP (S : Bk) : Nat → List UInt8
  | 0 => []
  | i + 1 => putP S i ++ numL (ofA S i).length ++ knsB (ofA S i)
def putL (S : Bk) : List UInt8 := putP S 5
theorem putP_len {S : Bk} (hS : S.ok) : ∀ i : Nat, (putP S i).length ≤ i * (6 + 44 * S.length)
  | 0 => by simp [putP]
  | i + 1 => by
    have h1 := putP_len hS i
    have h2 := numL_len ((ofA S i).length : Int)
    have h3 := knsB_len (ofA S i) (fun k hk => hS.of hk)
    have h4 := ofA_len S i
    unfold putP
    simp only [List.length_append]
    have h5 : (i + 1) * (6 + 44 * S.length) = i * (6 + 44 * S.length) + (6 + 44 * S.length) := Nat.succ_mul _ _
    omega
/-- Bytes that grow: read, and owned as soon as something was put. -/
structure Grow (base : Nat) (w : World) (A : Option Addr) (m c : Nat) (l : List UInt8) (own : Prop) : Prop where
  rd : Rd w w.heap.size 1 A m (l.map B8)
  len : l.length = m
  ow : own → w.ownsRow base 5 1 (.slice A m c) m (l.map B8)
theorem Grow.of {base b2 : Nat} {w : World} {A : Option Addr} {m c : Nat} {l : List UInt8} {own : Prop} (hl : l.length = m) (h : w.ownsRow b2 5 1 (.slice A m c) m (l.map B8)) (hb : base ≤ b2) : Grow base w A m c l own :=
  ⟨Rd.of_own h, hl, fun _ => own_mono h hb⟩
theorem Grow.below {base : Nat} {w w' : World} {A : Option Addr} {m c : Nat} {l : List UInt8} {own : Prop} (h : Grow base w A m c l own) (hb : Below w.heap.size w w') : Grow base w' A m c l own :=
  ⟨(h.rd.below hb).more hb.size, h.len, fun ho => own_to (h.ow ho) hb⟩
theorem Grow.weak {base : Nat} {w : World} {A : Option Addr} {m c : Nat} {l : List UInt8} {own own' : Prop} (h : Grow base w A m c l own) (hi : own' → own) : Grow base w A m c l own' := ⟨h.rd, h.len, fun ho => h.ow (hi ho)⟩
theorem RetB.n {base : Nat} {l : List UInt8} {w w' : World} {e : Ending} (h : RetB base l w e w') : ∃ A m c, e = .returned (.slice A m c) ∧ Hid (l.length = m) ∧ w'.ownsRow base 5 1 (.slice A m c) m (l.map B8) ∧ Below w.heap.size w w' := by
  obtain ⟨A, c, h1, h2, h3⟩ := h
  exact ⟨A, _, c, h1, rfl, h2, h3⟩
theorem Rd.of_bd {w : World} {g o : Nat} {k : Kn} (h : w.rangeAt g o (knC k)) (hk : k.ok) : Rd w w.heap.size 1 (some ⟨g, o + 32, none⟩) 32 (k.bd.map B8) := by
  refine ⟨by simp [hk.bd], fun _ => ⟨g, o + 32, rfl, World.block_lt_of_cell? _ _ (h 64 _ (knC_ep hk)), fun j u hu => ?_⟩⟩
  have hl : j < (k.bd.map B8).length := by
    rcases Nat.lt_or_ge j (k.bd.map B8).length with h | h
    · exact h
    · rw [List.getElem?_eq_none h] at hu; cases hu
  have := h (32 + j) u (by
    rw [knC, List.append_assoc, List.getElem?_append_right (by simp [hk.dg]), List.getElem?_append_left (by simp [hk.dg] at hl ⊢; omega)]
    simpa [hk.dg] using hu)
  rw [← Nat.add_assoc] at this
  exact this
set_option maxRecDepth 20000 in
set_option maxHeartbeats 8000000 in
theorem bput_ (g : Nat) (S : Bk) (own R : List Nat) (A0 : Option Addr) (n0 c0 : Nat) (l0 : List UInt8) (w : World) (hB : BookAt w g S own R) (hr : Rd w w.heap.size 1 A0 n0 (l0.map B8)) (hn : n0 ≤ 1000000) :
    Calls Try.prog 38 #[.pointer (some ⟨g, 0, none⟩), .slice A0 n0 c0] w (RetB w.heap.size (l0 ++ putL S) w) := by
  have HB := Lib.hid hB
  have hok := Lib.hid hB.ok
  have HG0 : Hid (Grow w.heap.size w A0 n0 c0 (l0 ++ putP S 0) (0 < 0)) := ⟨by show Rd _ _ _ _ _ ((l0 ++ []).map B8); rw [List.append_nil]; exact hr, by show (l0 ++ []).length = n0; rw [List.append_nil]; simpa using hr.len, fun h => absurd h (by omega)⟩
  have hl0 : Hid (l0.length ≤ 1000000) := by have := hr.len; rw [List.length_map] at this; unfold Hid; omega
  have hsm : Hid (S.length ≤ 1048576) := by obtain ⟨b, n, f, hv⟩ := hB; exact hv.sm
  clear hB hr
  go_enter Try.func38, Try.ntmps38
  go_wp2_with fail
  go_loopw [1, 13] (fun x1 x13 wr => ∃ (i m : Nat) (A : Option Addr) (c : Nat), x1 = .slice A m c ∧ x13 = .int .i64 i ∧ i ≤ 5 ∧ Hid (Below w.heap.size w wr) ∧ Hid (Grow w.heap.size wr A m c (l0 ++ putP S i) (0 < i))) (fun _ x13 _ => 5 - (intOf x13).toNat)
  case atStart => exact ⟨0, n0, A0, c0, rfl, rfl, by omega, Below.refl _ _, HG0⟩
  case round =>
    obtain ⟨i, m, A, c, rfl, rfl, hi, hb, HG⟩ := hrel
    by_cases h5 : i < 5
    · have h5' : (i : Int) < 5 := by omega
      have hi0 : (0 : Int) ≤ (i : Int) := by omega
      have e8 : IntKind.i64.wrap ((i : Int) + 1) = ((i + 1 : Nat) : Int) := by rw [IntWalk.i64_in _ (by omega)]; omega
      obtain ⟨bb, nn, ff, hv⟩ := HB.out.below hb.out
      obtain ⟨RA, rc, hrow, hrc, hrr⟩ := hv.rows (i : Int)
      have hcell : wr.cell? ⟨g, 0, none⟩ = some (.map (some bb)) := cell_blk hv.blk 0 rfl
      have hlk := hv.look (a := (i : Int)) ⟨by omega, by omega⟩ hrow
      have HV := Lib.hid hv
      have HRR := Lib.hid hrr
      have HROW := Lib.hid hrow
      obtain ⟨L, hL⟩ : ∃ L, Hid ((ofA S (i : Int)).length = L) := ⟨_, Lib.hid rfl⟩
      have hLs : Hid (L ≤ 1048576) := by rw [← hL.out]; exact Nat.le_trans (ofA_len _ _) hsm.out
      have hpl := Lib.hid (putP_len hok.out i)
      rw [hL.out] at hlk
      clear hv hrr hrow hrc
      go_wp2_with fail
      have hmb : Hid ((l0 ++ putP S i).length ≤ 140000000000000) := by
        have h1 := hpl.out; have h2 := hl0.out; have h3 := hsm.out
        have h4 : i * (6 + 44 * S.length) ≤ 5 * (6 + 44 * 1048576) := Nat.mul_le_mul (by omega) (by omega)
        rw [List.length_append]; unfold Hid; omega
      obtain ⟨lp, hlp⟩ : ∃ l, Hid (l0 ++ putP S i = l) := ⟨_, Lib.hid rfl⟩
      rw [hlp.out] at HG hmb
      refine (number_any A m c lp (L : Int) wr HG.out.rd (by have := hmb.out; omega)).mono ?_
      rintro e w1 hr1
      obtain ⟨A1, m1, c1, rfl, hm1, o1, b1⟩ := hr1.n
      have HO1 := Lib.hid o1
      have B1 := Lib.hid b1
      have hw1 := Lib.hid (HV.out.below b1)
      have hcell1 : w1.cell? ⟨g, 0, none⟩ = some (.map (some bb)) := cell_blk hw1.out.blk 0 rfl
      have hlk1 := hw1.out.look (a := (i : Int)) ⟨by omega, by omega⟩ HROW.out
      rw [hL.out] at hlk1
      clear hr1 o1 b1 hcell hlk
      go_wp2_with fail
      clear hcell1 hlk1
      obtain ⟨wo, hwo⟩ : ∃ wo, wo = wr := ⟨wr, rfl⟩
      subst hwo
      go_loopw [1, 32] (fun x1 x32 wr => ∃ (j m : Nat) (A : Option Addr) (c : Nat), x1 = .slice A m c ∧ x32 = .int .i64 j ∧ j ≤ L ∧ Hid (Below wo.heap.size wo wr) ∧ Hid (Grow w.heap.size wr A m c (lp ++ numL (L : Int) ++ knsB ((ofA S (i : Int)).take j)) True)) (fun _ x32 _ => L - (intOf x32).toNat)
      case atStart => exact ⟨0, m1, A1, c1, rfl, rfl, by omega, B1, by show Grow _ _ _ _ _ (lp ++ numL (L : Int) ++ []) _; rw [List.append_nil]; exact Grow.of hm1.out HO1.out hb.out.size⟩
      case round =>
        obtain ⟨j, m2, A2, c2, rfl, rfl, hj, hbo, HG2⟩ := hrel
        by_cases hjL : j < L
        · have hjL' : (j : Int) < (L : Int) := by omega
          have hj0 : (0 : Int) ≤ (j : Int) := by omega
          have e9 : IntKind.i64.wrap ((j : Int) + 1) = ((j + 1 : Nat) : Int) := by have := hLs.out; rw [IntWalk.i64_in _ (by omega)]; omega
          obtain ⟨k, hk⟩ : ∃ k, (ofA S (i : Int))[j]? = some k := ⟨_, List.getElem?_eq_getElem (by rw [hL.out]; exact hjL)⟩
          have hko := Lib.hid (hok.out.of (List.mem_of_getElem? hk))
          have hsn := Lib.hid (knsB_snoc hk)
          obtain ⟨rb, ro, rfl, hrb, hrg⟩ := HRR.out.1.kn (fun k h => hok.out.of h) rfl hk
          have HRG : Hid (wr.rangeAt rb (ro + j * 65) (knC k)) := fun q v hq => (World.cell?_of_block (a := ⟨rb, ro + j * 65 + q, none⟩) (hbo.out.block rb hrb)).trans (hrg q v hq)
          have hsz : Hid ((knC k).toArray.size = 65) := by unfold Hid; rw [List.size_toArray, knC_len hko.out]
          clear hk hrg hrb
          go_wp2_with (first
            | refine wpList_load_mid rfl 114 (.tmp 34) rfl rb (ro + j * 65) rfl (knC k) _ HRG.out Try.underlying114 rfl (by rw [knC_len hko.out]; exact info65) ?_
            | (refine wpList_store_row rfl 114 (.tmp 7) (.tmp 35) rfl wr.heap.size (knC k).toArray rfl rfl _ _ (heap_alloc_new wr _) (by rw [hsz.out]; exact info65) (by rw [hsz.out]; kernel_rfl) (all_oneCell_toArray (knC_one k)) ?_))
          generalize hY0 : World.setRow _ _ _ = Y
          obtain ⟨hYg, hYb, hYs⟩ := row_new wr _ _ _ hY0
          obtain ⟨G, hG⟩ : ∃ g, Hid (g = wr.heap.size) := ⟨_, Lib.hid rfl⟩
          rw [← hG.out] at hYg ⊢
          obtain ⟨X, hX⟩ : ∃ W, Hid (W = Y.drew) := ⟨_, Lib.hid rfl⟩
          have dX : Below Y.heap.size Y X := by rw [hX.out]; exact below_drew (Below.refl _ _)
          have RX : Hid (X.rangeAt G 0 (knC k)) := range_keep (range_of hYg) dX (lt_of_blk hYg)
          have hGX : Hid (G < X.heap.size) := Nat.lt_of_lt_of_le (lt_of_blk hYg) dX.size
          have BX : Hid (Below wr.heap.size wr X) := hYb.trans (dX.mono hYb.size)
          have HGX := Lib.hid (HG2.out.below BX.out)
          have hep : Hid (∀ w', Below X.heap.size X w' → w'.cell? ⟨G, 64, none⟩ = some (.int .i64 k.ep)) := fun w' h' => by
            have := range_keep RX.out h' hGX.out 64 _ (knC_ep hko.out)
            rwa [Nat.zero_add] at this
          have hbd : Hid (Rd X X.heap.size 1 (some ⟨G, 32, none⟩) 32 (k.bd.map B8)) := by
            have := Rd.of_bd RX.out hko.out
            rwa [Nat.zero_add] at this
          have hll : Hid ((lp ++ numL (L : Int) ++ knsB ((ofA S (i : Int)).take j)).length ≤ 140000100000000) := by
            have h1 := hmb.out
            have h2 := (numL_len (L : Int)).2
            have h3 := knsB_len ((ofA S (i : Int)).take j) (fun k hk => hok.out.of (List.mem_of_mem_take hk))
            have h4 : ((ofA S (i : Int)).take j).length ≤ 1048576 := by rw [List.length_take]; have := hLs.out; have := hL.out; omega
            rw [List.length_append, List.length_append]; unfold Hid; omega
          obtain ⟨lq, hlq⟩ : ∃ l, Hid (lp ++ numL (L : Int) ++ knsB ((ofA S (i : Int)).take j) = l) := ⟨_, Lib.hid rfl⟩
          rw [hlq.out] at HGX hll
          clear hY0 hYg hYb hYs HRG hsz dX RX
          refine wp_region_noPanic ?_
          refine wp_region_held_drew (S := fun w' => Below X.heap.size X w') (by kernel_rfl) (by rw [← hX.out]; exact Below.refl _ _) (fun hS => ?_)
          rw [← hX.out]
          clear hS
          have hS : Below X.heap.size X X := Below.refl _ _
          refine wpAnyH_take (i := 0) (v := ?v0) rfl (by kernel_rfl) (by kernel_rfl) (by kernel_rfl) (fun _ _ _ h => h) (Or.inl ⟨by rfl, ?hy0⟩) hS ?rest0
          case hy0 => (intro w' hSw; go_simp; first | done | with_reducible rfl)
          try simp only [Act.put, List.getElem_toArray, List.getElem_cons_zero, List.getElem_cons_succ, List.setIfInBounds_toArray, List.set_cons_zero, List.set_cons_succ]
          refine wpAnyH_take (i := 1) (v := ?v1) rfl (by kernel_rfl) (by kernel_rfl) (by kernel_rfl) (fun _ _ _ h => h) (Or.inl ⟨by rfl, ?hy1⟩) hS ?rest1
          case hy1 => (intro w' hSw; go_simp; first | done | with_reducible rfl)
          try simp only [Act.put, List.getElem_toArray, List.getElem_cons_zero, List.getElem_cons_succ, List.setIfInBounds_toArray, List.set_cons_zero, List.set_cons_succ]
          refine wpAnyH_take (i := 2) (v := ?v2) rfl (by kernel_rfl) (by kernel_rfl) (by kernel_rfl) (fun _ _ _ h => h) (Or.inl ⟨by rfl, ?hy2⟩) hS ?rest2
          case hy2 => (intro w' hSw; go_simp; first | done | with_reducible rfl)
          try simp only [Act.put, List.getElem_toArray, List.getElem_cons_zero, List.getElem_cons_succ, List.setIfInBounds_toArray, List.set_cons_zero, List.set_cons_succ]
          refine wpAnyH_take (i := 4) (v := ?v4) rfl (by kernel_rfl) (by kernel_rfl) (by kernel_rfl) (fun _ _ _ h => h) (Or.inl ⟨by rfl, ?hy4⟩) hS ?rest4
          case hy4 => (intro w' hSw; go_simp; first | done | with_reducible rfl)
          try simp only [Act.put, List.getElem_toArray, List.getElem_cons_zero, List.getElem_cons_succ, List.setIfInBounds_toArray, List.set_cons_zero, List.set_cons_succ]
          refine wpAnyH_take (i := 5) (v := .int .i64 k.ep) rfl (by kernel_rfl) (by kernel_rfl) (by kernel_rfl) (fun _ _ _ h => h) (Or.inl ⟨by rfl, ?hy5⟩) hS ?rest5
          case hy5 => (intro w' hSw; have c0 := hep.out w' hSw; go_simp; first | done | with_reducible rfl)
          try simp only [Act.put, List.getElem_toArray, List.getElem_cons_zero, List.getElem_cons_succ, List.setIfInBounds_toArray, List.set_cons_zero, List.set_cons_succ]
          refine wpAnyH_ready (rs := [3]) (by kernel_rfl) (by simp) ?_
          refine AllReadyH.cons rfl (fun K hK => ?_) AllReadyH.nil
          go_simp
          refine (text_any A2 m2 c2 lq (some ⟨G, 32, none⟩) 32 32 k.bd X HGX.out.rd hbd.out (by have h1 := hll.out; have h2 := hko.out.bd; omega)).mono ?_
          rintro e u hr2
          obtain ⟨A3, m3, c3, rfl, hm3, o3, b3⟩ := hr2.n
          have O3 := Lib.hid o3
          have B3 := Lib.hid b3
          clear hr2 o3 b3
          go_wp2_with fail
          refine hK.out _ _ B3.out ?_
          intro hS
          clear hK K hS
          try simp only [Act.put, List.getElem_toArray, List.getElem_cons_zero, List.getElem_cons_succ, List.setIfInBounds_toArray, List.set_cons_zero, List.set_cons_succ]
          have hS : Below X.heap.size X u := B3.out
          refine wpAnyH_ready (rs := [6]) (by kernel_rfl) (by simp) ?_
          refine AllReadyH.cons rfl (fun K hK => ?_) AllReadyH.nil
          go_simp
          refine (number_any A3 m3 c3 (lq ++ textL k.bd) k.ep u (Rd.of_own O3.out) (by have h1 := hll.out; have h2 := hko.out.bd; have h3 := (numL_len k.bd.length).2; unfold textL; simp only [List.length_append]; omega)).mono ?_
          rintro e v hr2
          obtain ⟨A4, m4, c4, rfl, hm4, o4, b4⟩ := hr2.n
          have O4 := Lib.hid o4
          have B4 := Lib.hid (B3.out.trans (b4.mono B3.out.size))
          clear hr2 o4 b4
          go_wp2_with fail
          refine hK.out _ _ B4.out ?_
          intro hS
          clear hK K hS
          try simp only [Act.put, List.getElem_toArray, List.getElem_cons_zero, List.getElem_cons_succ, List.setIfInBounds_toArray, List.set_cons_zero, List.set_cons_succ]
          have hS : Below X.heap.size X v := B4.out
          refine wpAnyH_take (i := 7) (v := ?v7) rfl (by kernel_rfl) (by kernel_rfl) (by kernel_rfl) (fun _ _ _ h => h) (Or.inl ⟨by rfl, ?hy7⟩) hS ?rest7
          case hy7 => (intro w' hSw; go_simp; first | done | with_reducible rfl)
          try simp only [Act.put, List.getElem_toArray, List.getElem_cons_zero, List.getElem_cons_succ, List.setIfInBounds_toArray, List.set_cons_zero, List.set_cons_succ]
          refine wpAnyH_done (by kernel_rfl) (NoPanic.normal ?_) _
          go_wp2_with fail
          have BV := Lib.hid (hbo.out.trans ((BX.out.trans (B4.out.mono BX.out.size)).mono hbo.out.size))
          have hlast : Hid (lq ++ textL k.bd ++ numL k.ep = lp ++ numL (L : Int) ++ knsB ((ofA S (i : Int)).take (j + 1))) := by
            rw [hsn.out, ← hlq.out]; unfold Hid knB; simp only [List.append_assoc]
          have GV : Hid (Grow w.heap.size v A4 m4 c4 (lp ++ numL (L : Int) ++ knsB ((ofA S (i : Int)).take (j + 1))) True) := by
            rw [← hlast.out]
            exact Grow.of hm4.out O4.out (Nat.le_trans hb.out.size (Nat.le_trans hbo.out.size (Nat.le_trans BX.out.size B3.out.size)))
          go_roundw
          case rel => exact ⟨j + 1, m4, A4, c4, rfl, by go_num, hjL, BV, GV⟩
          case measure => simp only [intOf]; omega
        · have hjS : Hid (j = L) := (by omega : j = L)
          have hjL' : ¬ (j : Int) < (L : Int) := by omega
          have HG3 : Hid (Grow w.heap.size wr A2 m2 c2 (l0 ++ putP S (i + 1)) (0 < i + 1)) := by
            have h1 := HG2.out
            rw [List.take_of_length_le (by rw [hL.out, hjS.out]; exact Nat.le_refl _), ← hlp.out] at h1
            have e : l0 ++ putP S i ++ numL (L : Int) ++ knsB (ofA S (i : Int)) = l0 ++ putP S (i + 1) := by
              show _ = l0 ++ (putP S i ++ numL ((ofA S (i : Int)).length : Nat) ++ knsB (ofA S (i : Int)))
              rw [hL.out]; simp only [List.append_assoc]
            rw [e] at h1
            exact h1.weak (fun _ => trivial)
          have BV := Lib.hid (hb.out.trans (hbo.out.mono hb.out.size))
          go_wp2_with fail
          go_roundw
          case rel => exact ⟨i + 1, m2, A2, c2, rfl, by go_num, h5, BV, HG3⟩
          case measure => simp only [intOf]; omega
    · have hiS : Hid (i = 5) := (by omega : i = 5)
      have h5' : ¬ (i : Int) < 5 := by omega
      go_wp2_with fail
      go_ret
      have h1 := HG.out
      rw [hiS.out] at h1
      exact RetB.mk h1.len rfl (h1.ow (by omega)) hb.out
end Go.Proofs.Ytabcbpcfleociaa

/- The document's Put. (The drawn region is printed by gen_rput.py.) -/
namespace Go.Proofs.Ytabcbpcfleociaa
open Go.RowKit Go.Maps
attribute [local go_sem ↓] Go.wp_at_zero Go.wp_at_succ
set_option linter.unusedSimpArgs false
set_option linter.unusedVariables false
set_option maxRecDepth 20000 in
set_option maxHeartbeats 8000000 in
theorem rput_ (AB : Option Addr) (nB cB : Nat) (S : Bk) (no : List Nat) (A0 : Option Addr) (n0 c0 : Nat) (l0 : List UInt8) (w : World) (hv : RkN no w AB nB S) (hnB : nB ≤ 1000000) (hno : ∀ k, k ∈ no → k < w.heap.size) (hS : S.ok) (hr : Rd w w.heap.size 1 A0 n0 (l0.map B8)) (hn : n0 ≤ 1000000) :
    Calls Try.prog 39 #[.agg #[.slice AB nB cB], .slice A0 n0 c0] w (RetB w.heap.size (l0 ++ putL S) w) := by
  obtain ⟨W, hW⟩ : ∃ W, Hid (W = w.alloc (.cells #[.slice AB nB cB] 30)) := ⟨_, Lib.hid rfl⟩
  obtain ⟨GB, hGB⟩ : ∃ g, Hid (g = w.heap.size) := ⟨_, Lib.hid rfl⟩
  have BW : Hid (Below w.heap.size w W) := by rw [hW.out]; exact (Below.refl _ _).alloc (Nat.le_refl _) _
  have RW : Hid (W.rangeAt GB 0 [.slice AB nB cB]) := by rw [hW.out, hGB.out]; exact rangeNew w _ _
  have hGW : Hid (GB < W.heap.size) := by unfold Hid; rw [hGB.out, hW.out, szAlloc]; exact Nat.lt_succ_self _
  have HV := Lib.hid (hv.below BW.out)
  have HNO : Hid (∀ k, k ∈ no → k < W.heap.size) := fun k hk => Nat.lt_of_lt_of_le (hno k hk) BW.out.size
  have hok := Lib.hid hS
  have hSl : Hid (S.length = nB) := hv.len
  have HG0 : Hid (Grow w.heap.size W A0 n0 c0 (l0 ++ putP S 0) (0 < 0)) := ⟨by show Rd _ _ _ _ _ ((l0 ++ []).map B8); rw [List.append_nil]; exact (hr.below BW.out).more BW.out.size, by show (l0 ++ []).length = n0; rw [List.append_nil]; simpa using hr.len, fun h => absurd h (by omega)⟩
  have hl0 : Hid (l0.length ≤ 1000000) := by have := hr.len; rw [List.length_map] at this; unfold Hid; omega
  clear hv hr hS hno
  go_enter Try.func39, Try.ntmps39
  go_wp2_with fail
  rw [← hW.out, ← hGB.out]
  go_loopw [1, 5] (fun x1 x5 wr => ∃ (i m : Nat) (A : Option Addr) (c : Nat), x1 = .slice A m c ∧ x5 = .int .i64 i ∧ i ≤ 5 ∧ Hid (Below W.heap.size W wr) ∧ Hid (Grow w.heap.size wr A m c (l0 ++ putP S i) (0 < i))) (fun _ x5 _ => 5 - (intOf x5).toNat)
  case atStart => exact ⟨0, n0, A0, c0, rfl, rfl, by omega, Below.refl _ _, HG0⟩
  case round =>
    obtain ⟨i, m, A, c, rfl, rfl, hi, hb, HG⟩ := hrel
    by_cases h5 : i < 5
    · have h5' : (i : Int) < 5 := by omega
      have hi0 : (0 : Int) ≤ (i : Int) := by omega
      have e8 : IntKind.i64.wrap ((i : Int) + 1) = ((i + 1 : Nat) : Int) := by rw [IntWalk.i64_in _ (by omega)]; omega
      have r0 := range_keep RW.out hb.out hGW.out
      have c0' := r0 0 _ rfl
      have hpl := Lib.hid (putP_len hok.out i)
      go_wp2_with fail
      clear c0'
      refine (refOf_ AB nB cB S (i : Int) no wr (HV.out.below hb.out) hnB (fun k hk => Nat.lt_of_lt_of_le (HNO.out k hk) hb.out.size)).mono ?_
      rintro e w0 ⟨RA, L, rc, rfl, hLc, hrk, b0⟩
      have HRK := Lib.hid hrk
      have hL : Hid ((ofA S (i : Int)).length = L) := by rw [← selA_len]; exact hrk.len
      have hLs : Hid (L ≤ 1000000) := by rw [← hL.out]; exact Nat.le_trans (ofA_len _ _) (by rw [hSl.out]; exact hnB)
      have HGa := Lib.hid (HG.out.below b0)
      have B0 := Lib.hid b0
      have hmb : Hid ((l0 ++ putP S i).length ≤ 140000000000000) := by
        have h1 := hpl.out; have h2 := hl0.out; have h3 := hSl.out
        have h4 : i * (6 + 44 * S.length) ≤ 5 * (6 + 44 * 1048576) := Nat.mul_le_mul (by omega) (by omega)
        rw [List.length_append]; unfold Hid; omega
      obtain ⟨lp, hlp⟩ : ∃ l, Hid (l0 ++ putP S i = l) := ⟨_, Lib.hid rfl⟩
      rw [hlp.out] at HGa hmb
      clear hrk b0 HG
      go_wp2_with fail
      refine (refNumber_any A m c lp (L : Int) w0 HGa.out.rd (by have := hmb.out; omega)).mono ?_
      rintro e w1 hr1
      obtain ⟨A1, m1, c1, rfl, hm1, o1, b1⟩ := hr1.n
      have HO1 := Lib.hid o1
      have B1 := Lib.hid (B0.out.trans (b1.mono B0.out.size))
      have HR1 := Lib.hid (HRK.out.below b1)
      have hb1s := b1.size
      clear hr1 o1 b1 HGa HRK
      go_wp2_with fail
      obtain ⟨wo, hwo⟩ : ∃ wo, wo = wr := ⟨wr, rfl⟩
      subst hwo
      go_loopw [1, 7] (fun x1 x7 wr => ∃ (j m : Nat) (A : Option Addr) (c : Nat), x1 = .slice A m c ∧ x7 = .int .i64 j ∧ j ≤ L ∧ Hid (Below w1.heap.size w1 wr) ∧ Hid (Grow w.heap.size wr A m c (lp ++ numL (L : Int) ++ knsB ((ofA S (i : Int)).take j)) True)) (fun _ x7 _ => L - (intOf x7).toNat)
      case atStart => exact ⟨0, m1, A1, c1, rfl, rfl, by omega, Below.refl _ _, by show Grow _ _ _ _ _ (lp ++ numL (L : Int) ++ []) _; rw [List.append_nil]; exact Grow.of hm1.out HO1.out (Nat.le_trans BW.out.size (Nat.le_trans hb.out.size B0.out.size))⟩
      case round =>
        obtain ⟨j, m2, A2, c2, rfl, rfl, hj, hbo, HG2⟩ := hrel
        by_cases hjL : j < L
        · have hjL' : (j : Int) < (L : Int) := by omega
          have hj0 : (0 : Int) ≤ (j : Int) := by omega
          have e9 : IntKind.i64.wrap ((j : Int) + 1) = ((j + 1 : Nat) : Int) := by have := hLs.out; rw [IntWalk.i64_in _ (by omega)]; omega
          obtain ⟨k, hk⟩ : ∃ k, (ofA S (i : Int))[j]? = some k := ⟨_, List.getElem?_eq_getElem (by rw [hL.out]; exact hjL)⟩
          obtain ⟨x, hx, hxk⟩ := sel_get hk
          have hko := Lib.hid (hok.out.of (List.mem_of_getElem? hk))
          have hsn := Lib.hid (knsB_snoc hk)
          obtain ⟨rb, ro, q, rfl, hrb, _, hrg, hqx⟩ := HR1.out.at_ hx
          obtain ⟨X, hX⟩ : ∃ W, Hid (W = wr.drew) := ⟨_, Lib.hid rfl⟩
          go_wp2_with fail
          have dX : Below wr.heap.size wr X := by rw [hX.out]; exact below_drew (Below.refl _ _)
          have BX1 : Below w1.heap.size w1 X := hbo.out.trans (dX.mono hbo.out.size)
          have HC2 : Hid (∀ w', Below X.heap.size X w' → w'.cell? ⟨rb, ro + j * 4 + 2, none⟩ = some (.slice q.bA q.bn q.bc)) := fun w' h' =>
            (World.cell?_of_block (a := ⟨rb, ro + j * 4 + 2, none⟩) ((h'.block rb (Nat.lt_of_lt_of_le hrb BX1.size)).trans (BX1.block rb hrb))).trans (hrg 2 _ rfl)
          have HC3 : Hid (∀ w', Below X.heap.size X w' → w'.cell? ⟨rb, ro + j * 4 + 3, none⟩ = some (.int .i64 k.ep)) := fun w' h' =>
            (World.cell?_of_block (a := ⟨rb, ro + j * 4 + 3, none⟩) ((h'.block rb (Nat.lt_of_lt_of_le hrb BX1.size)).trans (BX1.block rb hrb))).trans ((hrg 3 _ rfl).trans (by rw [hqx.ep, hxk]))
          have hbd : Hid (Rd X X.heap.size 1 q.bA q.bn (k.bd.map B8)) := by rw [← hxk]; exact (hqx.bd.1.below BX1).more BX1.size
          have HGX := Lib.hid (HG2.out.below dX)
          have BX : Hid (Below wr.heap.size wr X) := dX
          have hll : Hid ((lp ++ numL (L : Int) ++ knsB ((ofA S (i : Int)).take j)).length ≤ 140000100000000) := by
            have h1 := hmb.out
            have h2 := (numL_len (L : Int)).2
            have h3 := knsB_len ((ofA S (i : Int)).take j) (fun k hk => hok.out.of (List.mem_of_mem_take hk))
            have h4 : ((ofA S (i : Int)).take j).length ≤ 1048576 := by rw [List.length_take]; have := hLs.out; have := hL.out; omega
            rw [List.length_append, List.length_append]; unfold Hid; omega
          obtain ⟨lq, hlq⟩ : ∃ l, Hid (lp ++ numL (L : Int) ++ knsB ((ofA S (i : Int)).take j) = l) := ⟨_, Lib.hid rfl⟩
          rw [hlq.out] at HGX hll
          obtain ⟨bA, bn, bc, hq1⟩ : ∃ bA bn bc, Hid (q.bA = bA ∧ q.bn = bn ∧ q.bc = bc) := ⟨_, _, _, rfl, rfl, rfl⟩
          rw [hq1.out.1, hq1.out.2.1, hq1.out.2.2] at HC2
          rw [hq1.out.1, hq1.out.2.1] at hbd
          clear hk hx hqx hrg hrb dX BX1 hxk
          refine wp_region_noPanic ?_
          refine wp_region_held_drew (S := fun w' => Below X.heap.size X w') (by kernel_rfl) (by rw [← hX.out]; exact Below.refl _ _) (fun hS => ?_)
          rw [← hX.out]
          clear hS
          have hS : Below X.heap.size X X := Below.refl _ _
          refine wpAnyH_take (i := 0) (v := ?v0) rfl (by kernel_rfl) (by kernel_rfl) (by kernel_rfl) (fun _ _ _ h => h) (Or.inl ⟨by rfl, ?hy0⟩) hS ?rest0
          case hy0 => (intro w' hSw; go_simp; first | done | with_reducible rfl)
          try simp only [Act.put, List.getElem_toArray, List.getElem_cons_zero, List.getElem_cons_succ, List.setIfInBounds_toArray, List.set_cons_zero, List.set_cons_succ]
          refine wpAnyH_take (i := 1) (v := ?v1) rfl (by kernel_rfl) (by kernel_rfl) (by kernel_rfl) (fun _ _ _ h => h) (Or.inl ⟨by rfl, ?hy1⟩) hS ?rest1
          case hy1 => (intro w' hSw; go_simp; first | done | with_reducible rfl)
          try simp only [Act.put, List.getElem_toArray, List.getElem_cons_zero, List.getElem_cons_succ, List.setIfInBounds_toArray, List.set_cons_zero, List.set_cons_succ]
          refine wpAnyH_take (i := 2) (v := ?v2) rfl (by kernel_rfl) (by kernel_rfl) (by kernel_rfl) (fun _ _ _ h => h) (Or.inl ⟨by rfl, ?hy2⟩) hS ?rest2
          case hy2 => (intro w' hSw; go_simp; first | done | with_reducible rfl)
          try simp only [Act.put, List.getElem_toArray, List.getElem_cons_zero, List.getElem_cons_succ, List.setIfInBounds_toArray, List.set_cons_zero, List.set_cons_succ]
          refine wpAnyH_take (i := 3) (v := ?v3) rfl (by kernel_rfl) (by kernel_rfl) (by kernel_rfl) (fun _ _ _ h => h) (Or.inl ⟨by rfl, ?hy3⟩) hS ?rest3
          case hy3 => (intro w' hSw; go_simp; first | done | with_reducible rfl)
          try simp only [Act.put, List.getElem_toArray, List.getElem_cons_zero, List.getElem_cons_succ, List.setIfInBounds_toArray, List.set_cons_zero, List.set_cons_succ]
          refine wpAnyH_take (i := 4) (v := ?v4) rfl (by kernel_rfl) (by kernel_rfl) (by kernel_rfl) (fun _ _ _ h => h) (Or.inl ⟨by rfl, ?hy4⟩) hS ?rest4
          case hy4 => (intro w' hSw; go_simp; first | done | with_reducible rfl)
          try simp only [Act.put, List.getElem_toArray, List.getElem_cons_zero, List.getElem_cons_succ, List.setIfInBounds_toArray, List.set_cons_zero, List.set_cons_succ]
          refine wpAnyH_take (i := 5) (v := .slice bA bn bc) rfl (by kernel_rfl) (by kernel_rfl) (by kernel_rfl) (fun _ _ _ h => h) (Or.inl ⟨by rfl, ?hy5⟩) hS ?rest5
          case hy5 => (intro w' hSw; have c0 := HC2.out w' hSw; go_simp; first | done | with_reducible rfl)
          try simp only [Act.put, List.getElem_toArray, List.getElem_cons_zero, List.getElem_cons_succ, List.setIfInBounds_toArray, List.set_cons_zero, List.set_cons_succ]
          refine wpAnyH_take (i := 7) (v := ?v7) rfl (by kernel_rfl) (by kernel_rfl) (by kernel_rfl) (fun _ _ _ h => h) (Or.inl ⟨by rfl, ?hy7⟩) hS ?rest7
          case hy7 => (intro w' hSw; go_simp; first | done | with_reducible rfl)
          try simp only [Act.put, List.getElem_toArray, List.getElem_cons_zero, List.getElem_cons_succ, List.setIfInBounds_toArray, List.set_cons_zero, List.set_cons_succ]
          refine wpAnyH_take (i := 8) (v := ?v8) rfl (by kernel_rfl) (by kernel_rfl) (by kernel_rfl) (fun _ _ _ h => h) (Or.inl ⟨by rfl, ?hy8⟩) hS ?rest8
          case hy8 => (intro w' hSw; go_simp; first | done | with_reducible rfl)
          try simp only [Act.put, List.getElem_toArray, List.getElem_cons_zero, List.getElem_cons_succ, List.setIfInBounds_toArray, List.set_cons_zero, List.set_cons_succ]
          refine wpAnyH_take (i := 9) (v := ?v9) rfl (by kernel_rfl) (by kernel_rfl) (by kernel_rfl) (fun _ _ _ h => h) (Or.inl ⟨by rfl, ?hy9⟩) hS ?rest9
          case hy9 => (intro w' hSw; go_simp; first | done | with_reducible rfl)
          try simp only [Act.put, List.getElem_toArray, List.getElem_cons_zero, List.getElem_cons_succ, List.setIfInBounds_toArray, List.set_cons_zero, List.set_cons_succ]
          refine wpAnyH_take (i := 10) (v := ?v10) rfl (by kernel_rfl) (by kernel_rfl) (by kernel_rfl) (fun _ _ _ h => h) (Or.inl ⟨by rfl, ?hy10⟩) hS ?rest10
          case hy10 => (intro w' hSw; go_simp; first | done | with_reducible rfl)
          try simp only [Act.put, List.getElem_toArray, List.getElem_cons_zero, List.getElem_cons_succ, List.setIfInBounds_toArray, List.set_cons_zero, List.set_cons_succ]
          refine wpAnyH_take (i := 11) (v := .int .i64 k.ep) rfl (by kernel_rfl) (by kernel_rfl) (by kernel_rfl) (fun _ _ _ h => h) (Or.inl ⟨by rfl, ?hy11⟩) hS ?rest11
          case hy11 => (intro w' hSw; have c0 := HC3.out w' hSw; go_simp; first | done | with_reducible rfl)
          try simp only [Act.put, List.getElem_toArray, List.getElem_cons_zero, List.getElem_cons_succ, List.setIfInBounds_toArray, List.set_cons_zero, List.set_cons_succ]
          refine wpAnyH_ready (rs := [6]) (by kernel_rfl) (by simp) ?_
          refine AllReadyH.cons rfl (fun K hK => ?_) AllReadyH.nil
          go_simp
          refine (refText_any A2 m2 c2 lq bA bn bc k.bd X HGX.out.rd hbd.out (by have h1 := hll.out; have h2 := hko.out.bd; omega)).mono ?_
          rintro e u hr2
          obtain ⟨A3, m3, c3, rfl, hm3, o3, b3⟩ := hr2.n
          have O3 := Lib.hid o3
          have B3 := Lib.hid b3
          clear hr2 o3 b3
          go_wp2_with fail
          refine hK.out _ _ B3.out ?_
          intro hS
          clear hK K hS
          try simp only [Act.put, List.getElem_toArray, List.getElem_cons_zero, List.getElem_cons_succ, List.setIfInBounds_toArray, List.set_cons_zero, List.set_cons_succ]
          have hS : Below X.heap.size X u := B3.out
          refine wpAnyH_ready (rs := [12]) (by kernel_rfl) (by simp) ?_
          refine AllReadyH.cons rfl (fun K hK => ?_) AllReadyH.nil
          go_simp
          refine (refNumber_any A3 m3 c3 (lq ++ textL k.bd) k.ep u (Rd.of_own O3.out) (by have h1 := hll.out; have h2 := hko.out.bd; have h3 := (numL_len k.bd.length).2; unfold textL; simp only [List.length_append]; omega)).mono ?_
          rintro e v hr2
          obtain ⟨A4, m4, c4, rfl, hm4, o4, b4⟩ := hr2.n
          have O4 := Lib.hid o4
          have B4 := Lib.hid (B3.out.trans (b4.mono B3.out.size))
          clear hr2 o4 b4
          go_wp2_with fail
          refine hK.out _ _ B4.out ?_
          intro hS
          clear hK K hS
          try simp only [Act.put, List.getElem_toArray, List.getElem_cons_zero, List.getElem_cons_succ, List.setIfInBounds_toArray, List.set_cons_zero, List.set_cons_succ]
          have hS : Below X.heap.size X v := B4.out
          refine wpAnyH_take (i := 13) (v := ?v13) rfl (by kernel_rfl) (by kernel_rfl) (by kernel_rfl) (fun _ _ _ h => h) (Or.inl ⟨by rfl, ?hy13⟩) hS ?rest13
          case hy13 => (intro w' hSw; go_simp; first | done | with_reducible rfl)
          try simp only [Act.put, List.getElem_toArray, List.getElem_cons_zero, List.getElem_cons_succ, List.setIfInBounds_toArray, List.set_cons_zero, List.set_cons_succ]
          refine wpAnyH_done (by kernel_rfl) (NoPanic.normal ?_) _
          have BV := Lib.hid (hbo.out.trans ((BX.out.trans (B4.out.mono BX.out.size)).mono hbo.out.size))
          have hlast : Hid (lq ++ textL k.bd ++ numL k.ep = lp ++ numL (L : Int) ++ knsB ((ofA S (i : Int)).take (j + 1))) := by
            rw [hsn.out, ← hlq.out]; unfold Hid knB; simp only [List.append_assoc]
          have GV : Hid (Grow w.heap.size v A4 m4 c4 (lp ++ numL (L : Int) ++ knsB ((ofA S (i : Int)).take (j + 1))) True) := by
            rw [← hlast.out]
            exact Grow.of hm4.out O4.out (Nat.le_trans BW.out.size (Nat.le_trans hb.out.size (Nat.le_trans B1.out.size (Nat.le_trans hbo.out.size (Nat.le_trans BX.out.size B3.out.size)))))
          go_wp2_with fail
          go_roundw
          case rel => exact ⟨j + 1, m4, A4, c4, rfl, by go_num, hjL, BV, GV⟩
          case measure => simp only [intOf]; omega
        · have hjS : Hid (j = L) := (by omega : j = L)
          have hjL' : ¬ (j : Int) < (L : Int) := by omega
          have HG3 : Hid (Grow w.heap.size wr A2 m2 c2 (l0 ++ putP S (i + 1)) (0 < i + 1)) := by
            have h1 := HG2.out
            rw [List.take_of_length_le (by rw [hL.out, hjS.out]; exact Nat.le_refl _), ← hlp.out] at h1
            have e : l0 ++ putP S i ++ numL (L : Int) ++ knsB (ofA S (i : Int)) = l0 ++ putP S (i + 1) := by
              show _ = l0 ++ (putP S i ++ numL ((ofA S (i : Int)).length : Nat) ++ knsB (ofA S (i : Int)))
              rw [hL.out]; simp only [List.append_assoc]
            rw [e] at h1
            exact h1.weak (fun _ => trivial)
          have BV := Lib.hid (hb.out.trans ((B1.out.trans (hbo.out.mono B1.out.size)).mono hb.out.size))
          go_wp2_with fail
          go_roundw
          case rel => exact ⟨i + 1, m2, A2, c2, rfl, by go_num, h5, BV, HG3⟩
          case measure => simp only [intOf]; omega
    · have hiS : Hid (i = 5) := (by omega : i = 5)
      have h5' : ¬ (i : Int) < 5 := by omega
      go_wp2_with fail
      go_ret
      have h1 := HG.out
      rw [hiS.out] at h1
      exact RetB.mk h1.len rfl (h1.ow (by omega)) (BW.out.trans (hb.out.mono BW.out.size))
end Go.Proofs.Ytabcbpcfleociaa

/- The document's Vector; are two lists of heads the same. (Regions printed by gen_rvec.py.) -/
namespace Go.Proofs.Ytabcbpcfleociaa
open Go.RowKit Go.Maps
attribute [local go_sem ↓] Go.wp_at_zero Go.wp_at_succ
set_option linter.unusedSimpArgs false
set_option linter.unusedVariables false
set_option maxRecDepth 8000 in
set_option maxHeartbeats 4000000 in
theorem rvector_ (AB : Option Addr) (nB cB : Nat) (S : Bk) (no : List Nat) (w : World) (hv : RkN no w AB nB S) (hnB : nB ≤ 1000000) (hno : ∀ k, k ∈ no → k < w.heap.size) :
    Calls Try.prog 37 #[.agg #[.slice AB nB cB]] w fun e w' => ∃ A n c, e = .returned (.slice A n c) ∧ n ≤ c ∧ HdN no w' A n (vecL S) ∧ Below w.heap.size w w' := by
  obtain ⟨W, hW⟩ : ∃ W, Hid (W = w.alloc (.cells #[.slice AB nB cB] 30)) := ⟨_, Lib.hid rfl⟩
  obtain ⟨GB, hGB⟩ : ∃ g, Hid (g = w.heap.size) := ⟨_, Lib.hid rfl⟩
  have BW : Hid (Below w.heap.size w W) := by rw [hW.out]; exact (Below.refl _ _).alloc (Nat.le_refl _) _
  have RW : Hid (W.rangeAt GB 0 [.slice AB nB cB]) := by rw [hW.out, hGB.out]; exact rangeNew w _ _
  have hGW : Hid (GB < W.heap.size) := by unfold Hid; rw [hGB.out, hW.out, szAlloc]; exact Nat.lt_succ_self _
  have HV := Lib.hid (hv.below BW.out)
  have HNO : Hid (∀ k, k ∈ no → k < W.heap.size) := fun k hk => Nat.lt_of_lt_of_le (hno k hk) BW.out.size
  have hSl : Hid (S.length = nB) := hv.len
  clear hv hno
  go_enter Try.func37, Try.ntmps37
  go_wp2_with fail
  rw [← hW.out, ← hGB.out]
  go_loopw [3, 4] (fun x3 x4 wr => ∃ (i m : Nat) (A : Option Addr) (c : Nat), x3 = .slice A m c ∧ x4 = .int .i64 i ∧ i ≤ 5 ∧ m ≤ i ∧ Hid (Below W.heap.size W wr) ∧ Hid (∃ Qs, OwnH no W.heap.size wr A m c (vecP S i) Qs)) (fun _ x4 _ => 5 - (intOf x4).toNat)
  case atStart => exact ⟨0, 0, none, 0, rfl, rfl, by omega, by omega, Below.refl _ _, [], OwnH.nil _ _ _⟩
  case round =>
    obtain ⟨i, m, A, c, rfl, rfl, hi, hmi, hb, hQ⟩ := hrel
    by_cases h5 : i < 5
    · have h5' : (i : Int) < 5 := by omega
      have e8 : IntKind.i64.wrap ((i : Int) + 1) = ((i + 1 : Nat) : Int) := by rw [IntWalk.i64_in _ (by omega)]; omega
      have c0 := (range_keep RW.out hb.out hGW.out) 0 _ rfl
      go_wp2_with fail
      clear c0
      refine (refOf_ AB nB cB S (i : Int) no wr (HV.out.below hb.out) hnB (fun k hk => Nat.lt_of_lt_of_le (HNO.out k hk) hb.out.size)).mono ?_
      rintro e w0 ⟨RA, L, rc, rfl, hLc, hrk, b0⟩
      have hL : Hid ((ofA S (i : Int)).length = L) := by rw [← selA_len]; exact hrk.len
      have B0 := Lib.hid (hb.out.trans (b0.mono hb.out.size))
      have HQ0 : Hid (∃ Qs, OwnH no W.heap.size w0 A m c (vecP S i) Qs) := by
        obtain ⟨Qs, hq⟩ := hQ.out
        exact ⟨Qs, hq.to b0⟩
      clear hrk b0
      by_cases hz : L = 0
      · have hvs : vecP S (i + 1) = vecP S i := by
          show (if _ then _ else _) = _
          rw [if_pos (List.eq_nil_of_length_eq_zero (by rw [hL.out]; exact hz))]
        have hz' : ¬ (0 : Int) < (L : Int) := by omega
        go_wp2_with fail
        go_roundw
        case rel => exact ⟨i + 1, m, A, c, rfl, by go_num, h5, by omega, B0, by rw [hvs]; exact HQ0⟩
        case measure => simp only [intOf]; omega
      · have hvs : Hid (vecP S (i + 1) = vecP S i ++ [headL S i]) := by
          show (if _ then _ else _) = _
          rw [if_neg (fun h => hz (by rw [← hL.out, h]; rfl))]
        have hz' : (0 : Int) < (L : Int) := by omega
        have c0 := (range_keep RW.out B0.out hGW.out) 0 _ rfl
        go_wp2_with fail
        clear c0
        obtain ⟨Qs, hq⟩ := HQ0.out
        have hge := Lib.hid (own_block_ge2 hq.row)
        have HRK : Hid (RkN ((Value.slice A m c).ownBlock.toList ++ no) w0 AB nB S) := HV.out.fr (own := []) (own' := []) ⟨B0.out.os, B0.out.tape, B0.out.output, B0.out.size, fun k hk _ => B0.out.block k hk, fun _ h => absurd h (by simp)⟩ (fun _ h => absurd h (by simp)) (fun k hk => by
          rcases List.mem_append.1 hk with h | h
          · simp at h; exact Or.inr (hge.out k h)
          · exact Or.inl h)
        have HQ1 := Lib.hid hq
        have hnn : ∀ k, k ∈ (Value.slice A m c).ownBlock.toList ++ no → k < w0.heap.size := hq.blk (fun k hk => Nat.lt_of_lt_of_le (HNO.out k hk) B0.out.size)
        refine (refHead_in AB nB cB S (i : Int) _ w0 HRK.out hnB hnn (by omega) h5').mono ?_
        rintro e w1 ⟨D, dn, dc, rfl, hdc, hdg, b1⟩
        rw [hL.out]
        have HDG := Lib.hid hdg
        have BV : Hid (Below w0.heap.size w0 (w1.alloc (.cells #[.int .i64 i, .int .i64 L, .slice D dn dc] 45))) := b1.alloc b1.size _
        have HQ2 := Lib.hid (HQ1.out.to BV.out)
        have hw1 := Lib.hid b1
        clear hdg b1 hq hnn
        go_wp2_with (at_builtin
                     have hq' := HQ2.out
                     refine wpList_app rfl (.tmp 14) (.tmp 18) 71 rfl W.heap.size 45 3 40 _ Try.underlying71 infoH rfl (by decide) (.slice A m c) m _ rfl hq'.row _ (some ⟨w1.heap.size, 0, none⟩) 1 1 (hqC ⟨i, L, D, dn, dc⟩) rfl (rowH _ ⟨i, L, D, dn, dc⟩ _) (hqC_one _) (by simp only [maxLen]; omega) (by omega) (Nat.le_trans B0.out.size BV.out.size) ?_
                     intro A6 c6 w6 o6 g6 k6
                     have B6 : Hid (Below W.heap.size W w6) := (B0.out.trans (BV.out.mono B0.out.size)).trans (below_grown g6 hge.out (Nat.le_trans B0.out.size BV.out.size))
                     have Q6 : Hid (∃ Qs, OwnH no W.heap.size w6 A6 (m + 1) c6 (vecP S (i + 1)) Qs) := by
                       rw [hvs.out]
                       exact ⟨_, hq'.snoc (q := ⟨i, L, D, dn, dc⟩) ⟨rfl, by show (L : Int) = ((ofA S i).length : Nat); rw [hL.out], HDG.out.fr (own := []) (own' := []) (Fr.below ((Below.refl _ _).alloc (Nat.le_refl _) _)) (fun _ h => absurd h (by simp)) (fun _ h => Or.inl h)⟩ g6 k6 o6⟩
                     clear o6 g6 k6 hq')
        go_roundw
        case rel => exact ⟨i + 1, m + 1, A6, c6, rfl, by go_num, h5, by omega, B6, Q6⟩
        case measure => simp only [intOf]; omega
    · have hiS : Hid (i = 5) := (by omega : i = 5)
      have h5' : ¬ (i : Int) < 5 := by omega
      go_wp2_with fail
      go_ret
      obtain ⟨Qs, hq⟩ := hQ.out
      rw [hiS.out] at hq
      exact ⟨A, m, c, rfl, own_cap hq.row, hq.hdN HNO.out, BW.out.trans (hb.out.mono BW.out.size)⟩
instance : DecidableEq Hd := fun a b => by
  rcases a with ⟨a1, a2, a3⟩
  rcases b with ⟨b1, b2, b3⟩
  exact decidable_of_iff (a1 = b1 ∧ a2 = b2 ∧ a3 = b3) (by simp)
theorem hd_eq (a b : Hd) : decide (a.au = b.au ∧ a.sq = b.sq ∧ a.dg = b.dg) = decide (a = b) := by
  rcases a with ⟨a1, a2, a3⟩
  rcases b with ⟨b1, b2, b3⟩
  simp
set_option maxRecDepth 8000 in
set_option maxHeartbeats 4000000 in
theorem sameHeads_ (A : Option Addr) (n c : Nat) (Hs : List Hd) (A' : Option Addr) (n' c' : Nat) (Hs' : List Hd) (no no' : List Nat) (w : World) (hv : HdN no w A n Hs) (hv' : HdN no' w A' n' Hs') (hn : n ≤ 1000000) :
    Calls Try.prog 35 #[.slice A n c, .slice A' n' c'] w fun e w' => e = .returned (.bool (decide (Hs = Hs'))) ∧ Below w.heap.size w w' := by
  have HV := Lib.hid hv
  have HV' := Lib.hid hv'
  have hl : Hid (Hs.length = n) := hv.len
  have hl' : Hid (Hs'.length = n') := hv'.len
  clear hv hv'
  by_cases hnn : n = n'
  · subst hnn
    go_enter Try.func35, Try.ntmps35
    go_wp2_with fail
    go_loopw [5] (fun x5 wr => ∃ (i : Nat), x5 = .int .i64 i ∧ i ≤ n ∧ Hid (Below w.heap.size w wr) ∧ Hid (Hs.take i = Hs'.take i)) (fun x5 _ => n - (intOf x5).toNat)
    case atStart => exact ⟨0, rfl, by omega, Below.refl _ _, rfl⟩
    case round =>
      obtain ⟨i, rfl, hi, hb, ht⟩ := hrel
      by_cases hin : i < n
      · have hin' : (i : Int) < (n : Int) := by omega
        have hi0 : (0 : Int) ≤ (i : Int) := by omega
        have e8 : IntKind.i64.wrap ((i : Int) + 1) = ((i + 1 : Nat) : Int) := by rw [IntWalk.i64_in _ (by omega)]; omega
        obtain ⟨x, hx⟩ : ∃ x, Hs[i]? = some x := ⟨_, List.getElem?_eq_getElem (by rw [hl.out]; exact hin)⟩
        obtain ⟨y, hy⟩ : ∃ y, Hs'[i]? = some y := ⟨_, List.getElem?_eq_getElem (by rw [hl'.out]; exact hin)⟩
        obtain ⟨b, o, ⟨au, sq, D, dm, dc⟩, rfl, hbb, _, hrb, hqx⟩ := HV.out.at_ hx
        obtain ⟨b', o', ⟨au', sq', D', dm', dc'⟩, rfl, hbb', _, hrb', hqx'⟩ := HV'.out.at_ hy
        have hsx : Hid (Hs.take (i + 1) = Hs.take i ++ [x]) := by unfold Hid; rw [List.take_add_one, hx]; rfl
        have hsy : Hid (Hs'.take (i + 1) = Hs'.take i ++ [y]) := by unfold Hid; rw [List.take_add_one, hy]; rfl
        obtain ⟨xau, xsq, xdg⟩ := x
        obtain ⟨yau, ysq, ydg⟩ := y
        obtain rfl : au = xau := hqx.au
        obtain rfl : sq = xsq := hqx.sq
        obtain rfl : au' = yau := hqx'.au
        obtain rfl : sq' = ysq := hqx'.sq
        go_wp2_with fail
        obtain ⟨X, hX⟩ : ∃ W, Hid (W = wr.drew) := ⟨_, Lib.hid rfl⟩
        have dX : Below wr.heap.size wr X := by rw [hX.out]; exact below_drew (Below.refl _ _)
        have BX : Below w.heap.size w X := hb.out.trans (dX.mono hb.out.size)
        have HC : Hid (∀ w', Below X.heap.size X w' → ∀ j v, (hqC ⟨au, sq, D, dm, dc⟩)[j]? = some v → w'.cell? ⟨b, o + i * 3 + j, none⟩ = some v) := fun w' h' j v hj =>
          (World.cell?_of_block (a := ⟨b, o + i * 3 + j, none⟩) ((h'.block b (Nat.lt_of_lt_of_le hbb BX.size)).trans (BX.block b hbb))).trans (hrb j v hj)
        have HC' : Hid (∀ w', Below X.heap.size X w' → ∀ j v, (hqC ⟨au', sq', D', dm', dc'⟩)[j]? = some v → w'.cell? ⟨b', o' + i * 3 + j, none⟩ = some v) := fun w' h' j v hj =>
          (World.cell?_of_block (a := ⟨b', o' + i * 3 + j, none⟩) ((h'.block b' (Nat.lt_of_lt_of_le hbb' BX.size)).trans (BX.block b' hbb'))).trans (hrb' j v hj)
        have HD : Hid (Rd X X.heap.size 1 D dm (xdg.map B8)) := (hqx.dg.1.below BX).more BX.size
        have HD' : Hid (Rd X X.heap.size 1 D' dm' (ydg.map B8)) := (hqx'.dg.1.below BX).more BX.size
        have BXH := Lib.hid BX
        clear hx hy hqx hqx' hrb hrb' hbb hbb' dX BX
        refine wp_region_noPanic ?_
        refine wp_region_held_drew (S := fun w' => Below X.heap.size X w') (by kernel_rfl) (by rw [← hX.out]; exact Below.refl _ _) (fun hS => ?_)
        rw [← hX.out]
        clear hS
        have hS : Below X.heap.size X X := Below.refl _ _
        refine wpAnyH_take (i := 0) (v := ?v0) rfl (by kernel_rfl) (by kernel_rfl) (by kernel_rfl) (fun _ _ _ h => h) (Or.inl ⟨by rfl, ?hy0⟩) hS ?rest0
        case hy0 => (intro w' hSw; go_simp; first | done | with_reducible rfl)
        try simp only [Act.put, List.getElem_toArray, List.getElem_cons_zero, List.getElem_cons_succ, List.setIfInBounds_toArray, List.set_cons_zero, List.set_cons_succ]
        refine wpAnyH_take (i := 1) (v := ?v1) rfl (by kernel_rfl) (by kernel_rfl) (by kernel_rfl) (fun _ _ _ h => h) (Or.inl ⟨by rfl, ?hy1⟩) hS ?rest1
        case hy1 => (intro w' hSw; go_simp; first | done | with_reducible rfl)
        try simp only [Act.put, List.getElem_toArray, List.getElem_cons_zero, List.getElem_cons_succ, List.setIfInBounds_toArray, List.set_cons_zero, List.set_cons_succ]
        refine wpAnyH_take (i := 2) (v := ?v2) rfl (by kernel_rfl) (by kernel_rfl) (by kernel_rfl) (fun _ _ _ h => h) (Or.inl ⟨by rfl, ?hy2⟩) hS ?rest2
        case hy2 => (intro w' hSw; go_simp; first | done | with_reducible rfl)
        try simp only [Act.put, List.getElem_toArray, List.getElem_cons_zero, List.getElem_cons_succ, List.setIfInBounds_toArray, List.set_cons_zero, List.set_cons_succ]
        refine wpAnyH_take (i := 3) (v := .agg #[.int .i64 au, .int .i64 sq, .slice D dm dc]) rfl (by kernel_rfl) (by kernel_rfl) (by kernel_rfl) (fun _ _ _ h => h) (Or.inl ⟨by rfl, ?hy3⟩) hS ?rest3
        case hy3 => (intro w' hSw; have c0 : w'.cell? ⟨b, o + i * 3, none⟩ = some (.int .i64 au) := HC.out w' hSw 0 _ rfl; have c1 : w'.cell? ⟨b, o + i * 3 + 1, none⟩ = some (.int .i64 sq) := HC.out w' hSw 1 _ rfl; have c2 : w'.cell? ⟨b, o + i * 3 + 2, none⟩ = some (.slice D dm dc) := HC.out w' hSw 2 _ rfl; go_simp; first | done | with_reducible rfl)
        try simp only [Act.put, List.getElem_toArray, List.getElem_cons_zero, List.getElem_cons_succ, List.setIfInBounds_toArray, List.set_cons_zero, List.set_cons_succ]
        refine wpAnyH_take (i := 4) (v := ?v4) rfl (by kernel_rfl) (by kernel_rfl) (by kernel_rfl) (fun _ _ _ h => h) (Or.inl ⟨by rfl, ?hy4⟩) hS ?rest4
        case hy4 => (intro w' hSw; go_simp; first | done | with_reducible rfl)
        try simp only [Act.put, List.getElem_toArray, List.getElem_cons_zero, List.getElem_cons_succ, List.setIfInBounds_toArray, List.set_cons_zero, List.set_cons_succ]
        refine wpAnyH_take (i := 5) (v := ?v5) rfl (by kernel_rfl) (by kernel_rfl) (by kernel_rfl) (fun _ _ _ h => h) (Or.inl ⟨by rfl, ?hy5⟩) hS ?rest5
        case hy5 => (intro w' hSw; go_simp; first | done | with_reducible rfl)
        try simp only [Act.put, List.getElem_toArray, List.getElem_cons_zero, List.getElem_cons_succ, List.setIfInBounds_toArray, List.set_cons_zero, List.set_cons_succ]
        refine wpAnyH_take (i := 6) (v := ?v6) rfl (by kernel_rfl) (by kernel_rfl) (by kernel_rfl) (fun _ _ _ h => h) (Or.inl ⟨by rfl, ?hy6⟩) hS ?rest6
        case hy6 => (intro w' hSw; go_simp; first | done | with_reducible rfl)
        try simp only [Act.put, List.getElem_toArray, List.getElem_cons_zero, List.getElem_cons_succ, List.setIfInBounds_toArray, List.set_cons_zero, List.set_cons_succ]
        refine wpAnyH_take (i := 7) (v := .agg #[.int .i64 au', .int .i64 sq', .slice D' dm' dc']) rfl (by kernel_rfl) (by kernel_rfl) (by kernel_rfl) (fun _ _ _ h => h) (Or.inl ⟨by rfl, ?hy7⟩) hS ?rest7
        case hy7 => (intro w' hSw; have c0 : w'.cell? ⟨b', o' + i * 3, none⟩ = some (.int .i64 au') := HC'.out w' hSw 0 _ rfl; have c1 : w'.cell? ⟨b', o' + i * 3 + 1, none⟩ = some (.int .i64 sq') := HC'.out w' hSw 1 _ rfl; have c2 : w'.cell? ⟨b', o' + i * 3 + 2, none⟩ = some (.slice D' dm' dc') := HC'.out w' hSw 2 _ rfl; go_simp; first | done | with_reducible rfl)
        try simp only [Act.put, List.getElem_toArray, List.getElem_cons_zero, List.getElem_cons_succ, List.setIfInBounds_toArray, List.set_cons_zero, List.set_cons_succ]
        refine wpAnyH_ready (rs := [8]) (by kernel_rfl) (by simp) ?_
        refine AllReadyH.cons rfl (fun K hK => ?_) AllReadyH.nil
        go_simp
        refine (sameHead_ au sq D dm dc xdg au' sq' D' dm' dc' ydg X HD.out HD'.out).mono ?_
        rintro e u ⟨rfl, b3⟩
        have BU := Lib.hid (BXH.out.trans (b3.mono BXH.out.size))
        go_wp2_with fail
        refine hK.out _ _ b3 ?_
        intro hS
        clear hK K hS
        try simp only [Act.put, List.getElem_toArray, List.getElem_cons_zero, List.getElem_cons_succ, List.setIfInBounds_toArray, List.set_cons_zero, List.set_cons_succ]
        have hS : Below X.heap.size X u := b3
        refine wpAnyH_take (i := 9) (v := .bool (!decide (au = au' ∧ sq = sq' ∧ xdg = ydg))) rfl (by kernel_rfl) (by kernel_rfl) (by kernel_rfl) (fun _ _ _ h => h) (Or.inl ⟨by rfl, ?hy9⟩) hS ?rest9
        case hy9 => (intro w' hSw; go_simp; first | done | with_reducible rfl)
        try simp only [Act.put, List.getElem_toArray, List.getElem_cons_zero, List.getElem_cons_succ, List.setIfInBounds_toArray, List.set_cons_zero, List.set_cons_succ]
        refine wpAnyH_done (by kernel_rfl) (NoPanic.normal ?_) _
        by_cases heq : au = au' ∧ sq = sq' ∧ xdg = ydg
        · have hdd := decide_eq_true heq
          have hnx : Hid (Hs.take (i + 1) = Hs'.take (i + 1)) := by
            obtain ⟨h1, h2, h3⟩ := heq
            unfold Hid
            rw [hsx.out, hsy.out, ht.out, h1, h2, h3]
          rw [hdd]
          clear hdd heq
          go_wp2_with fail
          go_roundw
          case rel => exact ⟨i + 1, by go_num, hin, BU, hnx⟩
          case measure => simp only [intOf]; omega
        · have hdd := decide_eq_false heq
          have hne : decide (Hs = Hs') = false := decide_eq_false fun e => heq (by
            have h1 := hsx.out
            rw [e, hsy.out, ← ht.out, e] at h1
            have h2 := List.append_cancel_left h1
            simp at h2
            exact ⟨h2.1.symm, h2.2.1.symm, h2.2.2.symm⟩)
          rw [hdd]
          clear hdd heq
          go_wp2_with fail
          go_ret
          exact ⟨by first | rfl | (rw [hne]; rfl), BU.out⟩
      · have hiS : Hid (i = n) := (by omega : i = n)
        have hin' : ¬ (i : Int) < (n : Int) := by omega
        have hee : Hs = Hs' := by
          have h1 := ht.out
          rwa [List.take_of_length_le (by rw [hl.out, hiS.out]; exact Nat.le_refl _), List.take_of_length_le (by rw [hl'.out, hiS.out]; exact Nat.le_refl _)] at h1
        have hdd : decide (Hs = Hs') = true := decide_eq_true hee
        go_wp2_with fail
        go_ret
        exact ⟨by first | rfl | (rw [hdd]; rfl), hb.out⟩
  · have hnn' : ¬ (n : Int) = (n' : Int) := by omega
    have hne : decide (Hs = Hs') = false := decide_eq_false fun e => hnn (by rw [← hl.out, ← hl'.out, e])
    go_enter Try.func35, Try.ntmps35
    go_wp2_with fail
    go_ret
    exact ⟨by first | rfl | (rw [hne]; rfl), Below.refl _ _⟩
end Go.Proofs.Ytabcbpcfleociaa

/- Head and At at any author and any number, the program's and the document's. -/
namespace Go.Proofs.Ytabcbpcfleociaa
open Go.RowKit Go.Maps
set_option linter.unusedSimpArgs false
set_option linter.unusedVariables false
def hau (a : Int) : Int := if 0 ≤ a ∧ a < 5 then a else 0
def atK (S : Bk) (a q : Int) : Option Kn := if q < 1 then none else (ofA S a)[(q - 1).toNat]?
def atD (S : Bk) (a q : Int) : List UInt8 := ((atK S a q).map (·.dg)).getD []
def atE (S : Bk) (a q : Int) : Int := ((atK S a q).map (·.ep)).getD 0
theorem head_any (g : Nat) (S : Bk) (own R : List Nat) (a : Int) (w : World) (hB : BookAt w g S own R) :
    Calls Try.prog 18 #[.pointer (some ⟨g, 0, none⟩), .int .i64 a] w fun e w' => ∃ A m c, e = .returned (.agg #[.int .i64 (hau a), .int .i64 (ofA S a).length, .slice A m c]) ∧ Rd w' w'.heap.size 1 A m ((lastDg (ofA S a)).map B8) ∧ Below w.heap.size w w' := by
  by_cases h : 0 ≤ a ∧ a < 5
  · refine (head_in g S own R a w hB h.1 h.2).mono ?_
    rintro e w' ⟨A, m, c, rfl, _, ho, hb⟩
    exact ⟨A, m, c, by rw [hau, if_pos h], ho.rd, hb⟩
  · refine (head_off _ a w (Or.inr (by omega))).mono ?_
    rintro e w' ⟨rfl, hb⟩
    have hz := hB.ok.out h
    exact ⟨none, 0, 0, by rw [hau, if_neg h, hz]; rfl, by rw [hz]; exact Rd.nil _ _ _ _, hb⟩
theorem rhead_any (A : Option Addr) (n c : Nat) (S : Bk) (a : Int) (no : List Nat) (w : World) (hv : RkN no w A n S) (hn : n ≤ 1000000) (hno : ∀ k, k ∈ no → k < w.heap.size) (hok : S.ok) :
    Calls Try.prog 33 #[.agg #[.slice A n c], .int .i64 a] w fun e w' => ∃ D dn dc, e = .returned (.agg #[.int .i64 (hau a), .int .i64 (ofA S a).length, .slice D dn dc]) ∧ Rd w' w'.heap.size 1 D dn ((lastDg (ofA S a)).map B8) ∧ Below w.heap.size w w' := by
  by_cases h : 0 ≤ a ∧ a < 5
  · refine (refHead_in A n c S a no w hv hn hno h.1 h.2).mono ?_
    rintro e w' ⟨D, dn, dc, rfl, _, r, hb⟩
    exact ⟨D, dn, dc, by rw [hau, if_pos h], r.1, hb⟩
  · refine (refHead_off A n c a w (by omega)).mono ?_
    rintro e w' ⟨rfl, r⟩
    have hz := hok.out h
    exact ⟨none, 0, 0, by rw [hau, if_neg h, hz]; rfl, by rw [hz]; exact Rd.nil _ _ _ _, r⟩
theorem atK_no {S : Bk} {a q : Int} (h : q < 1 ∨ (ofA S a).length < q) : atK S a q = none := by
  unfold atK
  by_cases h1 : q < 1
  · rw [if_pos h1]
  · rw [if_neg h1]
    exact List.getElem?_eq_none (by omega)
theorem atK_in {S : Bk} {a q : Int} (h : ¬ (q < 1 ∨ (ofA S a).length < q)) : ∃ (i : Nat) (k : Kn), q = ((i + 1 : Nat) : Int) ∧ (ofA S a)[i]? = some k ∧ atK S a q = some k := by
  have h1 : ¬ q < 1 := fun h' => h (Or.inl h')
  have h2 : (q - 1).toNat < (ofA S a).length := by omega
  refine ⟨(q - 1).toNat, (ofA S a)[(q - 1).toNat], by omega, List.getElem?_eq_getElem h2, ?_⟩
  unfold atK
  rw [if_neg h1]
  exact List.getElem?_eq_getElem h2
theorem at_any (g : Nat) (S : Bk) (own R : List Nat) (a q : Int) (w : World) (hB : BookAt w g S own R) (ha : inI a) :
    Calls Try.prog 23 #[.pointer (some ⟨g, 0, none⟩), .int .i64 a, .int .i64 q] w fun e w' => ∃ A m c, e = .returned (.tuple #[.slice A m c, .int .i64 (atE S a q)]) ∧ Rd w' w'.heap.size 1 A m ((atD S a q).map B8) ∧ Below w.heap.size w w' := by
  by_cases h : q < 1 ∨ (ofA S a).length < q
  · refine (at_no g S own R a q w hB ha h).mono ?_
    rintro e w' ⟨rfl, rfl⟩
    have hz := atK_no h
    exact ⟨none, 0, 0, by rw [atE, hz]; rfl, by rw [atD, hz]; exact Rd.nil _ _ _ _, Below.refl _ _⟩
  · obtain ⟨i, k, rfl, hk, hz⟩ := atK_in h
    refine (at_ g S own R a i k w hB ha hk).mono ?_
    rintro e w' ⟨A', c', rfl, ho, hb⟩
    exact ⟨A', 32, c', by rw [atE, hz]; rfl, by rw [atD, hz]; exact ho.rd, hb⟩
theorem rat_any (A : Option Addr) (n c : Nat) (S : Bk) (a q : Int) (no : List Nat) (w : World) (hv : RkN no w A n S) (hn : n ≤ 1000000) (hno : ∀ k, k ∈ no → k < w.heap.size) :
    Calls Try.prog 34 #[.agg #[.slice A n c], .int .i64 a, .int .i64 q] w fun e w' => ∃ D dn dc, e = .returned (.tuple #[.slice D dn dc, .int .i64 (atE S a q)]) ∧ Rd w' w'.heap.size 1 D dn ((atD S a q).map B8) ∧ Below w.heap.size w w' := by
  by_cases h : q < 1 ∨ (ofA S a).length < q
  · refine (refAt_no A n c S a q no w hv hn hno h).mono ?_
    rintro e w' ⟨rfl, hb⟩
    have hz := atK_no h
    exact ⟨none, 0, 0, by rw [atE, hz]; rfl, by rw [atD, hz]; exact Rd.nil _ _ _ _, hb⟩
  · obtain ⟨i, k, rfl, hk, hz⟩ := atK_in h
    refine (refAt_ A n c S a i k no w hv hn hno hk).mono ?_
    rintro e w' ⟨D, dn, dc, rfl, _, hr, hb⟩
    exact ⟨D, dn, dc, by rw [atE, hz]; rfl, by rw [atD, hz]; exact hr.1, hb⟩
end Go.Proofs.Ytabcbpcfleociaa
