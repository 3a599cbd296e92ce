/- The program's Clone, Sum256. (Printed by gen_shao.py.) -/
import Derived.Test.YtclecmpmohoamaaDoorShaT
import Derived.Test.YtclecmpmohoamaaDoorShaS
namespace Go.Proofs.YtclecmpmohoamaaDoor
open Go.RowKit
set_option linter.unusedVariables false
set_option linter.unusedSimpArgs false

set_option maxRecDepth 20000 in
set_option maxHeartbeats 4000000 in
theorem clone_ (base g r : Nat) (l : List UInt8) (w : World) (hh : Ha w base g r l) (hn : l.length ≤ 1000000) :
    Calls Tryd.prog 24 #[.pointer (some ⟨g, 0, none⟩)] w fun e w' => ∃ g' r', e = .returned (.pointer (some ⟨g', 0, none⟩)) ∧ r' < w'.heap.size ∧ Ha w' w.heap.size g' r' l ∧ Below w.heap.size w w' := by
  obtain ⟨V, A, n, c, hV, hcells, hown, hA⟩ := hh.ex
  have hgl := hh.lt
  obtain ⟨p, hp⟩ : ∃ p, Hid (p = left K32 l) := ⟨_, Lib.hid rfl⟩
  rw [← hp.out] at hown
  obtain ⟨a0, ha0⟩ : ∃ a, Hid (a = l.length) := ⟨_, Lib.hid rfl⟩
  rw [← ha0.out] at hcells
  have hn0 : n ≤ 1000000 := by
    have h1 := hown.len
    rw [List.length_map, hp.out, left_length] at h1
    rw [← h1]
    exact Nat.le_trans (Nat.mod_le _ _) hn
  have Hown := Lib.hid hown
  have Hcells := Lib.hid hcells
  have hone := Lib.hid (oneB p)
  clear hown hcells hA hh
  go_enter Tryd.func24, Tryd.ntmps24
  go_wp2_with fail
  obtain ⟨W, hW⟩ : ∃ W, Hid (W = w.drew) := ⟨_, Lib.hid rfl⟩
  have hbW : Hid (Below w.heap.size w W) := by rw [hW.out]; exact below_drew (Below.refl _ _)
  have hWsz : w.heap.size = W.heap.size := by rw [hW.out]; rfl
  have hcW : Hid (∀ w', Below W.heap.size W w' → w'.heap[g]? = some (.cells #[.int .u32 (V.a : Nat), .int .u32 (V.b : Nat), .int .u32 (V.c : Nat), .int .u32 (V.d : Nat), .int .u32 (V.e : Nat), .int .u32 (V.f : Nat), .int .u32 (V.g : Nat), .int .u32 (V.h : Nat), .slice A n c, .int .i64 a0] 65 (0, 0))) := fun w' h => (h.block g (by omega)).trans ((hbW.out.block g hgl).trans Hcells.out)
  have hrW : Hid (Rd W W.heap.size 1 A n (p.map B8)) := Hown.out.rd.to hbW.out
  refine wp_region_noPanic ?_
  refine wp_region_held_drew (S := fun w' => Below W.heap.size W w') (by kernel_rfl) (by rw [hW.out]; exact Below.refl _ _) (fun hS => ?_)
  rw [← hW.out] at hS ⊢
  refine wpAnyH_take (i := 0) (v := ?v0) rfl (by kernel_rfl) (by kernel_rfl) (by kernel_rfl) (fun _ _ _ h => h) (Or.inl ⟨by rfl, ?hy0⟩) hS ?rest0
  case hy0 => (intro w hSw; go_simp; first | done | with_reducible rfl)
  try simp only [Act.put, List.getElem_toArray, List.getElem_cons_zero, List.getElem_cons_succ, List.setIfInBounds_toArray, List.set_cons_zero, List.set_cons_succ]
  refine wpAnyH_take (i := 1) (v := ?v1) rfl (by kernel_rfl) (by kernel_rfl) (by kernel_rfl) (fun _ _ _ h => h) (Or.inl ⟨by rfl, ?hy1⟩) hS ?rest1
  case hy1 => (intro w hSw; go_simp; first | done | with_reducible rfl)
  try simp only [Act.put, List.getElem_toArray, List.getElem_cons_zero, List.getElem_cons_succ, List.setIfInBounds_toArray, List.set_cons_zero, List.set_cons_succ]
  refine wpAnyH_take (i := 2) (v := ?v2) rfl (by kernel_rfl) (by kernel_rfl) (by kernel_rfl) (fun _ _ _ h => h) (Or.inl ⟨by rfl, ?hy2⟩) hS ?rest2
  case hy2 => (intro w hSw; go_simp; first | done | with_reducible rfl)
  try simp only [Act.put, List.getElem_toArray, List.getElem_cons_zero, List.getElem_cons_succ, List.setIfInBounds_toArray, List.set_cons_zero, List.set_cons_succ]
  refine wpAnyH_take (i := 3) (v := _) rfl (by kernel_rfl) (by kernel_rfl) (by kernel_rfl) (fun _ _ _ h => h) (yields_load (by rfl) (.tmp 7) (by rfl) (by rfl) (fun w hSw => load_part [.int .u32 (V.a : Nat), .int .u32 (V.b : Nat), .int .u32 (V.c : Nat), .int .u32 (V.d : Nat), .int .u32 (V.e : Nat), .int .u32 (V.f : Nat), .int .u32 (V.g : Nat), .int .u32 (V.h : Nat)] (hcW.out w hSw) (by intro j v hj; (rcases j with _ | _ | _ | _ | _ | _ | _ | _ | j <;> first | exact hj | (simp at hj))) Tryd.underlying62 rfl (by kernel_rfl))) hS ?rest3
  try simp only [Act.put, List.getElem_toArray, List.getElem_cons_zero, List.getElem_cons_succ, List.setIfInBounds_toArray, List.set_cons_zero, List.set_cons_succ]
  refine wpAnyH_take (i := 5) (v := ?v5) rfl (by kernel_rfl) (by kernel_rfl) (by kernel_rfl) (fun _ _ _ h => h) (Or.inl ⟨by rfl, ?hy5⟩) hS ?rest5
  case hy5 => (intro w hSw; go_simp; first | done | with_reducible rfl)
  try simp only [Act.put, List.getElem_toArray, List.getElem_cons_zero, List.getElem_cons_succ, List.setIfInBounds_toArray, List.set_cons_zero, List.set_cons_succ]
  refine wpAnyH_take (i := 6) (v := ?v6) rfl (by kernel_rfl) (by kernel_rfl) (by kernel_rfl) (fun _ _ _ h => h) (Or.inl ⟨by rfl, ?hy6⟩) hS ?rest6
  case hy6 => (intro w hSw; go_simp; first | done | with_reducible rfl)
  try simp only [Act.put, List.getElem_toArray, List.getElem_cons_zero, List.getElem_cons_succ, List.setIfInBounds_toArray, List.set_cons_zero, List.set_cons_succ]
  refine wpAnyH_take (i := 7) (v := ?v7) rfl (by kernel_rfl) (by kernel_rfl) (by kernel_rfl) (fun _ _ _ h => h) (Or.inl ⟨by rfl, ?hy7⟩) hS ?rest7
  case hy7 => (intro w hSw; go_simp; first | done | with_reducible rfl)
  try simp only [Act.put, List.getElem_toArray, List.getElem_cons_zero, List.getElem_cons_succ, List.setIfInBounds_toArray, List.set_cons_zero, List.set_cons_succ]
  refine wpAnyH_take (i := 8) (v := ?v8) rfl (by kernel_rfl) (by kernel_rfl) (by kernel_rfl) (fun _ _ _ h => h) (Or.inl ⟨by rfl, ?hy8⟩) hS ?rest8
  case hy8 => (intro w hSw; have hc8 := cell_blk (hcW.out w hSw) 8 rfl; go_simp; first | done | with_reducible rfl)
  try simp only [Act.put, List.getElem_toArray, List.getElem_cons_zero, List.getElem_cons_succ, List.setIfInBounds_toArray, List.set_cons_zero, List.set_cons_succ]
  refine wpAnyH_take (i := 10) (v := ?v10) rfl (by kernel_rfl) (by kernel_rfl) (by kernel_rfl) (fun _ _ _ h => h) (Or.inl ⟨by rfl, ?hy10⟩) hS ?rest10
  case hy10 => (intro w hSw; go_simp; first | done | with_reducible rfl)
  try simp only [Act.put, List.getElem_toArray, List.getElem_cons_zero, List.getElem_cons_succ, List.setIfInBounds_toArray, List.set_cons_zero, List.set_cons_succ]
  refine wpAnyH_take (i := 11) (v := ?v11) rfl (by kernel_rfl) (by kernel_rfl) (by kernel_rfl) (fun _ _ _ h => h) (Or.inl ⟨by rfl, ?hy11⟩) hS ?rest11
  case hy11 => (intro w hSw; go_simp; first | done | with_reducible rfl)
  try simp only [Act.put, List.getElem_toArray, List.getElem_cons_zero, List.getElem_cons_succ, List.setIfInBounds_toArray, List.set_cons_zero, List.set_cons_succ]
  refine wpAnyH_take (i := 12) (v := ?v12) rfl (by kernel_rfl) (by kernel_rfl) (by kernel_rfl) (fun _ _ _ h => h) (Or.inl ⟨by rfl, ?hy12⟩) hS ?rest12
  case hy12 => (intro w hSw; go_simp; first | done | with_reducible rfl)
  try simp only [Act.put, List.getElem_toArray, List.getElem_cons_zero, List.getElem_cons_succ, List.setIfInBounds_toArray, List.set_cons_zero, List.set_cons_succ]
  refine wpAnyH_take (i := 13) (v := ?v13) rfl (by kernel_rfl) (by kernel_rfl) (by kernel_rfl) (fun _ _ _ h => h) (Or.inl ⟨by rfl, ?hy13⟩) hS ?rest13
  case hy13 => (intro w hSw; have hc9 := cell_blk (hcW.out w hSw) 9 rfl; go_simp; first | done | with_reducible rfl)
  try simp only [Act.put, List.getElem_toArray, List.getElem_cons_zero, List.getElem_cons_succ, List.setIfInBounds_toArray, List.set_cons_zero, List.set_cons_succ]
  refine wpAnyH_ready (rs := [4]) (by kernel_rfl) (by simp) ?_
  refine AllReadyH.cons rfl (fun K hK => ?_) AllReadyH.nil
  go_simp
  have r2' := hS.alloc (Nat.le_refl _) (.cells #[] 5)
  refine hK.out _ _ r2' ?_
  intro hS
  clear hK K
  try simp only [Act.put, List.getElem_toArray, List.getElem_cons_zero, List.getElem_cons_succ, List.setIfInBounds_toArray, List.set_cons_zero, List.set_cons_succ]
  refine wpAnyH_ready (rs := [9]) (by kernel_rfl) (by simp) ?_
  refine AllReadyH.cons rfl (fun K hK => ?_) AllReadyH.nil
  refine step_apT (.tmp 9) (.tmp 13) 22 rfl rfl W.heap.size 5 1 (.int .u8 0) Tryd.underlying22 infoB rfl (some ⟨W.heap.size, 0, none⟩) 0 0 [] rfl (OwnS.nil _ _ _) _ A n c (p.map B8) rfl (hrW.out.to ((Below.refl _ _).alloc (Nat.le_refl _) _)) hone.out (by simp only [maxLen]; omega) (by omega) (by simp) ?_
  intro A5 c5 u4 o5 b5 _ _ a5
  have r5' := r2'.trans b5
  refine hK.out _ _ r5' ?_
  intro hS
  clear hK K
  try simp only [Act.put, List.getElem_toArray, List.getElem_cons_zero, List.getElem_cons_succ, List.setIfInBounds_toArray, List.set_cons_zero, List.set_cons_succ]
  refine wpAnyH_take (i := 14) (v := ?v14) rfl (by kernel_rfl) (by kernel_rfl) (by kernel_rfl) (fun _ _ _ h => h) (Or.inl ⟨by rfl, ?hy14⟩) hS ?rest14
  case hy14 => (intro w hSw; go_simp; first | done | with_reducible rfl)
  try simp only [Act.put, List.getElem_toArray, List.getElem_cons_zero, List.getElem_cons_succ, List.setIfInBounds_toArray, List.set_cons_zero, List.set_cons_succ]
  refine wpAnyH_ready (rs := [15]) (by kernel_rfl) (by simp) ?_
  refine AllReadyH.cons rfl (fun K hK => ?_) AllReadyH.nil
  go_simp
  have r6' := r5'.alloc r5'.size (.cells #[.int .u32 (V.a : Nat), .int .u32 (V.b : Nat), .int .u32 (V.c : Nat), .int .u32 (V.d : Nat), .int .u32 (V.e : Nat), .int .u32 (V.f : Nat), .int .u32 (V.g : Nat), .int .u32 (V.h : Nat), .slice A5 n c5, .int .i64 a0] 65)
  refine hK.out _ _ r6' ?_
  intro hS
  clear hK K
  try simp only [Act.put, List.getElem_toArray, List.getElem_cons_zero, List.getElem_cons_succ, List.setIfInBounds_toArray, List.set_cons_zero, List.set_cons_succ]
  refine wpAnyH_take (i := 16) (v := ?v16) rfl (by kernel_rfl) (by kernel_rfl) (by kernel_rfl) (fun _ _ _ h => h) (Or.inl ⟨by rfl, ?hy16⟩) hS ?rest16
  case hy16 => (intro w hSw; go_simp; first | done | with_reducible rfl)
  try simp only [Act.put, List.getElem_toArray, List.getElem_cons_zero, List.getElem_cons_succ, List.setIfInBounds_toArray, List.set_cons_zero, List.set_cons_succ]
  refine wpAnyH_done (by kernel_rfl) (NoPanic.normal ?_) _
  go_wp2_with fail
  go_ret
  rw [Nat.zero_add, List.nil_append] at o5
  have hg' := heap_alloc_new u4 (.cells #[.int .u32 (V.a : Nat), .int .u32 (V.b : Nat), .int .u32 (V.c : Nat), .int .u32 (V.d : Nat), .int .u32 (V.e : Nat), .int .u32 (V.f : Nat), .int .u32 (V.g : Nat), .int .u32 (V.h : Nat), .slice A5 n c5, .int .i64 a0] 65)
  have o6 := o5.to ((Below.refl _ _).alloc (Nat.le_refl _) (.cells #[.int .u32 (V.a : Nat), .int .u32 (V.b : Nat), .int .u32 (V.c : Nat), .int .u32 (V.d : Nat), .int .u32 (V.e : Nat), .int .u32 (V.f : Nat), .int .u32 (V.g : Nat), .int .u32 (V.h : Nat), .slice A5 n c5, .int .i64 a0] 65))
  have hb5s := b5.size
  rw [szAlloc] at hb5s
  obtain ⟨r5, hr5a, hr5s, hr5⟩ : ∃ r5, w.heap.size ≤ r5 ∧ r5 < u4.heap.size ∧ ∀ b o, A5 = some ⟨b, o, none⟩ → b = r5 ∧ b ≠ u4.heap.size := by
    rcases a5 with rfl | ⟨rfl, h6⟩
    · exact ⟨W.heap.size, by omega, by omega, fun b o e => by injection e with e; injection e with e1; subst e1; exact ⟨rfl, by omega⟩⟩
    · rw [szAlloc] at h6
      refine ⟨W.heap.size + 1, by omega, h6, fun b o e => ?_⟩
      injection e with e
      injection e with e1
      rw [szAlloc] at e1
      exact ⟨e1.symm, by omega⟩
  refine ⟨u4.heap.size, r5, rfl, by rw [szAlloc]; omega, ⟨⟨V, A5, n, c5, hV, ?_, ?_, hr5⟩, by omega, hr5a⟩, hbW.out.trans ((r6').mono (by omega))⟩
  · rw [← ha0.out]; exact hg'
  · rw [← hp.out]; exact o6.mono (by omega)

theorem clone_nil (w : World) : Calls Tryd.prog 24 #[.pointer none] w fun e w' => e = .returned (.pointer none) ∧ w = w' := by
  go_enter Tryd.func24, Tryd.ntmps24
  go_wp2_with fail
  go_ret
  exact ⟨rfl, rfl⟩
theorem write_nil (A : Option Addr) (n c : Nat) (w : World) : Calls Tryd.prog 22 #[.pointer none, .slice A n c] w fun e w' => e = .returned (.tuple #[]) ∧ w = w' := by
  go_enter Tryd.func22, Tryd.ntmps22
  go_wp2_with fail
  exact bodyPost_ret (results_none rfl _ _ _) rfl ⟨rfl, rfl⟩
theorem hsum_nil (w : World) (hL : LayS w) (h4 : 4 ≤ w.heap.size) : Calls Tryd.prog 23 #[.pointer none] w fun e w' => ∃ A' c', e = .returned (.slice A' 32 c') ∧ w'.ownsRow w.heap.size 5 1 (.slice A' 32 c') 32 ((sumOf K32 F32 []).map B8) ∧ Below w.heap.size w w' := hsum_nil' [] rfl w hL h4
theorem sum256_ (A : Option Addr) (n c : Nat) (l : List UInt8) (w : World) (hr : Rd w w.heap.size 1 A n (l.map B8)) (hn : n ≤ 1000000) (hL : LayS w) (h4 : 4 ≤ w.heap.size) : Calls Tryd.prog 17 #[.slice A n c] w fun e w' => ∃ A' c', e = .returned (.slice A' 32 c') ∧ w'.ownsRow w.heap.size 5 1 (.slice A' 32 c') 32 ((sumOf K32 F32 l).map B8) ∧ Below w.heap.size w w' := by
  obtain rfl : l.length = n := by simpa using hr.len
  have Hr := Lib.hid hr
  have HL := Lib.hid hL
  clear hr hL
  go_enter Tryd.func17, Tryd.ntmps17
  go_wp2_with fail
  refine (new_ w).mono ?_
  rintro e w1 ⟨g, hg, rfl, hh, hb1⟩
  have Hh := Lib.hid hh
  clear hh
  have hs1 := hb1.size
  go_wp2_with fail
  refine (write_ w.heap.size g g [] l A l.length c w1 Hh.out (Hr.out.to hb1) ?_ (by simpa using hn) (HL.out.to h4 hb1) h4 hs1).mono ?_
  · intro h0 b o e
    obtain ⟨b', o', e', hb', _⟩ := Hr.out.2 h0
    rw [e] at e'
    injection e' with e'
    injection e' with e1
    omega
  rintro e w2 ⟨r2, rfl, hr2, hh2, hw2⟩
  have Hh2 := Lib.hid hh2
  have hb2 := hb1.trans (hw2.below hg hg hs1)
  have hs2 := hw2.size
  have hl2 : LayS w2 := HL.out.to h4 hb2
  have HL2 := Lib.hid hl2
  clear hh2 hl2 hw2
  go_wp2_with fail
  refine (hsum_ w.heap.size g r2 ([] ++ l) w2 Hh2.out (by simpa using hn) HL2.out (by omega)).mono ?_
  rintro e w3 ⟨A3, c3, rfl, ho3, hb3⟩
  have Ho3 := Lib.hid ho3
  clear ho3
  go_wp2_with fail
  go_ret
  have ho := Ho3.out
  rw [List.nil_append] at ho
  exact ⟨A3, c3, rfl, own_mono ho (by omega), hb2.trans (hb3.mono (by omega))⟩
end Go.Proofs.YtclecmpmohoamaaDoor
