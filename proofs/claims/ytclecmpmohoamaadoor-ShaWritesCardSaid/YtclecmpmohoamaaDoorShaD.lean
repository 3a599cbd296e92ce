/- The document's words of a block. (Printed by gen_shad2.py.) -/
import Derived.Test.YtclecmpmohoamaaDoorShaC
namespace Go.Proofs.YtclecmpmohoamaaDoor
open Go.RowKit
set_option linter.unusedVariables false
attribute [local go_sem ↓] Go.wp_at_zero Go.wp_at_succ
set_option linter.unusedSimpArgs false

theorem be_take_32 (l : List UInt8) (t i : Nat) (y : UInt8) (hy : l[t * 4 + i]? = some y) :
    be ((l.drop (t * 4)).take (i + 1)) = be ((l.drop (t * 4)).take i) * 256 + y.toNat := by
  rw [List.take_add_one, List.getElem?_drop, hy]
  exact be_snoc _ _

set_option maxHeartbeats 2000000 in
theorem words_32 (A : Option Addr) (c : Nat) (l : List UInt8) (A1 A2 : Option Addr) (c1 c2 : Nat) (w : World) (hr : Rd w w.heap.size 1 A 64 (l.map B8)) :
    Calls Tryd.prog 60 #[.agg #[.int .i64 32, .int .i64 64, .int .i64 2, .int .i64 13, .int .i64 22, .int .i64 6, .int .i64 11, .int .i64 25, .int .i64 7, .int .i64 18, .int .i64 3, .int .i64 17, .int .i64 19, .int .i64 10, .slice A1 64 c1, .slice A2 8 c2], .slice A 64 c] w fun e w' => ∃ A' c', e = .returned (.slice A' 64 c') ∧ OwnS w' w.heap.size A' 64 c' ((wds K32 l).map U) ∧ Below w.heap.size w w' := by
  have hl : l.length = 64 := by simpa using hr.len
  have Hl := Lib.hid hl
  clear hl
  go_enter Tryd.func60, Tryd.ntmps60
  go_wp2_with fail
  obtain ⟨W, hW⟩ : ∃ W, W = w.alloc (.cells #[.int .i64 32, .int .i64 64, .int .i64 2, .int .i64 13, .int .i64 22, .int .i64 6, .int .i64 11, .int .i64 25, .int .i64 7, .int .i64 18, .int .i64 3, .int .i64 17, .int .i64 19, .int .i64 10, .slice A1 64 c1, .slice A2 8 c2] 50) := ⟨_, rfl⟩
  have hb0 : Below w.heap.size w W := by rw [hW]; exact (Below.refl _ _).alloc (Nat.le_refl _) _
  have hK : W.heap[w.heap.size]? = some (.cells #[.int .i64 32, .int .i64 64, .int .i64 2, .int .i64 13, .int .i64 22, .int .i64 6, .int .i64 11, .int .i64 25, .int .i64 7, .int .i64 18, .int .i64 3, .int .i64 17, .int .i64 19, .int .i64 10, .slice A1 64 c1, .slice A2 8 c2] 50 (0, 0)) := by rw [hW]; exact heap_alloc_new w _
  have hsz : w.heap.size + 1 = W.heap.size := by rw [hW]; simp
  rw [← hW]
  clear hW
  have Hsz := Lib.hid hsz
  clear hsz
  have hr' := hr.below hb0
  go_loopw [5, 7, 8, 9] (fun v5 v7 _ _ wr => ∃ (t : Nat) (A' : Option Addr) (c' : Nat), v5 = .slice A' t c' ∧ v7 = .int .i64 t ∧ t ≤ 16 ∧ wr.ownsRow W.heap.size 52 1 (.slice A' t c') t ((List.range t).map (U ∘ bw 4 l)) ∧ Below W.heap.size W wr) (fun _ v7 _ _ _ => 16 - (intOf v7).toNat)
  case atStart => exact ⟨0, none, 0, rfl, rfl, by omega, World.ownsRow_nil _ _ _ _, Below.refl _ _⟩
  case round =>
    obtain ⟨t, A', c', rfl, rfl, ht, ho, hb⟩ := hrel
    by_cases hlt : t < 16
    · have hlt' : (t : Int) < 16 := by omega
      go_wp2_with fail
      go_loopw [8, 9] (fun v8 v9 wr' => ∃ (i x : Nat), wr = wr' ∧ v9 = .int .i64 i ∧ i ≤ 4 ∧ v8 = .int .u64 x ∧ Hid (x = be ((l.drop (t * 4)).take i))) (fun _ v9 _ => 4 - (intOf v9).toNat)
      case atStart => exact ⟨0, 0, rfl, rfl, by omega, rfl, by simp [Hid, be]⟩
      case round =>
        obtain ⟨i, x, rfl, rfl, hi, rfl, hx⟩ := hrel
        by_cases hiz : i < 4
        · have hiz' : (i : Int) < 4 := by omega
          obtain ⟨b, o, y, rfl, hbl, hy, hc⟩ := ((hr'.below (hb.mono (by have := Hsz.out; omega))).at8 (k := t * 4 + i) (by omega))
          have hi1 : (0 : Int) ≤ ((t * 4 + i : Nat) : Int) := by omega
          have hi2 : ((t * 4 + i : Nat) : Int) < 64 := by omega
          have hw1 : IntKind.i64.wrap ((t : Int) * 4) = ((t * 4 : Nat) : Int) := by rw [IntWalk.i64_in _ (by omega)]; omega
          have hw2 : IntKind.i64.wrap (((t * 4 : Nat) : Int) + (i : Int)) = ((t * 4 + i : Nat) : Int) := by rw [IntWalk.i64_in _ (by omega)]; omega
          have hw3 : IntKind.i64.wrap ((i : Int) + 1) = ((i + 1 : Nat) : Int) := by rw [IntWalk.i64_in _ (by omega)]; omega
          have hxb : x < 2 ^ 56 := by
            rw [hx.out]
            refine Nat.lt_of_lt_of_le (be_lt _) ?_
            calc 256 ^ _ ≤ 256 ^ 7 := Nat.pow_le_pow_right (by omega) (by rw [List.length_take]; omega)
              _ = 2 ^ 56 := by decide
          have hyb := y.toNat_lt
          have hst := be_take_32 l t i y hy.out
          rw [← hx.out] at hst
          have Hst := Lib.hid hst
          clear hst
          go_wp2_with fail
          refine ⟨⟨i + 1, x * 256 + y.toNat, trivial, by go_num, by omega, rfl, Hst.out.symm⟩, by simp only [intOf]; omega⟩
        · obtain rfl : i = 4 := by omega
          have hw4 : IntKind.i64.wrap ((t : Int) + 1) = ((t + 1 : Nat) : Int) := by rw [IntWalk.i64_in _ (by omega)]; omega
          have hx2 : Hid (x = bw 4 l t) := hx
          go_wp2_with (at_builtin
                       refine wpList_app rfl (.tmp 35) (.tmp 37) _ rfl W.heap.size 52 1 8 _ Tryd.underlying48 info64 rfl (by omega) _ _ _ rfl (ho.alloc _) (wr.heap.size + 1) (some ⟨wr.heap.size, 0, none⟩) 1 1 _ rfl (one_cell wr _ (.int .u64 x)) (by simp; rfl) (by simp only [maxLen]; omega) (by omega) (by simp; exact Nat.le_succ_of_le hb.size) ?_
                       intro A3 c3 w3 h3 hg3 _
                       have hb3 : Below W.heap.size W w3 := (hb.alloc hb.size _).grown hg3 (by simp; exact Nat.le_succ_of_le hb.size) (fun k hk => (ho.lt k hk).1))
          have e2 : (List.range t).map (U ∘ bw 4 l) ++ [Value.int .u64 (x : Int)] = (List.range (t + 1)).map (U ∘ bw 4 l) := by
            rw [List.range_succ, List.map_append, hx2.out]; rfl
          rw [e2] at h3
          refine ⟨⟨t + 1, A3, c3, rfl, by go_num, by omega, h3, hb3⟩, by simp only [intOf]; omega⟩
    · have ht16 : Hid (t = 16) := (by omega : t = 16)
      have hnt : ¬ (t : Int) < 16 := by omega
      have ho2 : OwnS wr W.heap.size A' 16 c' ((first16 K32 l).map U) := by
        have := OwnS.of_own ho
        rw [ht16.out, ← List.map_map] at this
        exact this
      have hf16 := Lib.hid (first16_length K32 l)
      have hel := Lib.hid (fun n => ext_length K32 (first16 K32 l) n)
      have hlt16 := Lib.hid (fun n => ext_lt K32 (first16 K32 l) (first16_lt (K := K32) rfl l) n)
      clear ho
      have hKr := (hb.block w.heap.size (by have := Hsz.out; omega)).trans hK
      have hcR := cell_blk hKr 1 rfl
      go_wp2_with fail
      go_loopw [5, 10] (fun v5 v10 wr2 => ∃ (t : Nat) (A' : Option Addr) (c' : Nat), v5 = .slice A' (16 + t) c' ∧ v10 = .int .i64 ((16 : Int) + t) ∧ t ≤ 48 ∧ OwnS wr2 W.heap.size A' (16 + t) c' ((ext K32 t (first16 K32 l)).map U) ∧ Below W.heap.size W wr2) (fun _ v10 _ => 100 - (intOf v10).toNat)
      case atStart => exact ⟨0, A', c', by rw [ht16.out], rfl, by omega, ho2, hb⟩
      case round =>
        obtain ⟨t, A4, c4, rfl, rfl, ht, ho4, hb4⟩ := hrel
        have hKr4 := (hb4.block w.heap.size (by have := Hsz.out; omega)).trans hK
        have hcR4 := cell_blk hKr4 1 rfl
        by_cases hlt : t < 48
        · have hlt' : (16 : Int) + t < 64 := by omega
          have hel' := hel.out t
          rw [hf16.out] at hel'
          have Hel := Lib.hid hel'
          clear hel'
          obtain ⟨b, o, x2, rfl, hbl, hc2, hx2⟩ := (ho4.rd.atU (k := 14 + t) (by omega))
          obtain ⟨b', o', x7, hA7, _, hc7, hx7⟩ := (ho4.rd.atU (k := 9 + t) (by omega))
          injection hA7 with hA7
          injection hA7 with hA71 hA72
          subst hA71 hA72
          obtain ⟨b', o', x15, hA7, _, hc15, hx15⟩ := (ho4.rd.atU (k := 1 + t) (by omega))
          injection hA7 with hA7
          injection hA7 with hA71 hA72
          subst hA71 hA72
          obtain ⟨b', o', x16, hA7, _, hc16, hx16⟩ := (ho4.rd.atU (k := t) (by omega))
          injection hA7 with hA7
          injection hA7 with hA71 hA72
          subst hA71 hA72
          have hxs := hlt16.out t
          have hb2 : x2 < 2 ^ 32 := by rw [← hx2.out]; exact getD_lt (Nat.two_pow_pos _) hxs _
          have hb15 : x15 < 2 ^ 32 := by rw [← hx15.out]; exact getD_lt (Nat.two_pow_pos _) hxs _
          clear hxs
          have hj : ∀ k x, k < 16 + t → (ext K32 t (first16 K32 l)).getD k 0 = x → ((ext K32 t (first16 K32 l)).map U)[k]? = some (.int .u64 (x : Int)) := by
            intro k x hk hx
            rw [List.getElem?_map, List.getElem?_eq_getElem (by rw [Hel.out]; exact hk)]
            simp [List.getD, show k < (ext K32 t (first16 K32 l)).length by rw [Hel.out]; exact hk] at hx
            rw [hx]; rfl
          have hj2 := Lib.hid (hj _ _ (by omega) hx2.out)
          have hj7 := Lib.hid (hj _ _ (by omega) hx7.out)
          have hj15 := Lib.hid (hj _ _ (by omega) hx15.out)
          have hj16 := Lib.hid (hj _ _ (by omega) hx16.out)
          clear hj
          obtain ⟨s1, hs1⟩ : ∃ s, Hid (shi 32 x2 (17, 19, 10) = s) := ⟨_, rfl⟩
          obtain ⟨s2, hs2⟩ : ∃ s, Hid (shi 32 x15 (7, 18, 3) = s) := ⟨_, rfl⟩
          obtain ⟨n1, hn1⟩ : ∃ n, Hid ((s1 + x7) % 18446744073709551616 = n) := ⟨_, rfl⟩
          obtain ⟨n2, hn2⟩ : ∃ n, Hid ((n1 + s2) % 18446744073709551616 = n) := ⟨_, rfl⟩
          obtain ⟨n3, hn3⟩ : ∃ n, Hid ((n2 + x16) % 18446744073709551616 = n) := ⟨_, rfl⟩
          obtain ⟨n4, hn4⟩ : ∃ n, Hid (n3 % 2 ^ 32 = n) := ⟨n3 % 2 ^ 32, Lib.hid rfl⟩
          have hn3b : n3 < 18446744073709551616 := by rw [← hn3.out]; exact Nat.mod_lt _ (by decide)
          have f1 : IntKind.u64.wrap ((s1 : Int) + (x7 : Int)) = (n1 : Int) := by rw [← Int.natCast_add, wrapU, hn1.out]
          have f2 : IntKind.u64.wrap ((n1 : Int) + (s2 : Int)) = (n2 : Int) := by rw [← Int.natCast_add, wrapU, hn2.out]
          have f3 : IntKind.u64.wrap ((n2 : Int) + (x16 : Int)) = (n3 : Int) := by rw [← Int.natCast_add, wrapU, hn3.out]
          have g1 : IntKind.i64.wrap ((16 : Int) + t - 2) = ((14 + t : Nat) : Int) := by rw [IntWalk.i64_in _ (by omega)]; omega
          have g2 : IntKind.i64.wrap ((16 : Int) + t - 7) = ((9 + t : Nat) : Int) := by rw [IntWalk.i64_in _ (by omega)]; omega
          have g3 : IntKind.i64.wrap ((16 : Int) + t - 15) = ((1 + t : Nat) : Int) := by rw [IntWalk.i64_in _ (by omega)]; omega
          have g4 : IntKind.i64.wrap ((16 : Int) + t - 16) = ((t : Nat) : Int) := by rw [IntWalk.i64_in _ (by omega)]; omega
          have i1 : (0 : Int) ≤ 14 + (t : Int) := by omega
          have i2 : ((14 : Int) + (t : Int)).toNat = 14 + t := by omega
          have i3 : (0 : Int) ≤ 9 + (t : Int) := by omega
          have i4 : ((9 : Int) + (t : Int)).toNat = 9 + t := by omega
          have i5 : (0 : Int) ≤ 1 + (t : Int) := by omega
          have i7 : (t : Int) < 16 + (t : Int) := by omega
          have i6 : ((1 : Int) + (t : Int)).toNat = 1 + t := by omega
          have g5 : IntKind.i64.wrap ((16 : Int) + t + 1) = (16 : Int) + (t + 1 : Nat) := by rw [IntWalk.i64_in _ (by omega)]; omega
          have hnew : Hid ((ext K32 t (first16 K32 l)).map U ++ [Value.int .u64 (n4 : Int)] = (ext K32 (t + 1) (first16 K32 l)).map U) := by
            unfold Hid
            rw [ext]
            simp only [List.map_append, List.map_cons, List.map_nil]
            congr 2
            unfold nxt
            rw [Hel.out, show 16 + t - 2 = 14 + t by omega, show 16 + t - 7 = 9 + t by omega, show 16 + t - 15 = 1 + t by omega, show 16 + t - 16 = t by omega, hx2.out, hx7.out, hx15.out, hx16.out]
            show Value.int .u64 _ = Value.int .u64 (((shi 32 x2 (17, 19, 10) + x7 + shi 32 x15 (7, 18, 3) + x16) % 2 ^ 32 : Nat) : Int)
            rw [hs1.out, hs2.out, ← add4_32, hn1.out, hn2.out, hn3.out, hn4.out]
          have hbz := Lib.hid hb4.size
          have ho4d : OwnS wr.drew W.heap.size (some ⟨b, o, none⟩) (16 + t) c4 ((ext K32 t (first16 K32 l)).map U) := ho4.to (below_drew (Below.refl _ _))
          have hbo : Hid (W.heap.size ≤ b) := by
            obtain ⟨g, o', e, hg, _⟩ := ho4.mem (by have := ho4.le; omega)
            injection e with e
            injection e with e1 _
            rw [e1]; exact hg
          have hKS : ∀ w', Sta wr.drew (some ⟨b, o, none⟩) ((ext K32 t (first16 K32 l)).map U) w' → w'.heap[w.heap.size]? = some (.cells #[.int .i64 32, .int .i64 64, .int .i64 2, .int .i64 13, .int .i64 22, .int .i64 6, .int .i64 11, .int .i64 25, .int .i64 7, .int .i64 18, .int .i64 3, .int .i64 17, .int .i64 19, .int .i64 10, .slice A1 64 c1, .slice A2 8 c2] 50 (0, 0)) := fun w' hS =>
            (hS.2.1 w.heap.size (by have := hbz.out; have := Hsz.out; exact (by omega : w.heap.size < wr.heap.size)) (fun g o' e => by injection e with e; injection e with e1 _; have := hbo.out; have := Hsz.out; omega)).trans hKr4
          go_wp2_with fail
          refine wp_region_noPanic ?_
          refine wp_region_held_drew (S := fun w' => Sta wr.drew (some ⟨b, o, none⟩) ((ext K32 t (first16 K32 l)).map U) w') (by kernel_rfl) (Sta.refl _ _ _) (fun hS => ?_)
          refine wpAnyH_take (i := 0) (v := ?v0) rfl (by kernel_rfl) (by kernel_rfl) (by kernel_rfl) (fun _ _ _ h => h) (Or.inl ⟨by rfl, ?hy0⟩) hS ?rest0
          case hy0 => (intro w hSw; go_simp; first | done | with_reducible rfl)
          try simp only [Act.put, List.getElem_toArray, List.getElem_cons_zero, List.getElem_cons_succ, List.setIfInBounds_toArray, List.set_cons_zero, List.set_cons_succ]
          refine wpAnyH_take (i := 1) (v := _) rfl (by kernel_rfl) (by kernel_rfl) (by kernel_rfl) (fun _ _ _ h => h) (yields_load rfl (.tmp 2) rfl rfl (fun w hSw => load_blk (hKS w hSw) Tryd.underlying50 rfl (by kernel_rfl))) hS ?rest1
          try simp only [Act.put, List.getElem_toArray, List.getElem_cons_zero, List.getElem_cons_succ, List.setIfInBounds_toArray, List.set_cons_zero, List.set_cons_succ]
          refine wpAnyH_take (i := 2) (v := _) rfl (by kernel_rfl) (by kernel_rfl) (by kernel_rfl) (fun _ _ _ h => h) (yields_load rfl (.tmp 2) rfl rfl (fun w hSw => load_blk (hKS w hSw) Tryd.underlying50 rfl (by kernel_rfl))) hS ?rest2
          try simp only [Act.put, List.getElem_toArray, List.getElem_cons_zero, List.getElem_cons_succ, List.setIfInBounds_toArray, List.set_cons_zero, List.set_cons_succ]
          refine wpAnyH_take (i := 3) (v := ?v3) rfl (by kernel_rfl) (by kernel_rfl) (by kernel_rfl) (fun _ _ _ h => h) (Or.inl ⟨by rfl, ?hy3⟩) hS ?rest3
          case hy3 => (intro w hSw; go_simp; first | done | with_reducible rfl)
          try simp only [Act.put, List.getElem_toArray, List.getElem_cons_zero, List.getElem_cons_succ, List.setIfInBounds_toArray, List.set_cons_zero, List.set_cons_succ]
          refine wpAnyH_take (i := 4) (v := ?v4) rfl (by kernel_rfl) (by kernel_rfl) (by kernel_rfl) (fun _ _ _ h => h) (Or.inl ⟨by rfl, ?hy4⟩) hS ?rest4
          case hy4 => (intro w hSw; go_simp; first | done | with_reducible rfl)
          try simp only [Act.put, List.getElem_toArray, List.getElem_cons_zero, List.getElem_cons_succ, List.setIfInBounds_toArray, List.set_cons_zero, List.set_cons_succ]
          refine wpAnyH_take (i := 5) (v := ?v5) rfl (by kernel_rfl) (by kernel_rfl) (by kernel_rfl) (fun _ _ _ h => h) (Or.inl ⟨by rfl, ?hy5⟩) hS ?rest5
          case hy5 => (intro w hSw; go_simp; first | done | with_reducible rfl)
          try simp only [Act.put, List.getElem_toArray, List.getElem_cons_zero, List.getElem_cons_succ, List.setIfInBounds_toArray, List.set_cons_zero, List.set_cons_succ]
          refine wpAnyH_take (i := 6) (v := ?v6) rfl (by kernel_rfl) (by kernel_rfl) (by kernel_rfl) (fun _ _ _ h => h) (Or.inl ⟨by rfl, ?hy6⟩) hS ?rest6
          case hy6 => (intro w hSw; go_simp; first | done | with_reducible rfl)
          try simp only [Act.put, List.getElem_toArray, List.getElem_cons_zero, List.getElem_cons_succ, List.setIfInBounds_toArray, List.set_cons_zero, List.set_cons_succ]
          refine wpAnyH_take (i := 7) (v := ?v7) rfl (by kernel_rfl) (by kernel_rfl) (by kernel_rfl) (fun _ _ _ h => h) (Or.inl ⟨by rfl, ?hy7⟩) hS ?rest7
          case hy7 => (intro w hSw; have hcw := hSw.2.2 _ _ _ _ rfl hj2 hc2; go_simp; first | done | with_reducible rfl)
          try simp only [Act.put, List.getElem_toArray, List.getElem_cons_zero, List.getElem_cons_succ, List.setIfInBounds_toArray, List.set_cons_zero, List.set_cons_succ]
          refine wpAnyH_take (i := 8) (v := ?v8) rfl (by kernel_rfl) (by kernel_rfl) (by kernel_rfl) (fun _ _ _ h => h) (Or.inl ⟨by rfl, ?hy8⟩) hS ?rest8
          case hy8 => (intro w hSw; go_simp; first | done | with_reducible rfl)
          try simp only [Act.put, List.getElem_toArray, List.getElem_cons_zero, List.getElem_cons_succ, List.setIfInBounds_toArray, List.set_cons_zero, List.set_cons_succ]
          refine wpAnyH_take (i := 9) (v := _) rfl (by kernel_rfl) (by kernel_rfl) (by kernel_rfl) (fun _ _ _ h => h) (yields_load rfl (.tmp 53) rfl rfl (fun w hSw => load_part [.int .i64 17, .int .i64 19, .int .i64 10] (hKS w hSw) (by intro j v hj; (rcases j with _ | _ | _ | j <;> first | exact hj | (simp at hj))) Tryd.underlying47 rfl (by kernel_rfl))) hS ?rest9
          try simp only [Act.put, List.getElem_toArray, List.getElem_cons_zero, List.getElem_cons_succ, List.setIfInBounds_toArray, List.set_cons_zero, List.set_cons_succ]
          refine wpAnyH_take (i := 11) (v := ?v11) rfl (by kernel_rfl) (by kernel_rfl) (by kernel_rfl) (fun _ _ _ h => h) (Or.inl ⟨by rfl, ?hy11⟩) hS ?rest11
          case hy11 => (intro w hSw; go_simp; first | done | with_reducible rfl)
          try simp only [Act.put, List.getElem_toArray, List.getElem_cons_zero, List.getElem_cons_succ, List.setIfInBounds_toArray, List.set_cons_zero, List.set_cons_succ]
          refine wpAnyH_take (i := 12) (v := ?v12) rfl (by kernel_rfl) (by kernel_rfl) (by kernel_rfl) (fun _ _ _ h => h) (Or.inl ⟨by rfl, ?hy12⟩) hS ?rest12
          case hy12 => (intro w hSw; go_simp; first | done | with_reducible rfl)
          try simp only [Act.put, List.getElem_toArray, List.getElem_cons_zero, List.getElem_cons_succ, List.setIfInBounds_toArray, List.set_cons_zero, List.set_cons_succ]
          refine wpAnyH_take (i := 13) (v := ?v13) rfl (by kernel_rfl) (by kernel_rfl) (by kernel_rfl) (fun _ _ _ h => h) (Or.inl ⟨by rfl, ?hy13⟩) hS ?rest13
          case hy13 => (intro w hSw; go_simp; first | done | with_reducible rfl)
          try simp only [Act.put, List.getElem_toArray, List.getElem_cons_zero, List.getElem_cons_succ, List.setIfInBounds_toArray, List.set_cons_zero, List.set_cons_succ]
          refine wpAnyH_take (i := 14) (v := ?v14) rfl (by kernel_rfl) (by kernel_rfl) (by kernel_rfl) (fun _ _ _ h => h) (Or.inl ⟨by rfl, ?hy14⟩) hS ?rest14
          case hy14 => (intro w hSw; go_simp; first | done | with_reducible rfl)
          try simp only [Act.put, List.getElem_toArray, List.getElem_cons_zero, List.getElem_cons_succ, List.setIfInBounds_toArray, List.set_cons_zero, List.set_cons_succ]
          refine wpAnyH_take (i := 15) (v := ?v15) rfl (by kernel_rfl) (by kernel_rfl) (by kernel_rfl) (fun _ _ _ h => h) (Or.inl ⟨by rfl, ?hy15⟩) hS ?rest15
          case hy15 => (intro w hSw; have hcw := hSw.2.2 _ _ _ _ rfl hj7 hc7; go_simp; first | done | with_reducible rfl)
          try simp only [Act.put, List.getElem_toArray, List.getElem_cons_zero, List.getElem_cons_succ, List.setIfInBounds_toArray, List.set_cons_zero, List.set_cons_succ]
          refine wpAnyH_take (i := 17) (v := _) rfl (by kernel_rfl) (by kernel_rfl) (by kernel_rfl) (fun _ _ _ h => h) (yields_load rfl (.tmp 2) rfl rfl (fun w hSw => load_blk (hKS w hSw) Tryd.underlying50 rfl (by kernel_rfl))) hS ?rest17
          try simp only [Act.put, List.getElem_toArray, List.getElem_cons_zero, List.getElem_cons_succ, List.setIfInBounds_toArray, List.set_cons_zero, List.set_cons_succ]
          refine wpAnyH_take (i := 18) (v := ?v18) rfl (by kernel_rfl) (by kernel_rfl) (by kernel_rfl) (fun _ _ _ h => h) (Or.inl ⟨by rfl, ?hy18⟩) hS ?rest18
          case hy18 => (intro w hSw; go_simp; first | done | with_reducible rfl)
          try simp only [Act.put, List.getElem_toArray, List.getElem_cons_zero, List.getElem_cons_succ, List.setIfInBounds_toArray, List.set_cons_zero, List.set_cons_succ]
          refine wpAnyH_take (i := 19) (v := ?v19) rfl (by kernel_rfl) (by kernel_rfl) (by kernel_rfl) (fun _ _ _ h => h) (Or.inl ⟨by rfl, ?hy19⟩) hS ?rest19
          case hy19 => (intro w hSw; go_simp; first | done | with_reducible rfl)
          try simp only [Act.put, List.getElem_toArray, List.getElem_cons_zero, List.getElem_cons_succ, List.setIfInBounds_toArray, List.set_cons_zero, List.set_cons_succ]
          refine wpAnyH_take (i := 20) (v := ?v20) rfl (by kernel_rfl) (by kernel_rfl) (by kernel_rfl) (fun _ _ _ h => h) (Or.inl ⟨by rfl, ?hy20⟩) hS ?rest20
          case hy20 => (intro w hSw; go_simp; first | done | with_reducible rfl)
          try simp only [Act.put, List.getElem_toArray, List.getElem_cons_zero, List.getElem_cons_succ, List.setIfInBounds_toArray, List.set_cons_zero, List.set_cons_succ]
          refine wpAnyH_take (i := 21) (v := ?v21) rfl (by kernel_rfl) (by kernel_rfl) (by kernel_rfl) (fun _ _ _ h => h) (Or.inl ⟨by rfl, ?hy21⟩) hS ?rest21
          case hy21 => (intro w hSw; go_simp; first | done | with_reducible rfl)
          try simp only [Act.put, List.getElem_toArray, List.getElem_cons_zero, List.getElem_cons_succ, List.setIfInBounds_toArray, List.set_cons_zero, List.set_cons_succ]
          refine wpAnyH_take (i := 22) (v := ?v22) rfl (by kernel_rfl) (by kernel_rfl) (by kernel_rfl) (fun _ _ _ h => h) (Or.inl ⟨by rfl, ?hy22⟩) hS ?rest22
          case hy22 => (intro w hSw; have hcw := hSw.2.2 _ _ _ _ rfl hj15 hc15; go_simp; first | done | with_reducible rfl)
          try simp only [Act.put, List.getElem_toArray, List.getElem_cons_zero, List.getElem_cons_succ, List.setIfInBounds_toArray, List.set_cons_zero, List.set_cons_succ]
          refine wpAnyH_take (i := 23) (v := ?v23) rfl (by kernel_rfl) (by kernel_rfl) (by kernel_rfl) (fun _ _ _ h => h) (Or.inl ⟨by rfl, ?hy23⟩) hS ?rest23
          case hy23 => (intro w hSw; go_simp; first | done | with_reducible rfl)
          try simp only [Act.put, List.getElem_toArray, List.getElem_cons_zero, List.getElem_cons_succ, List.setIfInBounds_toArray, List.set_cons_zero, List.set_cons_succ]
          refine wpAnyH_take (i := 24) (v := _) rfl (by kernel_rfl) (by kernel_rfl) (by kernel_rfl) (fun _ _ _ h => h) (yields_load rfl (.tmp 68) rfl rfl (fun w hSw => load_part [.int .i64 7, .int .i64 18, .int .i64 3] (hKS w hSw) (by intro j v hj; (rcases j with _ | _ | _ | j <;> first | exact hj | (simp at hj))) Tryd.underlying47 rfl (by kernel_rfl))) hS ?rest24
          try simp only [Act.put, List.getElem_toArray, List.getElem_cons_zero, List.getElem_cons_succ, List.setIfInBounds_toArray, List.set_cons_zero, List.set_cons_succ]
          refine wpAnyH_take (i := 27) (v := ?v27) rfl (by kernel_rfl) (by kernel_rfl) (by kernel_rfl) (fun _ _ _ h => h) (Or.inl ⟨by rfl, ?hy27⟩) hS ?rest27
          case hy27 => (intro w hSw; go_simp; first | done | with_reducible rfl)
          try simp only [Act.put, List.getElem_toArray, List.getElem_cons_zero, List.getElem_cons_succ, List.setIfInBounds_toArray, List.set_cons_zero, List.set_cons_succ]
          refine wpAnyH_take (i := 28) (v := ?v28) rfl (by kernel_rfl) (by kernel_rfl) (by kernel_rfl) (fun _ _ _ h => h) (Or.inl ⟨by rfl, ?hy28⟩) hS ?rest28
          case hy28 => (intro w hSw; go_simp; first | done | with_reducible rfl)
          try simp only [Act.put, List.getElem_toArray, List.getElem_cons_zero, List.getElem_cons_succ, List.setIfInBounds_toArray, List.set_cons_zero, List.set_cons_succ]
          refine wpAnyH_take (i := 29) (v := ?v29) rfl (by kernel_rfl) (by kernel_rfl) (by kernel_rfl) (fun _ _ _ h => h) (Or.inl ⟨by rfl, ?hy29⟩) hS ?rest29
          case hy29 => (intro w hSw; go_simp; first | done | with_reducible rfl)
          try simp only [Act.put, List.getElem_toArray, List.getElem_cons_zero, List.getElem_cons_succ, List.setIfInBounds_toArray, List.set_cons_zero, List.set_cons_succ]
          refine wpAnyH_take (i := 30) (v := ?v30) rfl (by kernel_rfl) (by kernel_rfl) (by kernel_rfl) (fun _ _ _ h => h) (Or.inl ⟨by rfl, ?hy30⟩) hS ?rest30
          case hy30 => (intro w hSw; go_simp; first | done | with_reducible rfl)
          try simp only [Act.put, List.getElem_toArray, List.getElem_cons_zero, List.getElem_cons_succ, List.setIfInBounds_toArray, List.set_cons_zero, List.set_cons_succ]
          refine wpAnyH_take (i := 31) (v := ?v31) rfl (by kernel_rfl) (by kernel_rfl) (by kernel_rfl) (fun _ _ _ h => h) (Or.inl ⟨by rfl, ?hy31⟩) hS ?rest31
          case hy31 => (intro w hSw; have hcw := hSw.2.2 _ _ _ _ rfl hj16 hc16; go_simp; first | done | with_reducible rfl)
          try simp only [Act.put, List.getElem_toArray, List.getElem_cons_zero, List.getElem_cons_succ, List.setIfInBounds_toArray, List.set_cons_zero, List.set_cons_succ]
          refine wpAnyH_ready (rs := [10]) (by kernel_rfl) (by simp) ?_
          refine AllReadyH.cons rfl (fun K hK => ?_) AllReadyH.nil
          go_simp
          refine (rshifted'_32 x2 s1 17 19 10 A1 A2 c1 c2 _ hb2 (by omega) (by omega) (by omega) hs1.out).mono ?_
          rintro e u1 ⟨rfl, p1⟩
          go_wp2_with fail
          have r1' := hS.below p1
          refine hK.out _ _ r1' ?_
          intro hS
          clear hK K
          try simp only [Act.put, List.getElem_toArray, List.getElem_cons_zero, List.getElem_cons_succ, List.setIfInBounds_toArray, List.set_cons_zero, List.set_cons_succ]
          refine wpAnyH_take (i := 16) (v := ?v16) rfl (by kernel_rfl) (by kernel_rfl) (by kernel_rfl) (fun _ _ _ h => h) (Or.inl ⟨by rfl, ?hy16⟩) hS ?rest16
          case hy16 => (intro w hSw; go_simp; first | done | with_reducible rfl)
          try simp only [Act.put, List.getElem_toArray, List.getElem_cons_zero, List.getElem_cons_succ, List.setIfInBounds_toArray, List.set_cons_zero, List.set_cons_succ]
          refine wpAnyH_ready (rs := [25]) (by kernel_rfl) (by simp) ?_
          refine AllReadyH.cons rfl (fun K hK => ?_) AllReadyH.nil
          go_simp
          refine (rshifted'_32 x15 s2 7 18 3 A1 A2 c1 c2 _ hb15 (by omega) (by omega) (by omega) hs2.out).mono ?_
          rintro e u2 ⟨rfl, p2⟩
          go_wp2_with fail
          have r2' := r1'.below p2
          refine hK.out _ _ r2' ?_
          intro hS
          clear hK K
          try simp only [Act.put, List.getElem_toArray, List.getElem_cons_zero, List.getElem_cons_succ, List.setIfInBounds_toArray, List.set_cons_zero, List.set_cons_succ]
          refine wpAnyH_take (i := 26) (v := ?v26) rfl (by kernel_rfl) (by kernel_rfl) (by kernel_rfl) (fun _ _ _ h => h) (Or.inl ⟨by rfl, ?hy26⟩) hS ?rest26
          case hy26 => (intro w hSw; go_simp; first | done | with_reducible rfl)
          try simp only [Act.put, List.getElem_toArray, List.getElem_cons_zero, List.getElem_cons_succ, List.setIfInBounds_toArray, List.set_cons_zero, List.set_cons_succ]
          refine wpAnyH_take (i := 32) (v := ?v32) rfl (by kernel_rfl) (by kernel_rfl) (by kernel_rfl) (fun _ _ _ h => h) (Or.inl ⟨by rfl, ?hy32⟩) hS ?rest32
          case hy32 => (intro w hSw; go_simp; first | done | with_reducible rfl)
          try simp only [Act.put, List.getElem_toArray, List.getElem_cons_zero, List.getElem_cons_succ, List.setIfInBounds_toArray, List.set_cons_zero, List.set_cons_succ]
          refine wpAnyH_ready (rs := [33]) (by kernel_rfl) (by simp) ?_
          refine AllReadyH.cons rfl (fun K hK => ?_) AllReadyH.nil
          go_simp
          refine (cut'_32 n3 n4 A1 A2 c1 c2 _ hn3b hn4.out).mono ?_
          rintro e u3 ⟨rfl, p3⟩
          go_wp2_with fail
          have r3' := r2'.below p3
          refine hK.out _ _ r3' ?_
          intro hS
          clear hK K
          try simp only [Act.put, List.getElem_toArray, List.getElem_cons_zero, List.getElem_cons_succ, List.setIfInBounds_toArray, List.set_cons_zero, List.set_cons_succ]
          refine wpAnyH_ready (rs := [34]) (by kernel_rfl) (by simp) ?_
          refine AllReadyH.cons rfl (fun K hK => ?_) AllReadyH.nil
          go_simp
          have r4' := r3'.below ((Below.refl _ _).alloc (Nat.le_refl _) (.cells #[.int .u64 (n4 : Int)] 52))
          refine hK.out _ _ r4' ?_
          intro hS
          clear hK K
          try simp only [Act.put, List.getElem_toArray, List.getElem_cons_zero, List.getElem_cons_succ, List.setIfInBounds_toArray, List.set_cons_zero, List.set_cons_succ]
          refine wpAnyH_ready (rs := [35]) (by kernel_rfl) (by simp) ?_
          refine AllReadyH.cons rfl (fun K hK => ?_) AllReadyH.nil
          refine step_apS (.tmp 45) (.tmp 79) _ rfl rfl W.heap.size 52 8 _ Tryd.underlying48 info64 rfl _ _ _ _ rfl ((((ho4d.to p1).to p2).to p3).to ((Below.refl _ _).alloc (Nat.le_refl _) _)) (u3.heap.size + 1) (some ⟨u3.heap.size, 0, none⟩) 1 1 _ rfl (one_cell u3 _ (.int .u64 n4)) (by simp; rfl) (by simp only [maxLen]; omega) (by omega) (by have := hbz.out; have : wr.drew.heap.size = wr.heap.size := rfl; have := p1.size; have := p2.size; have := p3.size; simp; omega) ?_
          intro A5 c5 u4 h5 hb5 h5c h5b
          have r5' := r4'.app (by have := hb5.size; exact this) h5c h5b
          refine hK.out _ _ r5' ?_
          intro hS
          clear hK K
          try simp only [Act.put, List.getElem_toArray, List.getElem_cons_zero, List.getElem_cons_succ, List.setIfInBounds_toArray, List.set_cons_zero, List.set_cons_succ]
          refine wpAnyH_take (i := 36) (v := ?v36) rfl (by kernel_rfl) (by kernel_rfl) (by kernel_rfl) (fun _ _ _ h => h) (Or.inl ⟨by rfl, ?hy36⟩) hS ?rest36
          case hy36 => (intro w hSw; go_simp; first | done | with_reducible rfl)
          try simp only [Act.put, List.getElem_toArray, List.getElem_cons_zero, List.getElem_cons_succ, List.setIfInBounds_toArray, List.set_cons_zero, List.set_cons_succ]
          refine wpAnyH_done (by kernel_rfl) (NoPanic.normal ?_) _
          go_wp2_with fail
          go_roundw
          case rel =>
            rw [hnew.out] at h5
            have q1 := below_drew hb4
            have q2 := q1.trans (p1.mono q1.size)
            have q3 := q2.trans (p2.mono q2.size)
            have q4 := q3.trans (p3.mono q3.size)
            have q5 := (q4.alloc q4.size (.cells #[.int .u64 (n4 : Int)] 52)).trans hb5
            exact ⟨t + 1, A5, c5, rfl, by go_num, by omega, h5, q5⟩
          case measure => simp only [intOf]; omega
        · obtain rfl : t = 48 := by omega
          go_wp2_with fail
          go_ret
          exact ⟨A4, c4, rfl, ho4.mono (by have := Hsz.out; omega), hb0.trans (hb4.mono (by have := Hsz.out; omega))⟩

theorem be_take_64 (l : List UInt8) (t i : Nat) (y : UInt8) (hy : l[t * 8 + i]? = some y) :
    be ((l.drop (t * 8)).take (i + 1)) = be ((l.drop (t * 8)).take i) * 256 + y.toNat := by
  rw [List.take_add_one, List.getElem?_drop, hy]
  exact be_snoc _ _

set_option maxHeartbeats 2000000 in
theorem words_64 (A : Option Addr) (c : Nat) (l : List UInt8) (A1 A2 : Option Addr) (c1 c2 : Nat) (w : World) (hr : Rd w w.heap.size 1 A 128 (l.map B8)) :
    Calls Tryd.prog 60 #[.agg #[.int .i64 64, .int .i64 80, .int .i64 28, .int .i64 34, .int .i64 39, .int .i64 14, .int .i64 18, .int .i64 41, .int .i64 1, .int .i64 8, .int .i64 7, .int .i64 19, .int .i64 61, .int .i64 6, .slice A1 80 c1, .slice A2 8 c2], .slice A 128 c] w fun e w' => ∃ A' c', e = .returned (.slice A' 80 c') ∧ OwnS w' w.heap.size A' 80 c' ((wds K64 l).map U) ∧ Below w.heap.size w w' := by
  have hl : l.length = 128 := by simpa using hr.len
  have Hl := Lib.hid hl
  clear hl
  go_enter Tryd.func60, Tryd.ntmps60
  go_wp2_with fail
  obtain ⟨W, hW⟩ : ∃ W, W = w.alloc (.cells #[.int .i64 64, .int .i64 80, .int .i64 28, .int .i64 34, .int .i64 39, .int .i64 14, .int .i64 18, .int .i64 41, .int .i64 1, .int .i64 8, .int .i64 7, .int .i64 19, .int .i64 61, .int .i64 6, .slice A1 80 c1, .slice A2 8 c2] 50) := ⟨_, rfl⟩
  have hb0 : Below w.heap.size w W := by rw [hW]; exact (Below.refl _ _).alloc (Nat.le_refl _) _
  have hK : W.heap[w.heap.size]? = some (.cells #[.int .i64 64, .int .i64 80, .int .i64 28, .int .i64 34, .int .i64 39, .int .i64 14, .int .i64 18, .int .i64 41, .int .i64 1, .int .i64 8, .int .i64 7, .int .i64 19, .int .i64 61, .int .i64 6, .slice A1 80 c1, .slice A2 8 c2] 50 (0, 0)) := by rw [hW]; exact heap_alloc_new w _
  have hsz : w.heap.size + 1 = W.heap.size := by rw [hW]; simp
  rw [← hW]
  clear hW
  have Hsz := Lib.hid hsz
  clear hsz
  have hr' := hr.below hb0
  go_loopw [5, 7, 8, 9] (fun v5 v7 _ _ wr => ∃ (t : Nat) (A' : Option Addr) (c' : Nat), v5 = .slice A' t c' ∧ v7 = .int .i64 t ∧ t ≤ 16 ∧ wr.ownsRow W.heap.size 52 1 (.slice A' t c') t ((List.range t).map (U ∘ bw 8 l)) ∧ Below W.heap.size W wr) (fun _ v7 _ _ _ => 16 - (intOf v7).toNat)
  case atStart => exact ⟨0, none, 0, rfl, rfl, by omega, World.ownsRow_nil _ _ _ _, Below.refl _ _⟩
  case round =>
    obtain ⟨t, A', c', rfl, rfl, ht, ho, hb⟩ := hrel
    by_cases hlt : t < 16
    · have hlt' : (t : Int) < 16 := by omega
      go_wp2_with fail
      go_loopw [8, 9] (fun v8 v9 wr' => ∃ (i x : Nat), wr = wr' ∧ v9 = .int .i64 i ∧ i ≤ 8 ∧ v8 = .int .u64 x ∧ Hid (x = be ((l.drop (t * 8)).take i))) (fun _ v9 _ => 8 - (intOf v9).toNat)
      case atStart => exact ⟨0, 0, rfl, rfl, by omega, rfl, by simp [Hid, be]⟩
      case round =>
        obtain ⟨i, x, rfl, rfl, hi, rfl, hx⟩ := hrel
        by_cases hiz : i < 8
        · have hiz' : (i : Int) < 8 := by omega
          obtain ⟨b, o, y, rfl, hbl, hy, hc⟩ := ((hr'.below (hb.mono (by have := Hsz.out; omega))).at8 (k := t * 8 + i) (by omega))
          have hi1 : (0 : Int) ≤ ((t * 8 + i : Nat) : Int) := by omega
          have hi2 : ((t * 8 + i : Nat) : Int) < 128 := by omega
          have hw1 : IntKind.i64.wrap ((t : Int) * 8) = ((t * 8 : Nat) : Int) := by rw [IntWalk.i64_in _ (by omega)]; omega
          have hw2 : IntKind.i64.wrap (((t * 8 : Nat) : Int) + (i : Int)) = ((t * 8 + i : Nat) : Int) := by rw [IntWalk.i64_in _ (by omega)]; omega
          have hw3 : IntKind.i64.wrap ((i : Int) + 1) = ((i + 1 : Nat) : Int) := by rw [IntWalk.i64_in _ (by omega)]; omega
          have hxb : x < 2 ^ 56 := by
            rw [hx.out]
            refine Nat.lt_of_lt_of_le (be_lt _) ?_
            calc 256 ^ _ ≤ 256 ^ 7 := Nat.pow_le_pow_right (by omega) (by rw [List.length_take]; omega)
              _ = 2 ^ 56 := by decide
          have hyb := y.toNat_lt
          have hst := be_take_64 l t i y hy.out
          rw [← hx.out] at hst
          have Hst := Lib.hid hst
          clear hst
          go_wp2_with fail
          refine ⟨⟨i + 1, x * 256 + y.toNat, trivial, by go_num, by omega, rfl, Hst.out.symm⟩, by simp only [intOf]; omega⟩
        · obtain rfl : i = 8 := by omega
          have hw4 : IntKind.i64.wrap ((t : Int) + 1) = ((t + 1 : Nat) : Int) := by rw [IntWalk.i64_in _ (by omega)]; omega
          have hx2 : Hid (x = bw 8 l t) := hx
          go_wp2_with (at_builtin
                       refine wpList_app rfl (.tmp 35) (.tmp 37) _ rfl W.heap.size 52 1 8 _ Tryd.underlying48 info64 rfl (by omega) _ _ _ rfl (ho.alloc _) (wr.heap.size + 1) (some ⟨wr.heap.size, 0, none⟩) 1 1 _ rfl (one_cell wr _ (.int .u64 x)) (by simp; rfl) (by simp only [maxLen]; omega) (by omega) (by simp; exact Nat.le_succ_of_le hb.size) ?_
                       intro A3 c3 w3 h3 hg3 _
                       have hb3 : Below W.heap.size W w3 := (hb.alloc hb.size _).grown hg3 (by simp; exact Nat.le_succ_of_le hb.size) (fun k hk => (ho.lt k hk).1))
          have e2 : (List.range t).map (U ∘ bw 8 l) ++ [Value.int .u64 (x : Int)] = (List.range (t + 1)).map (U ∘ bw 8 l) := by
            rw [List.range_succ, List.map_append, hx2.out]; rfl
          rw [e2] at h3
          refine ⟨⟨t + 1, A3, c3, rfl, by go_num, by omega, h3, hb3⟩, by simp only [intOf]; omega⟩
    · have ht16 : Hid (t = 16) := (by omega : t = 16)
      have hnt : ¬ (t : Int) < 16 := by omega
      have ho2 : OwnS wr W.heap.size A' 16 c' ((first16 K64 l).map U) := by
        have := OwnS.of_own ho
        rw [ht16.out, ← List.map_map] at this
        exact this
      have hf16 := Lib.hid (first16_length K64 l)
      have hel := Lib.hid (fun n => ext_length K64 (first16 K64 l) n)
      have hlt16 := Lib.hid (fun n => ext_lt K64 (first16 K64 l) (first16_lt (K := K64) rfl l) n)
      clear ho
      have hKr := (hb.block w.heap.size (by have := Hsz.out; omega)).trans hK
      have hcR := cell_blk hKr 1 rfl
      go_wp2_with fail
      go_loopw [5, 10] (fun v5 v10 wr2 => ∃ (t : Nat) (A' : Option Addr) (c' : Nat), v5 = .slice A' (16 + t) c' ∧ v10 = .int .i64 ((16 : Int) + t) ∧ t ≤ 64 ∧ OwnS wr2 W.heap.size A' (16 + t) c' ((ext K64 t (first16 K64 l)).map U) ∧ Below W.heap.size W wr2) (fun _ v10 _ => 100 - (intOf v10).toNat)
      case atStart => exact ⟨0, A', c', by rw [ht16.out], rfl, by omega, ho2, hb⟩
      case round =>
        obtain ⟨t, A4, c4, rfl, rfl, ht, ho4, hb4⟩ := hrel
        have hKr4 := (hb4.block w.heap.size (by have := Hsz.out; omega)).trans hK
        have hcR4 := cell_blk hKr4 1 rfl
        by_cases hlt : t < 64
        · have hlt' : (16 : Int) + t < 80 := by omega
          have hel' := hel.out t
          rw [hf16.out] at hel'
          have Hel := Lib.hid hel'
          clear hel'
          obtain ⟨b, o, x2, rfl, hbl, hc2, hx2⟩ := (ho4.rd.atU (k := 14 + t) (by omega))
          obtain ⟨b', o', x7, hA7, _, hc7, hx7⟩ := (ho4.rd.atU (k := 9 + t) (by omega))
          injection hA7 with hA7
          injection hA7 with hA71 hA72
          subst hA71 hA72
          obtain ⟨b', o', x15, hA7, _, hc15, hx15⟩ := (ho4.rd.atU (k := 1 + t) (by omega))
          injection hA7 with hA7
          injection hA7 with hA71 hA72
          subst hA71 hA72
          obtain ⟨b', o', x16, hA7, _, hc16, hx16⟩ := (ho4.rd.atU (k := t) (by omega))
          injection hA7 with hA7
          injection hA7 with hA71 hA72
          subst hA71 hA72
          have hxs := hlt16.out t
          have hb2 : x2 < 2 ^ 64 := by rw [← hx2.out]; exact getD_lt (Nat.two_pow_pos _) hxs _
          have hb15 : x15 < 2 ^ 64 := by rw [← hx15.out]; exact getD_lt (Nat.two_pow_pos _) hxs _
          clear hxs
          have hj : ∀ k x, k < 16 + t → (ext K64 t (first16 K64 l)).getD k 0 = x → ((ext K64 t (first16 K64 l)).map U)[k]? = some (.int .u64 (x : Int)) := by
            intro k x hk hx
            rw [List.getElem?_map, List.getElem?_eq_getElem (by rw [Hel.out]; exact hk)]
            simp [List.getD, show k < (ext K64 t (first16 K64 l)).length by rw [Hel.out]; exact hk] at hx
            rw [hx]; rfl
          have hj2 := Lib.hid (hj _ _ (by omega) hx2.out)
          have hj7 := Lib.hid (hj _ _ (by omega) hx7.out)
          have hj15 := Lib.hid (hj _ _ (by omega) hx15.out)
          have hj16 := Lib.hid (hj _ _ (by omega) hx16.out)
          clear hj
          obtain ⟨s1, hs1⟩ : ∃ s, Hid (shi 64 x2 (19, 61, 6) = s) := ⟨_, rfl⟩
          obtain ⟨s2, hs2⟩ : ∃ s, Hid (shi 64 x15 (1, 8, 7) = s) := ⟨_, rfl⟩
          obtain ⟨n1, hn1⟩ : ∃ n, Hid ((s1 + x7) % 18446744073709551616 = n) := ⟨_, rfl⟩
          obtain ⟨n2, hn2⟩ : ∃ n, Hid ((n1 + s2) % 18446744073709551616 = n) := ⟨_, rfl⟩
          obtain ⟨n3, hn3⟩ : ∃ n, Hid ((n2 + x16) % 18446744073709551616 = n) := ⟨_, rfl⟩
          obtain ⟨n4, hn4⟩ : ∃ n, Hid (n3 % 2 ^ 64 = n) := ⟨n3 % 2 ^ 64, Lib.hid rfl⟩
          have hn3b : n3 < 18446744073709551616 := by rw [← hn3.out]; exact Nat.mod_lt _ (by decide)
          have f1 : IntKind.u64.wrap ((s1 : Int) + (x7 : Int)) = (n1 : Int) := by rw [← Int.natCast_add, wrapU, hn1.out]
          have f2 : IntKind.u64.wrap ((n1 : Int) + (s2 : Int)) = (n2 : Int) := by rw [← Int.natCast_add, wrapU, hn2.out]
          have f3 : IntKind.u64.wrap ((n2 : Int) + (x16 : Int)) = (n3 : Int) := by rw [← Int.natCast_add, wrapU, hn3.out]
          have g1 : IntKind.i64.wrap ((16 : Int) + t - 2) = ((14 + t : Nat) : Int) := by rw [IntWalk.i64_in _ (by omega)]; omega
          have g2 : IntKind.i64.wrap ((16 : Int) + t - 7) = ((9 + t : Nat) : Int) := by rw [IntWalk.i64_in _ (by omega)]; omega
          have g3 : IntKind.i64.wrap ((16 : Int) + t - 15) = ((1 + t : Nat) : Int) := by rw [IntWalk.i64_in _ (by omega)]; omega
          have g4 : IntKind.i64.wrap ((16 : Int) + t - 16) = ((t : Nat) : Int) := by rw [IntWalk.i64_in _ (by omega)]; omega
          have i1 : (0 : Int) ≤ 14 + (t : Int) := by omega
          have i2 : ((14 : Int) + (t : Int)).toNat = 14 + t := by omega
          have i3 : (0 : Int) ≤ 9 + (t : Int) := by omega
          have i4 : ((9 : Int) + (t : Int)).toNat = 9 + t := by omega
          have i5 : (0 : Int) ≤ 1 + (t : Int) := by omega
          have i7 : (t : Int) < 16 + (t : Int) := by omega
          have i6 : ((1 : Int) + (t : Int)).toNat = 1 + t := by omega
          have g5 : IntKind.i64.wrap ((16 : Int) + t + 1) = (16 : Int) + (t + 1 : Nat) := by rw [IntWalk.i64_in _ (by omega)]; omega
          have hnew : Hid ((ext K64 t (first16 K64 l)).map U ++ [Value.int .u64 (n4 : Int)] = (ext K64 (t + 1) (first16 K64 l)).map U) := by
            unfold Hid
            rw [ext]
            simp only [List.map_append, List.map_cons, List.map_nil]
            congr 2
            unfold nxt
            rw [Hel.out, show 16 + t - 2 = 14 + t by omega, show 16 + t - 7 = 9 + t by omega, show 16 + t - 15 = 1 + t by omega, show 16 + t - 16 = t by omega, hx2.out, hx7.out, hx15.out, hx16.out]
            show Value.int .u64 _ = Value.int .u64 (((shi 64 x2 (19, 61, 6) + x7 + shi 64 x15 (1, 8, 7) + x16) % 2 ^ 64 : Nat) : Int)
            rw [hs1.out, hs2.out, ← add4_64, hn1.out, hn2.out, hn3.out, hn4.out]
          have hbz := Lib.hid hb4.size
          have ho4d : OwnS wr.drew W.heap.size (some ⟨b, o, none⟩) (16 + t) c4 ((ext K64 t (first16 K64 l)).map U) := ho4.to (below_drew (Below.refl _ _))
          have hbo : Hid (W.heap.size ≤ b) := by
            obtain ⟨g, o', e, hg, _⟩ := ho4.mem (by have := ho4.le; omega)
            injection e with e
            injection e with e1 _
            rw [e1]; exact hg
          have hKS : ∀ w', Sta wr.drew (some ⟨b, o, none⟩) ((ext K64 t (first16 K64 l)).map U) w' → w'.heap[w.heap.size]? = some (.cells #[.int .i64 64, .int .i64 80, .int .i64 28, .int .i64 34, .int .i64 39, .int .i64 14, .int .i64 18, .int .i64 41, .int .i64 1, .int .i64 8, .int .i64 7, .int .i64 19, .int .i64 61, .int .i64 6, .slice A1 80 c1, .slice A2 8 c2] 50 (0, 0)) := fun w' hS =>
            (hS.2.1 w.heap.size (by have := hbz.out; have := Hsz.out; exact (by omega : w.heap.size < wr.heap.size)) (fun g o' e => by injection e with e; injection e with e1 _; have := hbo.out; have := Hsz.out; omega)).trans hKr4
          go_wp2_with fail
          refine wp_region_noPanic ?_
          refine wp_region_held_drew (S := fun w' => Sta wr.drew (some ⟨b, o, none⟩) ((ext K64 t (first16 K64 l)).map U) w') (by kernel_rfl) (Sta.refl _ _ _) (fun hS => ?_)
          refine wpAnyH_take (i := 0) (v := ?v0) rfl (by kernel_rfl) (by kernel_rfl) (by kernel_rfl) (fun _ _ _ h => h) (Or.inl ⟨by rfl, ?hy0⟩) hS ?rest0
          case hy0 => (intro w hSw; go_simp; first | done | with_reducible rfl)
          try simp only [Act.put, List.getElem_toArray, List.getElem_cons_zero, List.getElem_cons_succ, List.setIfInBounds_toArray, List.set_cons_zero, List.set_cons_succ]
          refine wpAnyH_take (i := 1) (v := _) rfl (by kernel_rfl) (by kernel_rfl) (by kernel_rfl) (fun _ _ _ h => h) (yields_load rfl (.tmp 2) rfl rfl (fun w hSw => load_blk (hKS w hSw) Tryd.underlying50 rfl (by kernel_rfl))) hS ?rest1
          try simp only [Act.put, List.getElem_toArray, List.getElem_cons_zero, List.getElem_cons_succ, List.setIfInBounds_toArray, List.set_cons_zero, List.set_cons_succ]
          refine wpAnyH_take (i := 2) (v := _) rfl (by kernel_rfl) (by kernel_rfl) (by kernel_rfl) (fun _ _ _ h => h) (yields_load rfl (.tmp 2) rfl rfl (fun w hSw => load_blk (hKS w hSw) Tryd.underlying50 rfl (by kernel_rfl))) hS ?rest2
          try simp only [Act.put, List.getElem_toArray, List.getElem_cons_zero, List.getElem_cons_succ, List.setIfInBounds_toArray, List.set_cons_zero, List.set_cons_succ]
          refine wpAnyH_take (i := 3) (v := ?v3) rfl (by kernel_rfl) (by kernel_rfl) (by kernel_rfl) (fun _ _ _ h => h) (Or.inl ⟨by rfl, ?hy3⟩) hS ?rest3
          case hy3 => (intro w hSw; go_simp; first | done | with_reducible rfl)
          try simp only [Act.put, List.getElem_toArray, List.getElem_cons_zero, List.getElem_cons_succ, List.setIfInBounds_toArray, List.set_cons_zero, List.set_cons_succ]
          refine wpAnyH_take (i := 4) (v := ?v4) rfl (by kernel_rfl) (by kernel_rfl) (by kernel_rfl) (fun _ _ _ h => h) (Or.inl ⟨by rfl, ?hy4⟩) hS ?rest4
          case hy4 => (intro w hSw; go_simp; first | done | with_reducible rfl)
          try simp only [Act.put, List.getElem_toArray, List.getElem_cons_zero, List.getElem_cons_succ, List.setIfInBounds_toArray, List.set_cons_zero, List.set_cons_succ]
          refine wpAnyH_take (i := 5) (v := ?v5) rfl (by kernel_rfl) (by kernel_rfl) (by kernel_rfl) (fun _ _ _ h => h) (Or.inl ⟨by rfl, ?hy5⟩) hS ?rest5
          case hy5 => (intro w hSw; go_simp; first | done | with_reducible rfl)
          try simp only [Act.put, List.getElem_toArray, List.getElem_cons_zero, List.getElem_cons_succ, List.setIfInBounds_toArray, List.set_cons_zero, List.set_cons_succ]
          refine wpAnyH_take (i := 6) (v := ?v6) rfl (by kernel_rfl) (by kernel_rfl) (by kernel_rfl) (fun _ _ _ h => h) (Or.inl ⟨by rfl, ?hy6⟩) hS ?rest6
          case hy6 => (intro w hSw; go_simp; first | done | with_reducible rfl)
          try simp only [Act.put, List.getElem_toArray, List.getElem_cons_zero, List.getElem_cons_succ, List.setIfInBounds_toArray, List.set_cons_zero, List.set_cons_succ]
          refine wpAnyH_take (i := 7) (v := ?v7) rfl (by kernel_rfl) (by kernel_rfl) (by kernel_rfl) (fun _ _ _ h => h) (Or.inl ⟨by rfl, ?hy7⟩) hS ?rest7
          case hy7 => (intro w hSw; have hcw := hSw.2.2 _ _ _ _ rfl hj2 hc2; go_simp; first | done | with_reducible rfl)
          try simp only [Act.put, List.getElem_toArray, List.getElem_cons_zero, List.getElem_cons_succ, List.setIfInBounds_toArray, List.set_cons_zero, List.set_cons_succ]
          refine wpAnyH_take (i := 8) (v := ?v8) rfl (by kernel_rfl) (by kernel_rfl) (by kernel_rfl) (fun _ _ _ h => h) (Or.inl ⟨by rfl, ?hy8⟩) hS ?rest8
          case hy8 => (intro w hSw; go_simp; first | done | with_reducible rfl)
          try simp only [Act.put, List.getElem_toArray, List.getElem_cons_zero, List.getElem_cons_succ, List.setIfInBounds_toArray, List.set_cons_zero, List.set_cons_succ]
          refine wpAnyH_take (i := 9) (v := _) rfl (by kernel_rfl) (by kernel_rfl) (by kernel_rfl) (fun _ _ _ h => h) (yields_load rfl (.tmp 53) rfl rfl (fun w hSw => load_part [.int .i64 19, .int .i64 61, .int .i64 6] (hKS w hSw) (by intro j v hj; (rcases j with _ | _ | _ | j <;> first | exact hj | (simp at hj))) Tryd.underlying47 rfl (by kernel_rfl))) hS ?rest9
          try simp only [Act.put, List.getElem_toArray, List.getElem_cons_zero, List.getElem_cons_succ, List.setIfInBounds_toArray, List.set_cons_zero, List.set_cons_succ]
          refine wpAnyH_take (i := 11) (v := ?v11) rfl (by kernel_rfl) (by kernel_rfl) (by kernel_rfl) (fun _ _ _ h => h) (Or.inl ⟨by rfl, ?hy11⟩) hS ?rest11
          case hy11 => (intro w hSw; go_simp; first | done | with_reducible rfl)
          try simp only [Act.put, List.getElem_toArray, List.getElem_cons_zero, List.getElem_cons_succ, List.setIfInBounds_toArray, List.set_cons_zero, List.set_cons_succ]
          refine wpAnyH_take (i := 12) (v := ?v12) rfl (by kernel_rfl) (by kernel_rfl) (by kernel_rfl) (fun _ _ _ h => h) (Or.inl ⟨by rfl, ?hy12⟩) hS ?rest12
          case hy12 => (intro w hSw; go_simp; first | done | with_reducible rfl)
          try simp only [Act.put, List.getElem_toArray, List.getElem_cons_zero, List.getElem_cons_succ, List.setIfInBounds_toArray, List.set_cons_zero, List.set_cons_succ]
          refine wpAnyH_take (i := 13) (v := ?v13) rfl (by kernel_rfl) (by kernel_rfl) (by kernel_rfl) (fun _ _ _ h => h) (Or.inl ⟨by rfl, ?hy13⟩) hS ?rest13
          case hy13 => (intro w hSw; go_simp; first | done | with_reducible rfl)
          try simp only [Act.put, List.getElem_toArray, List.getElem_cons_zero, List.getElem_cons_succ, List.setIfInBounds_toArray, List.set_cons_zero, List.set_cons_succ]
          refine wpAnyH_take (i := 14) (v := ?v14) rfl (by kernel_rfl) (by kernel_rfl) (by kernel_rfl) (fun _ _ _ h => h) (Or.inl ⟨by rfl, ?hy14⟩) hS ?rest14
          case hy14 => (intro w hSw; go_simp; first | done | with_reducible rfl)
          try simp only [Act.put, List.getElem_toArray, List.getElem_cons_zero, List.getElem_cons_succ, List.setIfInBounds_toArray, List.set_cons_zero, List.set_cons_succ]
          refine wpAnyH_take (i := 15) (v := ?v15) rfl (by kernel_rfl) (by kernel_rfl) (by kernel_rfl) (fun _ _ _ h => h) (Or.inl ⟨by rfl, ?hy15⟩) hS ?rest15
          case hy15 => (intro w hSw; have hcw := hSw.2.2 _ _ _ _ rfl hj7 hc7; go_simp; first | done | with_reducible rfl)
          try simp only [Act.put, List.getElem_toArray, List.getElem_cons_zero, List.getElem_cons_succ, List.setIfInBounds_toArray, List.set_cons_zero, List.set_cons_succ]
          refine wpAnyH_take (i := 17) (v := _) rfl (by kernel_rfl) (by kernel_rfl) (by kernel_rfl) (fun _ _ _ h => h) (yields_load rfl (.tmp 2) rfl rfl (fun w hSw => load_blk (hKS w hSw) Tryd.underlying50 rfl (by kernel_rfl))) hS ?rest17
          try simp only [Act.put, List.getElem_toArray, List.getElem_cons_zero, List.getElem_cons_succ, List.setIfInBounds_toArray, List.set_cons_zero, List.set_cons_succ]
          refine wpAnyH_take (i := 18) (v := ?v18) rfl (by kernel_rfl) (by kernel_rfl) (by kernel_rfl) (fun _ _ _ h => h) (Or.inl ⟨by rfl, ?hy18⟩) hS ?rest18
          case hy18 => (intro w hSw; go_simp; first | done | with_reducible rfl)
          try simp only [Act.put, List.getElem_toArray, List.getElem_cons_zero, List.getElem_cons_succ, List.setIfInBounds_toArray, List.set_cons_zero, List.set_cons_succ]
          refine wpAnyH_take (i := 19) (v := ?v19) rfl (by kernel_rfl) (by kernel_rfl) (by kernel_rfl) (fun _ _ _ h => h) (Or.inl ⟨by rfl, ?hy19⟩) hS ?rest19
          case hy19 => (intro w hSw; go_simp; first | done | with_reducible rfl)
          try simp only [Act.put, List.getElem_toArray, List.getElem_cons_zero, List.getElem_cons_succ, List.setIfInBounds_toArray, List.set_cons_zero, List.set_cons_succ]
          refine wpAnyH_take (i := 20) (v := ?v20) rfl (by kernel_rfl) (by kernel_rfl) (by kernel_rfl) (fun _ _ _ h => h) (Or.inl ⟨by rfl, ?hy20⟩) hS ?rest20
          case hy20 => (intro w hSw; go_simp; first | done | with_reducible rfl)
          try simp only [Act.put, List.getElem_toArray, List.getElem_cons_zero, List.getElem_cons_succ, List.setIfInBounds_toArray, List.set_cons_zero, List.set_cons_succ]
          refine wpAnyH_take (i := 21) (v := ?v21) rfl (by kernel_rfl) (by kernel_rfl) (by kernel_rfl) (fun _ _ _ h => h) (Or.inl ⟨by rfl, ?hy21⟩) hS ?rest21
          case hy21 => (intro w hSw; go_simp; first | done | with_reducible rfl)
          try simp only [Act.put, List.getElem_toArray, List.getElem_cons_zero, List.getElem_cons_succ, List.setIfInBounds_toArray, List.set_cons_zero, List.set_cons_succ]
          refine wpAnyH_take (i := 22) (v := ?v22) rfl (by kernel_rfl) (by kernel_rfl) (by kernel_rfl) (fun _ _ _ h => h) (Or.inl ⟨by rfl, ?hy22⟩) hS ?rest22
          case hy22 => (intro w hSw; have hcw := hSw.2.2 _ _ _ _ rfl hj15 hc15; go_simp; first | done | with_reducible rfl)
          try simp only [Act.put, List.getElem_toArray, List.getElem_cons_zero, List.getElem_cons_succ, List.setIfInBounds_toArray, List.set_cons_zero, List.set_cons_succ]
          refine wpAnyH_take (i := 23) (v := ?v23) rfl (by kernel_rfl) (by kernel_rfl) (by kernel_rfl) (fun _ _ _ h => h) (Or.inl ⟨by rfl, ?hy23⟩) hS ?rest23
          case hy23 => (intro w hSw; go_simp; first | done | with_reducible rfl)
          try simp only [Act.put, List.getElem_toArray, List.getElem_cons_zero, List.getElem_cons_succ, List.setIfInBounds_toArray, List.set_cons_zero, List.set_cons_succ]
          refine wpAnyH_take (i := 24) (v := _) rfl (by kernel_rfl) (by kernel_rfl) (by kernel_rfl) (fun _ _ _ h => h) (yields_load rfl (.tmp 68) rfl rfl (fun w hSw => load_part [.int .i64 1, .int .i64 8, .int .i64 7] (hKS w hSw) (by intro j v hj; (rcases j with _ | _ | _ | j <;> first | exact hj | (simp at hj))) Tryd.underlying47 rfl (by kernel_rfl))) hS ?rest24
          try simp only [Act.put, List.getElem_toArray, List.getElem_cons_zero, List.getElem_cons_succ, List.setIfInBounds_toArray, List.set_cons_zero, List.set_cons_succ]
          refine wpAnyH_take (i := 27) (v := ?v27) rfl (by kernel_rfl) (by kernel_rfl) (by kernel_rfl) (fun _ _ _ h => h) (Or.inl ⟨by rfl, ?hy27⟩) hS ?rest27
          case hy27 => (intro w hSw; go_simp; first | done | with_reducible rfl)
          try simp only [Act.put, List.getElem_toArray, List.getElem_cons_zero, List.getElem_cons_succ, List.setIfInBounds_toArray, List.set_cons_zero, List.set_cons_succ]
          refine wpAnyH_take (i := 28) (v := ?v28) rfl (by kernel_rfl) (by kernel_rfl) (by kernel_rfl) (fun _ _ _ h => h) (Or.inl ⟨by rfl, ?hy28⟩) hS ?rest28
          case hy28 => (intro w hSw; go_simp; first | done | with_reducible rfl)
          try simp only [Act.put, List.getElem_toArray, List.getElem_cons_zero, List.getElem_cons_succ, List.setIfInBounds_toArray, List.set_cons_zero, List.set_cons_succ]
          refine wpAnyH_take (i := 29) (v := ?v29) rfl (by kernel_rfl) (by kernel_rfl) (by kernel_rfl) (fun _ _ _ h => h) (Or.inl ⟨by rfl, ?hy29⟩) hS ?rest29
          case hy29 => (intro w hSw; go_simp; first | done | with_reducible rfl)
          try simp only [Act.put, List.getElem_toArray, List.getElem_cons_zero, List.getElem_cons_succ, List.setIfInBounds_toArray, List.set_cons_zero, List.set_cons_succ]
          refine wpAnyH_take (i := 30) (v := ?v30) rfl (by kernel_rfl) (by kernel_rfl) (by kernel_rfl) (fun _ _ _ h => h) (Or.inl ⟨by rfl, ?hy30⟩) hS ?rest30
          case hy30 => (intro w hSw; go_simp; first | done | with_reducible rfl)
          try simp only [Act.put, List.getElem_toArray, List.getElem_cons_zero, List.getElem_cons_succ, List.setIfInBounds_toArray, List.set_cons_zero, List.set_cons_succ]
          refine wpAnyH_take (i := 31) (v := ?v31) rfl (by kernel_rfl) (by kernel_rfl) (by kernel_rfl) (fun _ _ _ h => h) (Or.inl ⟨by rfl, ?hy31⟩) hS ?rest31
          case hy31 => (intro w hSw; have hcw := hSw.2.2 _ _ _ _ rfl hj16 hc16; go_simp; first | done | with_reducible rfl)
          try simp only [Act.put, List.getElem_toArray, List.getElem_cons_zero, List.getElem_cons_succ, List.setIfInBounds_toArray, List.set_cons_zero, List.set_cons_succ]
          refine wpAnyH_ready (rs := [10]) (by kernel_rfl) (by simp) ?_
          refine AllReadyH.cons rfl (fun K hK => ?_) AllReadyH.nil
          go_simp
          refine (rshifted'_64 x2 s1 19 61 6 A1 A2 c1 c2 _ hb2 (by omega) (by omega) (by omega) hs1.out).mono ?_
          rintro e u1 ⟨rfl, p1⟩
          go_wp2_with fail
          have r1' := hS.below p1
          refine hK.out _ _ r1' ?_
          intro hS
          clear hK K
          try simp only [Act.put, List.getElem_toArray, List.getElem_cons_zero, List.getElem_cons_succ, List.setIfInBounds_toArray, List.set_cons_zero, List.set_cons_succ]
          refine wpAnyH_take (i := 16) (v := ?v16) rfl (by kernel_rfl) (by kernel_rfl) (by kernel_rfl) (fun _ _ _ h => h) (Or.inl ⟨by rfl, ?hy16⟩) hS ?rest16
          case hy16 => (intro w hSw; go_simp; first | done | with_reducible rfl)
          try simp only [Act.put, List.getElem_toArray, List.getElem_cons_zero, List.getElem_cons_succ, List.setIfInBounds_toArray, List.set_cons_zero, List.set_cons_succ]
          refine wpAnyH_ready (rs := [25]) (by kernel_rfl) (by simp) ?_
          refine AllReadyH.cons rfl (fun K hK => ?_) AllReadyH.nil
          go_simp
          refine (rshifted'_64 x15 s2 1 8 7 A1 A2 c1 c2 _ hb15 (by omega) (by omega) (by omega) hs2.out).mono ?_
          rintro e u2 ⟨rfl, p2⟩
          go_wp2_with fail
          have r2' := r1'.below p2
          refine hK.out _ _ r2' ?_
          intro hS
          clear hK K
          try simp only [Act.put, List.getElem_toArray, List.getElem_cons_zero, List.getElem_cons_succ, List.setIfInBounds_toArray, List.set_cons_zero, List.set_cons_succ]
          refine wpAnyH_take (i := 26) (v := ?v26) rfl (by kernel_rfl) (by kernel_rfl) (by kernel_rfl) (fun _ _ _ h => h) (Or.inl ⟨by rfl, ?hy26⟩) hS ?rest26
          case hy26 => (intro w hSw; go_simp; first | done | with_reducible rfl)
          try simp only [Act.put, List.getElem_toArray, List.getElem_cons_zero, List.getElem_cons_succ, List.setIfInBounds_toArray, List.set_cons_zero, List.set_cons_succ]
          refine wpAnyH_take (i := 32) (v := ?v32) rfl (by kernel_rfl) (by kernel_rfl) (by kernel_rfl) (fun _ _ _ h => h) (Or.inl ⟨by rfl, ?hy32⟩) hS ?rest32
          case hy32 => (intro w hSw; go_simp; first | done | with_reducible rfl)
          try simp only [Act.put, List.getElem_toArray, List.getElem_cons_zero, List.getElem_cons_succ, List.setIfInBounds_toArray, List.set_cons_zero, List.set_cons_succ]
          refine wpAnyH_ready (rs := [33]) (by kernel_rfl) (by simp) ?_
          refine AllReadyH.cons rfl (fun K hK => ?_) AllReadyH.nil
          go_simp
          refine (cut'_64 n3 n4 A1 A2 c1 c2 _ hn3b hn4.out).mono ?_
          rintro e u3 ⟨rfl, p3⟩
          go_wp2_with fail
          have r3' := r2'.below p3
          refine hK.out _ _ r3' ?_
          intro hS
          clear hK K
          try simp only [Act.put, List.getElem_toArray, List.getElem_cons_zero, List.getElem_cons_succ, List.setIfInBounds_toArray, List.set_cons_zero, List.set_cons_succ]
          refine wpAnyH_ready (rs := [34]) (by kernel_rfl) (by simp) ?_
          refine AllReadyH.cons rfl (fun K hK => ?_) AllReadyH.nil
          go_simp
          have r4' := r3'.below ((Below.refl _ _).alloc (Nat.le_refl _) (.cells #[.int .u64 (n4 : Int)] 52))
          refine hK.out _ _ r4' ?_
          intro hS
          clear hK K
          try simp only [Act.put, List.getElem_toArray, List.getElem_cons_zero, List.getElem_cons_succ, List.setIfInBounds_toArray, List.set_cons_zero, List.set_cons_succ]
          refine wpAnyH_ready (rs := [35]) (by kernel_rfl) (by simp) ?_
          refine AllReadyH.cons rfl (fun K hK => ?_) AllReadyH.nil
          refine step_apS (.tmp 45) (.tmp 79) _ rfl rfl W.heap.size 52 8 _ Tryd.underlying48 info64 rfl _ _ _ _ rfl ((((ho4d.to p1).to p2).to p3).to ((Below.refl _ _).alloc (Nat.le_refl _) _)) (u3.heap.size + 1) (some ⟨u3.heap.size, 0, none⟩) 1 1 _ rfl (one_cell u3 _ (.int .u64 n4)) (by simp; rfl) (by simp only [maxLen]; omega) (by omega) (by have := hbz.out; have : wr.drew.heap.size = wr.heap.size := rfl; have := p1.size; have := p2.size; have := p3.size; simp; omega) ?_
          intro A5 c5 u4 h5 hb5 h5c h5b
          have r5' := r4'.app (by have := hb5.size; exact this) h5c h5b
          refine hK.out _ _ r5' ?_
          intro hS
          clear hK K
          try simp only [Act.put, List.getElem_toArray, List.getElem_cons_zero, List.getElem_cons_succ, List.setIfInBounds_toArray, List.set_cons_zero, List.set_cons_succ]
          refine wpAnyH_take (i := 36) (v := ?v36) rfl (by kernel_rfl) (by kernel_rfl) (by kernel_rfl) (fun _ _ _ h => h) (Or.inl ⟨by rfl, ?hy36⟩) hS ?rest36
          case hy36 => (intro w hSw; go_simp; first | done | with_reducible rfl)
          try simp only [Act.put, List.getElem_toArray, List.getElem_cons_zero, List.getElem_cons_succ, List.setIfInBounds_toArray, List.set_cons_zero, List.set_cons_succ]
          refine wpAnyH_done (by kernel_rfl) (NoPanic.normal ?_) _
          go_wp2_with fail
          go_roundw
          case rel =>
            rw [hnew.out] at h5
            have q1 := below_drew hb4
            have q2 := q1.trans (p1.mono q1.size)
            have q3 := q2.trans (p2.mono q2.size)
            have q4 := q3.trans (p3.mono q3.size)
            have q5 := (q4.alloc q4.size (.cells #[.int .u64 (n4 : Int)] 52)).trans hb5
            exact ⟨t + 1, A5, c5, rfl, by go_num, by omega, h5, q5⟩
          case measure => simp only [intOf]; omega
        · obtain rfl : t = 64 := by omega
          go_wp2_with fail
          go_ret
          exact ⟨A4, c4, rfl, ho4.mono (by have := Hsz.out; omega), hb0.trans (hb4.mono (by have := Hsz.out; omega))⟩
end Go.Proofs.YtclecmpmohoamaaDoor
