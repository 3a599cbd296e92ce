/- The ideal suite's Terms, where one text was hashed. -/
import Derived.Test.YtabcbpcfleociaaVaB
import Derived.Test.YtabcbpcfleociaaSuiF
namespace Go.Proofs.Ytabcbpcfleociaa
open Go.RowKit Go.Maps
attribute [local go_sem ↓] Go.wp_at_zero Go.wp_at_succ
set_option linter.unusedSimpArgs false
set_option linter.unusedVariables false
theorem infoS : (Try.prog.info? 38).map (fun i => (i.zero, i.size, i.bytes)) = some (some (.slice none 0 0), 1, 24) := by kernel_rfl
theorem infoT2 : (Try.prog.info? 68).map (fun i => (i.zero, i.size, i.bytes)) = some (some (.agg #[.int .u8 0, .slice none 0 0]), 2, 32) := by kernel_rfl
set_option maxRecDepth 4000 in
set_option maxHeartbeats 2000000 in
theorem terms_ (g : Nat) (h : List UInt8) (own R : List Nat) (w : World) (hI : IdealAt w g [h] own R) (hh : h.length ≤ 1000000) :
    Calls Try.prog 31 #[.pointer (some ⟨g, 0, none⟩)] w fun e w' => ∃ B c, e = .returned (.slice B 1 c) ∧ VtL w' w'.heap.size B 1 [h] ∧ Below w.heap.size w w' := by
  have HI := Lib.hid hI
  obtain ⟨A, c, b, Qs, f, hv⟩ := hI
  have h0 : w.cell? ⟨g, 0, none⟩ = some (.slice A 1 c) := cell_blk hv.blk 0 rfl
  obtain ⟨q, rfl⟩ : ∃ q, Qs = [q] := by
    have := hv.qs
    match Qs, this with
    | [q], _ => exact ⟨q, rfl⟩
  obtain ⟨qb, qo, A2, c2, hq, _, hqc, hqr, _⟩ := hv.parts 0 q h rfl rfl
  obtain ⟨qa, qcap⟩ := q
  simp only at hq
  subst hq
  obtain ⟨rb, ro, rfl, hrb, hrc⟩ := (Rd.of_own hv.row).2 (Nat.lt_succ_self 0)
  have r0 : w.cell? ⟨rb, ro, none⟩ = some (.int .u8 104) := hrc 0 _ rfl
  have r1 : w.cell? ⟨rb, ro + 1, none⟩ = some (.slice (some ⟨qb, qo, none⟩) 1 qcap) := hrc 1 _ rfl
  have HQR := Lib.hid hqr.1
  have hqbl : Hid (qb < w.heap.size) := World.block_lt_of_cell? _ _ hqc
  have HRB := Lib.hid hrb
  have HR0 := Lib.hid r0
  have HR1 := Lib.hid r1
  have HQC := Lib.hid hqc
  obtain ⟨ln, hln⟩ : ∃ n, Hid (n = h.length) := ⟨_, Lib.hid rfl⟩
  rw [← hln.out] at HQR HQC
  have hlb : ln ≤ 1000000 := by rw [hln.out]; exact hh
  clear hv hqr hrc hrb hqc r0 r1 hh
  go_enter Try.func31, Try.ntmps31
  go_wp2_with fail
  refine (made_ g [h] own R w HI.out).mono ?_
  rintro e w1 ⟨rfl, rfl⟩
  go_wp2_with fail
  go_loopw [3, 18] (fun x3 x18 wr => ∃ i : Nat, x18 = .int .i64 i ∧ i ≤ 1 ∧ Hid (Below w1.heap.size w1 wr) ∧ ((i = 0 ∧ x3 = .slice none 0 0) ∨ (i = 1 ∧ ∃ B cc, x3 = .slice B 1 cc ∧ Hid (VtL wr wr.heap.size B 1 [h])))) (fun _ x18 _ => 1 - (intOf x18).toNat)
  case atStart => exact ⟨0, rfl, by omega, Below.refl _ _, Or.inl ⟨rfl, rfl⟩⟩
  case round =>
    obtain ⟨i, rfl, hi, hb, ⟨hi0, rfl⟩ | ⟨hi1, B, cc, rfl, hV⟩⟩ := hrel
    · subst hi0
      rw [show ((0 : Nat) : Int) = 0 from rfl]
      have e0 : wr.cell? ⟨rb, ro, none⟩ = some (.int .u8 104) := (World.cell?_of_block (a := ⟨rb, ro, none⟩) (hb.out.block rb HRB.out)).trans HR0.out
      have e1 : wr.cell? ⟨rb, ro + 1, none⟩ = some (.slice (some ⟨qb, qo, none⟩) 1 qcap) := (World.cell?_of_block (a := ⟨rb, ro + 1, none⟩) (hb.out.block rb HRB.out)).trans HR1.out
      obtain ⟨W, hW⟩ : ∃ W, Hid (W = wr.alloc (.cells #[.int .u8 104, .slice (some ⟨qb, qo, none⟩) 1 qcap] 68)) := ⟨_, Lib.hid rfl⟩
      obtain ⟨G, hG⟩ : ∃ g, Hid (g = wr.heap.size) := ⟨_, Lib.hid rfl⟩
      have BW : Hid (Below w1.heap.size w1 W) := by rw [hW.out]; exact hb.out.alloc hb.out.size _
      have RW : Hid (W.rangeAt G 0 [.int .u8 104, .slice (some ⟨qb, qo, none⟩) 1 qcap]) := by rw [hW.out, hG.out]; exact rangeNew wr _ _
      have hGW : Hid (G < W.heap.size) := by unfold Hid; rw [hG.out, hW.out, szAlloc]; exact Nat.lt_succ_self _
      go_wp2_with fail
      rw [← hW.out, ← hG.out]
      go_loopw [6, 25] (fun x6 x25 wr => ∃ j : Nat, x25 = .int .i64 j ∧ j ≤ 1 ∧ Hid (Below W.heap.size W wr) ∧ ((j = 0 ∧ x6 = .slice none 0 0) ∨ (j = 1 ∧ ∃ pb pc, x6 = .slice (some ⟨pb, 0, none⟩) 1 pc ∧ Hid (OneAt wr wr.heap.size pb 0 h)))) (fun _ x25 _ => 1 - (intOf x25).toNat)
      case atStart => exact ⟨0, rfl, by omega, Below.refl _ _, Or.inl ⟨rfl, rfl⟩⟩
      case round =>
        obtain ⟨j, rfl, hj, hbj, ⟨hj0, rfl⟩ | ⟨hj1, pb, pc, rfl, hO⟩⟩ := hrel
        · subst hj0
          rw [show ((0 : Nat) : Int) = 0 from rfl]
          have hbw := Lib.hid (BW.out.trans (hbj.out.mono BW.out.size))
          have c0 := (World.cell?_of_block (a := ⟨qb, qo, none⟩) (hbw.out.block qb hqbl.out)).trans HQC.out
          have HQ2 := Lib.hid (HQR.out.to hbw.out)
          have e8 : IntKind.i64.wrap (0 + 1) = 1 := by decide
          go_wp2_with (first
            | (at_builtin
               refine wpList_app rfl (.tmp 30) (.tmp 31) 38 rfl wr.heap.size 5 1 1 (.int .u8 0) Try.underlying38 infoB rfl (by decide) (.slice (some ⟨wr.heap.size, 0, none⟩) 0 0) 0 [] rfl (World.ownsRow_lit wr #[] 0 (Nat.le_refl _) (by simp [maxLen]) rfl) wr.heap.size A2 ln c2 (h.map B8) rfl (HQ2.out.alloc (Nat.le_refl _) _) (oneB h) (by simp only [maxLen]; omega) (by omega) (by simp) ?_
               intro A3 c3 w3 o3 g3 _
               simp only [Nat.zero_add, List.nil_append] at o3
               have B3 : Hid (Below wr.heap.size wr w3) := ((Below.refl _ _).alloc (Nat.le_refl _) _).grown g3 (by simp) (fun k hk => by simp [Value.ownBlock] at hk; omega)
               have O3 := Lib.hid o3
               clear o3 g3)
            | (at_builtin
               have B4 : Hid (Below wr.heap.size wr (w3.alloc (.cells #[.slice A3 ln c3] 38))) := B3.out.alloc B3.out.size _
               refine wpList_app rfl (.tmp 29) (.tmp 33) 66 rfl wr.heap.size 38 1 24 (.slice none 0 0) Try.underlying66 infoS rfl (by decide) (.slice none 0 0) 0 [] rfl (World.ownsRow_nil _ _ _ _) _ (some ⟨w3.heap.size, 0, none⟩) 1 1 [.slice A3 ln c3] rfl (one_cell w3 _ _) (by intro u hu; simp at hu; subst hu; rfl) (by simp [maxLen]) (by decide) B4.out.size ?_
               intro A5 c5 w5 o5 g5 _
               simp only [Nat.zero_add, List.nil_append] at o5
               obtain ⟨pb, rfl, hpb, hpl⟩ := own_addr o5 (by decide)
               have b45 : Below (w3.alloc (.cells #[.slice A3 ln c3] 38)).heap.size (w3.alloc (.cells #[.slice A3 ln c3] 38)) w5 := ⟨g5.os, g5.tape, g5.output, g5.size, fun k hk => g5.block k hk (by simp [Value.ownBlock])⟩
               have B5 : Hid (Below wr.heap.size wr w5) := B4.out.trans (b45.mono B4.out.size)
               have P5 : Hid (OneAt w5 w5.heap.size pb 0 h) := by
                 refine ⟨hpl, A3, c3, ?_, ?_⟩
                 · have := o5.cellAt 0 (by decide)
                   rw [← hln.out]
                   exact this
                 · rw [← hln.out]
                   exact ((Rd.of_own O3.out).to (((Below.refl w3.heap.size w3).alloc (Nat.le_refl _) _))).to b45
               clear o5 g5 b45))
          go_roundw
          case rel => exact ⟨1, by go_num, by omega, hbj.out.trans (B5.out.mono hbj.out.size), Or.inr ⟨rfl, pb, c5, rfl, P5⟩⟩
          case measure => simp only [intOf]; omega
        · subst hj1
          rw [show ((1 : Nat) : Int) = 1 from rfl]
          have r0 := range_keep RW.out hbj.out hGW.out
          have c0 := r0 0 _ rfl
          have e8 : IntKind.i64.wrap (0 + 1) = 1 := by decide
          have hbw := Lib.hid (BW.out.trans (hbj.out.mono BW.out.size))
          go_wp2_with (at_builtin
                       have B4 : Hid (Below w1.heap.size w1 (wr.alloc (.cells #[.int .u8 104, .slice (some ⟨pb, 0, none⟩) 1 pc] 68))) := hbw.out.alloc hbw.out.size _
                       refine wpList_app rfl (.tmp 36) (.tmp 41) 64 rfl w1.heap.size 68 2 32 _ Try.underlying64 infoT2 rfl (by decide) (.slice none 0 0) 0 [] rfl (World.ownsRow_nil _ _ _ _) _ (some ⟨wr.heap.size, 0, none⟩) 1 1 [.int .u8 104, .slice (some ⟨pb, 0, none⟩) 1 pc] rfl (two_cells wr _ _ _) (by intro u hu; simp at hu; rcases hu with rfl | rfl <;> rfl) (by simp [maxLen]) (by decide) B4.out.size ?_
                       intro A6 c6 w6 o6 g6 _
                       simp only [Nat.zero_add, List.nil_append] at o6
                       have b46 : Below (wr.alloc (.cells #[.int .u8 104, .slice (some ⟨pb, 0, none⟩) 1 pc] 68)).heap.size (wr.alloc (.cells #[.int .u8 104, .slice (some ⟨pb, 0, none⟩) 1 pc] 68)) w6 := ⟨g6.os, g6.tape, g6.output, g6.size, fun k hk => g6.block k hk (by simp [Value.ownBlock])⟩
                       have B6 : Hid (Below w1.heap.size w1 w6) := B4.out.trans (b46.mono B4.out.size)
                       have V6 : Hid (VtL w6 w6.heap.size A6 1 [h]) := by
                         refine ⟨[(pb, 0, pc)], rfl, rfl, Rd.of_own o6, fun i q l e1 e2 => ?_⟩
                         rcases i with _ | i
                         · simp at e1 e2
                           subst e1 e2
                           exact (hO.out.to ((Below.refl wr.heap.size wr).alloc (Nat.le_refl _) _)).to b46
                         · simp at e1
                       clear o6 g6 b46)
          go_roundw
          case rel => exact ⟨1, by go_num, by omega, B6, Or.inr ⟨rfl, A6, c6, rfl, V6⟩⟩
          case measure => simp only [intOf]; omega
    · subst hi1
      rw [show ((1 : Nat) : Int) = 1 from rfl]
      go_wp2_with fail
      go_ret
      exact ⟨B, cc, rfl, hV.out, hb.out⟩
end Go.Proofs.Ytabcbpcfleociaa
