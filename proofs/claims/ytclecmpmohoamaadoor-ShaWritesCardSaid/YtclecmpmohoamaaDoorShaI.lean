/- The program's keys, first words, told. (Printed by gen_shai.py.) -/
import Derived.Test.YtclecmpmohoamaaDoorShaG
namespace Go.Proofs.YtclecmpmohoamaaDoor
open Go.RowKit
set_option linter.unusedSimpArgs false
set_option linter.unusedVariables false

theorem key_32 (t k : Nat) (w : World) (ht : t < 64) (hc : w.cell? ⟨3, t, none⟩ = some (.int .u32 k)) :
    Calls Tryd.prog 45 #[.int .i64 t] w fun e w' => e = .returned (.int .u32 k) ∧ w = w' := by
  have h0 : (0 : Int) ≤ t := by omega
  have h1 : (t : Int) < 64 := by omega
  go_enter Tryd.func45, Tryd.ntmps45
  go_wp2_with fail
  go_returns
  exact ⟨rfl, rfl⟩
theorem first_32 (w : World) :
    Calls Tryd.prog 43 #[] w fun e w' => e = .returned (.agg (F32.l.map fun x => Value.int .u32 (x : Nat)).toArray) ∧ Below w.heap.size w w' := by
  go_enter Tryd.func43, Tryd.ntmps43
  go_wp2_with fail
  have hra := range_part (F32.l.map fun x => Value.int .u32 (x : Nat)) (o := 0) (heap_alloc_new w (.cells (F32.l.map fun x => Value.int .u32 (x : Nat)).toArray 62)) (by intro j v hj; rw [Nat.zero_add, List.getElem?_toArray]; exact hj)
  have hld := run_loadVar_mid (P := Tryd.prog) _ w.heap.size 0 62 _ _ hra Tryd.underlying62 rfl (by kernel_rfl)
  exact bodyPost_ret (v := .agg (F32.l.map fun x => Value.int .u32 (x : Nat)).toArray) (results_cell Tryd.results43 rfl hld) rfl ⟨rfl, (Below.refl _ _).alloc (Nat.le_refl _) _⟩

theorem index_32 (s : S8) (i x : Nat) (h : s.l[i]? = some x) (w : World) : (Instr.index 62 (.agg #[.int .u32 s.a, .int .u32 s.b, .int .u32 s.c, .int .u32 s.d, .int .u32 s.e, .int .u32 s.f, .int .u32 s.g, .int .u32 s.h]) (.int .i64 i)).run Tryd.prog w = .ok (.int .u32 x) w := by
  obtain ⟨a, b, c, d, e, f, g, hh⟩ := s
  rcases i with _ | _ | _ | _ | _ | _ | _ | _ | i
  all_goals (simp [S8.l] at h)
  all_goals (subst h; kernel_rfl)

theorem told_32 (V : S8) (w : World) (hV : V.ok 32) :
    Calls Tryd.prog 46 #[.agg #[.int .u32 V.a, .int .u32 V.b, .int .u32 V.c, .int .u32 V.d, .int .u32 V.e, .int .u32 V.f, .int .u32 V.g, .int .u32 V.h], .int .i64 32] w fun e w' => ∃ A' c', e = .returned (.slice A' 32 c') ∧ w'.ownsRow w.heap.size 5 1 (.slice A' 32 c') 32 ((told 32 V).map B8) ∧ Below w.heap.size w w' := by
  have hVo := Lib.hid hV
  clear hV
  go_enter Tryd.func46, Tryd.ntmps46
  obtain ⟨wq, hwq⟩ : ∃ W, W = w.alloc (.cells #[.int .u32 V.a, .int .u32 V.b, .int .u32 V.c, .int .u32 V.d, .int .u32 V.e, .int .u32 V.f, .int .u32 V.g, .int .u32 V.h] 62) := ⟨_, rfl⟩
  have hb0 : Below w.heap.size w wq := by rw [hwq]; exact (Below.refl _ _).alloc (Nat.le_refl _) _
  have Hwq := Lib.hid hwq
  clear hwq
  go_wp2_with fail
  rw [← Hwq.out]
  go_loopw [5, 7, 8, 10] (fun x5 _ _ x10 wr5 => ∃ (i q : Nat) (A' : Option Addr) (c' : Nat), Hid (q = i * 4) ∧ x5 = .slice A' q c' ∧ x10 = .int .i64 i ∧ i ≤ 8 ∧ wr5.ownsRow wq.heap.size 5 1 (.slice A' q c') q (((V.l.take i).flatMap (toBE 32)).map B8) ∧ Below wq.heap.size wq wr5) (fun _ _ _ x10 _ => 8 - (intOf x10).toNat)
  case atStart => exact ⟨0, 0, none, 0, rfl, rfl, rfl, by omega, World.ownsRow_nil _ _ _ _, Below.refl _ _⟩
  case round =>
    obtain ⟨i, q, A', c', hq, rfl, rfl, hi, ho, hb⟩ := hrel
    by_cases hi8 : i < 8
    · have hi8' : (i : Int) < 8 := by omega
      have hi0 : (0 : Int) ≤ i := by omega
      obtain ⟨x, hx⟩ : ∃ x, Hid (V.l[i]? = some x) := ⟨V.l[i]'(by simpa [S8.l] using hi8), List.getElem?_eq_getElem _⟩
      have hx64 : x < 2 ^ 32 := by
        have hy := List.mem_of_getElem? hx.out
        obtain ⟨o1, o2, o3, o4, o5, o6, o7, o8⟩ := hVo.out
        simp [S8.l] at hy
        rcases hy with h | h | h | h | h | h | h | h <;> (rw [h]; assumption)
      have hst : Hid ((V.l.take i).flatMap (toBE 32) ++ toBE 32 x = (V.l.take (i + 1)).flatMap (toBE 32)) := by
        unfold Hid
        rw [List.take_add_one, hx.out]
        simp
      have hix := index_32 V i x hx.out
      have e8 : IntKind.i64.wrap ((i : Int) + 1) = ((i + 1 : Nat) : Int) := by rw [IntWalk.i64_in _ (by omega)]; omega
      go_wp2_with fail
      go_loopw [5, 8] (fun x5 x8 wr6 => ∃ (j m : Nat) (n : Int) (A' : Option Addr) (c' : Nat), Hid (m = i * 4 + j) ∧ x5 = .slice A' m c' ∧ x8 = .int .i64 n ∧ Hid (n = 24 - 8 * (j : Int)) ∧ j ≤ 4 ∧ wr6.ownsRow wq.heap.size 5 1 (.slice A' m c') m (((V.l.take i).flatMap (toBE 32) ++ (toBE 32 x).take j).map B8) ∧ Below wq.heap.size wq wr6) (fun _ x8 _ => (intOf x8 + 8).toNat)
      case atStart => exact ⟨0, q, 24, A', c', hq, rfl, rfl, by unfold Hid; omega, by omega, by simpa using ho, hb⟩
      case round =>
        obtain ⟨j, m, n, A', c', hm, rfl, rfl, hn', hj, ho, hb⟩ := hrel
        have hmb : m ≤ 1000 := by rw [hm.out]; omega
        by_cases hjz : j < 4
        · obtain ⟨sh, rfl⟩ : ∃ sh : Nat, n = sh := ⟨n.toNat, by have := hn'.out; omega⟩
          have hsh : Hid (sh = 24 - 8 * j) := by have := hn'.out; exact (by omega : sh = 24 - 8 * j)
          have hs0 : (0 : Int) ≤ (sh : Int) := by omega
          have hs1 : (sh : Int) ≤ 32 := by have := hn'.out; omega
          obtain ⟨y, hy⟩ : ∃ y, Hid (x / 2 ^ sh = y) := ⟨_, Lib.hid rfl⟩
          obtain ⟨z, hz⟩ : ∃ z, Hid (z = y % 256) := ⟨_, Lib.hid rfl⟩
          have f0 : (x : Int) / 2 ^ sh = (y : Int) := by rw [← hy.out, Int.natCast_ediv, Int.natCast_pow]; rfl
          have d4 : IntKind.u8.wrap (y : Int) = (z : Int) := by rw [IntKind.wrap_u8', hz.out]; omega
          have d5 : (y : Int) % 256 = (z : Int) := by rw [hz.out]; omega
          have hby : Hid (((UInt8.ofNat (x / 2 ^ sh)).toNat : Int) = (z : Int)) := by
            unfold Hid
            rw [hy.out, UInt8.toNat_ofNat', hz.out]
          have hbe : Hid ((toBE 32 x).take j ++ [UInt8.ofNat (x / 2 ^ sh)] = (toBE 32 x).take (j + 1)) := by
            unfold Hid
            rw [List.take_add_one]
            congr 1
            rw [toBE, List.getElem?_map, List.getElem?_range (by omega)]
            simp only [Option.map_some, Option.toList_some]
            rw [hsh.out]
          go_wp2_with (first
                | (at_builtin
                   refine wpList_app rfl (.tmp 19) (.tmp 24) _ rfl wq.heap.size 5 1 1 _ Tryd.underlying22 info8 rfl Nat.zero_lt_one (.slice A' m c') m _ rfl (ho.alloc _) (wr.heap.size + 1) (some ⟨wr.heap.size, 0, none⟩) 1 1 ([(UInt8.ofNat (x / 2 ^ sh))].map B8) rfl (one_cell8 wr (UInt8.ofNat (x / 2 ^ sh)) (z : Int) hby.out) (B8_one _) ?_ ?_ ?_ ?_
                   · simp only [maxLen]; omega
                   · omega
                   · simp; exact Nat.le_succ_of_le hb.size
                   intro A3 c3 w3 h3 hg3 _
                   have hb3 : Below wq.heap.size wq w3 := (hb.alloc hb.size _).grown hg3 (by simp; exact Nat.le_succ_of_le hb.size) (fun k hk => (ho.lt k hk).1)
                   have H3 := Lib.hid h3
                   clear h3 hg3))
          have h3 := H3.out
          rw [← List.map_append, List.append_assoc, hbe.out] at h3
          go_roundw
          case rel => exact ⟨j + 1, m + 1, _, A3, c3, (by rw [hm.out]; rfl : m + 1 = i * 4 + (j + 1)), rfl, rfl, (by have := hn'.out; unfold Hid; omega), hjz, h3, hb3⟩
          case measure => simp only [intOf]; omega
        · have hjz2 : Hid (j = 4) := (by omega : j = 4)
          have hn0 : ¬ (0 : Int) ≤ n := by have := hn'.out; omega
          rw [hjz2.out, List.take_of_length_le (l := toBE 32 x) (by simp [toBE]), hst.out] at ho
          go_wp2_with fail
          go_roundw
          case rel => exact ⟨i + 1, m, A', c', by rw [hm.out, hjz2.out]; exact (Nat.succ_mul i 4).symm, rfl, by go_num, hi8, ho, hb⟩
          case measure => simp only [intOf]; omega
    · have hi88 : Hid (i = 8) := (by omega : i = 8)
      have hi8' : ¬ (i : Int) < 8 := by omega
      rw [hi88.out, List.take_of_length_le (l := V.l) (by simp [S8.l])] at ho
      have hq8 : Hid (q = 32) := by have := hq.out; rw [hi88.out] at this; exact this
      go_wp2_with fail
      go_ret
      obtain rfl : q = 32 := hq8.out
      exact ⟨A', c', rfl, own_mono ho hb0.size, hb0.trans (hb.mono hb0.size)⟩

theorem key_64 (t k : Nat) (w : World) (ht : t < 80) (hc : w.cell? ⟨2, t, none⟩ = some (.int .u64 k)) :
    Calls Tryd.prog 40 #[.int .i64 t] w fun e w' => e = .returned (.int .u64 k) ∧ w = w' := by
  have h0 : (0 : Int) ≤ t := by omega
  have h1 : (t : Int) < 80 := by omega
  go_enter Tryd.func40, Tryd.ntmps40
  go_wp2_with fail
  go_returns
  exact ⟨rfl, rfl⟩
theorem first_64 (w : World) :
    Calls Tryd.prog 37 #[] w fun e w' => e = .returned (.agg (F64.l.map fun x => Value.int .u64 (x : Nat)).toArray) ∧ Below w.heap.size w w' := by
  go_enter Tryd.func37, Tryd.ntmps37
  go_wp2_with fail
  have hra := range_part (F64.l.map fun x => Value.int .u64 (x : Nat)) (o := 0) (heap_alloc_new w (.cells (F64.l.map fun x => Value.int .u64 (x : Nat)).toArray 53)) (by intro j v hj; rw [Nat.zero_add, List.getElem?_toArray]; exact hj)
  have hld := run_loadVar_mid (P := Tryd.prog) _ w.heap.size 0 53 _ _ hra Tryd.underlying53 rfl (by kernel_rfl)
  exact bodyPost_ret (v := .agg (F64.l.map fun x => Value.int .u64 (x : Nat)).toArray) (results_cell Tryd.results37 rfl hld) rfl ⟨rfl, (Below.refl _ _).alloc (Nat.le_refl _) _⟩

theorem index_64 (s : S8) (i x : Nat) (h : s.l[i]? = some x) (w : World) : (Instr.index 53 (.agg #[.int .u64 s.a, .int .u64 s.b, .int .u64 s.c, .int .u64 s.d, .int .u64 s.e, .int .u64 s.f, .int .u64 s.g, .int .u64 s.h]) (.int .i64 i)).run Tryd.prog w = .ok (.int .u64 x) w := by
  obtain ⟨a, b, c, d, e, f, g, hh⟩ := s
  rcases i with _ | _ | _ | _ | _ | _ | _ | _ | i
  all_goals (simp [S8.l] at h)
  all_goals (subst h; kernel_rfl)

theorem told_64 (V : S8) (w : World) (hV : V.ok 64) :
    Calls Tryd.prog 41 #[.agg #[.int .u64 V.a, .int .u64 V.b, .int .u64 V.c, .int .u64 V.d, .int .u64 V.e, .int .u64 V.f, .int .u64 V.g, .int .u64 V.h], .int .i64 64] w fun e w' => ∃ A' c', e = .returned (.slice A' 64 c') ∧ w'.ownsRow w.heap.size 5 1 (.slice A' 64 c') 64 ((told 64 V).map B8) ∧ Below w.heap.size w w' := by
  have hVo := Lib.hid hV
  clear hV
  go_enter Tryd.func41, Tryd.ntmps41
  obtain ⟨wq, hwq⟩ : ∃ W, W = w.alloc (.cells #[.int .u64 V.a, .int .u64 V.b, .int .u64 V.c, .int .u64 V.d, .int .u64 V.e, .int .u64 V.f, .int .u64 V.g, .int .u64 V.h] 53) := ⟨_, rfl⟩
  have hb0 : Below w.heap.size w wq := by rw [hwq]; exact (Below.refl _ _).alloc (Nat.le_refl _) _
  have Hwq := Lib.hid hwq
  clear hwq
  go_wp2_with fail
  rw [← Hwq.out]
  go_loopw [5, 7, 8, 10] (fun x5 _ _ x10 wr5 => ∃ (i q : Nat) (A' : Option Addr) (c' : Nat), Hid (q = i * 8) ∧ x5 = .slice A' q c' ∧ x10 = .int .i64 i ∧ i ≤ 8 ∧ wr5.ownsRow wq.heap.size 5 1 (.slice A' q c') q (((V.l.take i).flatMap (toBE 64)).map B8) ∧ Below wq.heap.size wq wr5) (fun _ _ _ x10 _ => 8 - (intOf x10).toNat)
  case atStart => exact ⟨0, 0, none, 0, rfl, rfl, rfl, by omega, World.ownsRow_nil _ _ _ _, Below.refl _ _⟩
  case round =>
    obtain ⟨i, q, A', c', hq, rfl, rfl, hi, ho, hb⟩ := hrel
    by_cases hi8 : i < 8
    · have hi8' : (i : Int) < 8 := by omega
      have hi0 : (0 : Int) ≤ i := by omega
      obtain ⟨x, hx⟩ : ∃ x, Hid (V.l[i]? = some x) := ⟨V.l[i]'(by simpa [S8.l] using hi8), List.getElem?_eq_getElem _⟩
      have hx64 : x < 2 ^ 64 := by
        have hy := List.mem_of_getElem? hx.out
        obtain ⟨o1, o2, o3, o4, o5, o6, o7, o8⟩ := hVo.out
        simp [S8.l] at hy
        rcases hy with h | h | h | h | h | h | h | h <;> (rw [h]; assumption)
      have hst : Hid ((V.l.take i).flatMap (toBE 64) ++ toBE 64 x = (V.l.take (i + 1)).flatMap (toBE 64)) := by
        unfold Hid
        rw [List.take_add_one, hx.out]
        simp
      have hix := index_64 V i x hx.out
      have e8 : IntKind.i64.wrap ((i : Int) + 1) = ((i + 1 : Nat) : Int) := by rw [IntWalk.i64_in _ (by omega)]; omega
      go_wp2_with fail
      go_loopw [5, 8] (fun x5 x8 wr6 => ∃ (j m : Nat) (n : Int) (A' : Option Addr) (c' : Nat), Hid (m = i * 8 + j) ∧ x5 = .slice A' m c' ∧ x8 = .int .i64 n ∧ Hid (n = 56 - 8 * (j : Int)) ∧ j ≤ 8 ∧ wr6.ownsRow wq.heap.size 5 1 (.slice A' m c') m (((V.l.take i).flatMap (toBE 64) ++ (toBE 64 x).take j).map B8) ∧ Below wq.heap.size wq wr6) (fun _ x8 _ => (intOf x8 + 8).toNat)
      case atStart => exact ⟨0, q, 56, A', c', hq, rfl, rfl, by unfold Hid; omega, by omega, by simpa using ho, hb⟩
      case round =>
        obtain ⟨j, m, n, A', c', hm, rfl, rfl, hn', hj, ho, hb⟩ := hrel
        have hmb : m ≤ 1000 := by rw [hm.out]; omega
        by_cases hjz : j < 8
        · obtain ⟨sh, rfl⟩ : ∃ sh : Nat, n = sh := ⟨n.toNat, by have := hn'.out; omega⟩
          have hsh : Hid (sh = 56 - 8 * j) := by have := hn'.out; exact (by omega : sh = 56 - 8 * j)
          have hs0 : (0 : Int) ≤ (sh : Int) := by omega
          have hs1 : (sh : Int) ≤ 64 := by have := hn'.out; omega
          obtain ⟨y, hy⟩ : ∃ y, Hid (x / 2 ^ sh = y) := ⟨_, Lib.hid rfl⟩
          obtain ⟨z, hz⟩ : ∃ z, Hid (z = y % 256) := ⟨_, Lib.hid rfl⟩
          have f0 : (x : Int) / 2 ^ sh = (y : Int) := by rw [← hy.out, Int.natCast_ediv, Int.natCast_pow]; rfl
          have d4 : IntKind.u8.wrap (y : Int) = (z : Int) := by rw [IntKind.wrap_u8', hz.out]; omega
          have d5 : (y : Int) % 256 = (z : Int) := by rw [hz.out]; omega
          have hby : Hid (((UInt8.ofNat (x / 2 ^ sh)).toNat : Int) = (z : Int)) := by
            unfold Hid
            rw [hy.out, UInt8.toNat_ofNat', hz.out]
          have hbe : Hid ((toBE 64 x).take j ++ [UInt8.ofNat (x / 2 ^ sh)] = (toBE 64 x).take (j + 1)) := by
            unfold Hid
            rw [List.take_add_one]
            congr 1
            rw [toBE, List.getElem?_map, List.getElem?_range (by omega)]
            simp only [Option.map_some, Option.toList_some]
            rw [hsh.out]
          go_wp2_with (first
                | (at_builtin
                   refine wpList_app rfl (.tmp 19) (.tmp 24) _ rfl wq.heap.size 5 1 1 _ Tryd.underlying22 info8 rfl Nat.zero_lt_one (.slice A' m c') m _ rfl (ho.alloc _) (wr.heap.size + 1) (some ⟨wr.heap.size, 0, none⟩) 1 1 ([(UInt8.ofNat (x / 2 ^ sh))].map B8) rfl (one_cell8 wr (UInt8.ofNat (x / 2 ^ sh)) (z : Int) hby.out) (B8_one _) ?_ ?_ ?_ ?_
                   · simp only [maxLen]; omega
                   · omega
                   · simp; exact Nat.le_succ_of_le hb.size
                   intro A3 c3 w3 h3 hg3 _
                   have hb3 : Below wq.heap.size wq w3 := (hb.alloc hb.size _).grown hg3 (by simp; exact Nat.le_succ_of_le hb.size) (fun k hk => (ho.lt k hk).1)
                   have H3 := Lib.hid h3
                   clear h3 hg3))
          have h3 := H3.out
          rw [← List.map_append, List.append_assoc, hbe.out] at h3
          go_roundw
          case rel => exact ⟨j + 1, m + 1, _, A3, c3, (by rw [hm.out]; rfl : m + 1 = i * 8 + (j + 1)), rfl, rfl, (by have := hn'.out; unfold Hid; omega), hjz, h3, hb3⟩
          case measure => simp only [intOf]; omega
        · have hjz2 : Hid (j = 8) := (by omega : j = 8)
          have hn0 : ¬ (0 : Int) ≤ n := by have := hn'.out; omega
          rw [hjz2.out, List.take_of_length_le (l := toBE 64 x) (by simp [toBE]), hst.out] at ho
          go_wp2_with fail
          go_roundw
          case rel => exact ⟨i + 1, m, A', c', by rw [hm.out, hjz2.out]; exact (Nat.succ_mul i 8).symm, rfl, by go_num, hi8, ho, hb⟩
          case measure => simp only [intOf]; omega
    · have hi88 : Hid (i = 8) := (by omega : i = 8)
      have hi8' : ¬ (i : Int) < 8 := by omega
      rw [hi88.out, List.take_of_length_le (l := V.l) (by simp [S8.l])] at ho
      have hq8 : Hid (q = 64) := by have := hq.out; rw [hi88.out] at this; exact this
      go_wp2_with fail
      go_ret
      obtain rfl : q = 64 := hq8.out
      exact ⟨A', c', rfl, own_mono ho hb0.size, hb0.trans (hb.mono hb0.size)⟩
end Go.Proofs.YtclecmpmohoamaaDoor
