/- The program's padded. (Printed by gen_shaj.py.) -/
import Derived.Test.YtclecmpmohoamaaDoorShaF
import Derived.Lib.AppendStr
namespace Go.Proofs.YtclecmpmohoamaaDoor
open Go.RowKit
set_option linter.unusedVariables false
set_option linter.unusedSimpArgs false
def nought (m : Nat) : ByteArray := ⟨(List.replicate m (0 : UInt8)).toArray⟩
theorem nought_size (m : Nat) : (nought m).size = m := by simp [nought, ByteArray.size]
theorem nought_cells (m : Nat) : Lib.strCells (nought m) = List.replicate m (Value.int .u8 0) := by simp [Lib.strCells, nought]
section
variable {P : Program} {w : World}
theorem run_app_zeros (t tn u ty e : TypeId) (i : TypeInfo) (ht : P.underlying t = some (.slice e)) (htn : P.underlying tn = some (.int .i64)) (hu : P.underlying u = some .string) (hi : P.info? e = some i) (hz : i.zero = some (.int .u8 0))
    (hsize : i.size = 1) (hby : i.bytes = 1) (A : Option Addr) (n c m : Nat) (hnm : n + m ≤ 140737488355328) (hc : n ≤ c) :
    (Builtin.append_ #[t, tn] ty #[.slice A n c, .int .i64 m]).run P w = (Builtin.append_ #[t, u] ty #[.slice A n c, .string (nought m)]).run P w := by
  have hw : IntKind.i64.wrap (m : Int) = m := IntWalk.i64_in _ (by omega)
  have hneg : ¬ ((m : Int) < 0) := by omega
  have h48i : ¬ (281474976710656 < (m : Int)) := by omega
  have hs := nought_size m
  have hf : ∀ w' : World, (Builtin.firstCells 1 m (.string (nought m))).run P w' = .ok (List.replicate m (Value.int .u8 0)).toArray w' := fun w' => by
    have := Lib.run_firstCells_string (P := P) w' 1 (nought m)
    rw [hs, nought_cells] at this
    exact this
  have hzc : Builtin.zeroCells (Value.int .u8 0).cells m = (List.replicate m (Value.int .u8 0)).toArray := by
    apply Array.ext
    · simp [Builtin.zeroCells, Value.cells]
    · intro j h1 h2
      simp [Builtin.zeroCells, Value.cells, Nat.mod_one]
  by_cases hroom : n + m ≤ c
  · by_cases hm : m = 0
    · subst hm
      have hw0 : IntKind.i64.wrap 0 = 0 := rfl
      simp [Builtin.append_, run_underlying ht, run_underlying htn, run_underlying hu, sizeOf, typeInfo, hi, hsize, Builtin.lenOf, hs, hroom, hc, hf, hw, hw0, asInt, asIntOf, zeroValue, hz, hby]
    · simp [Builtin.append_, run_underlying ht, run_underlying htn, run_underlying hu, sizeOf, typeInfo, hi, hsize, Builtin.lenOf, hs, hroom, hf, hw, hneg, h48i, asInt, asIntOf, zeroValue, hz, hby, hm, hzc]
  · have hm : m ≠ 0 := by omega
    have hfit := growslice_fits (old := c) (need := n + m) (bytes := 1) (by omega) (by omega)
    have h48' : ¬ (281474976710656 < Builtin.nextslicecap (n + m) c) := by omega
    have h63' : ¬ (9223372036854775807 < ((n : Int) + (m : Int))) := by omega
    simp [Builtin.append_, run_underlying ht, run_underlying htn, run_underlying hu, sizeOf, typeInfo, hi, hsize, Builtin.lenOf, hs, hroom, hf, hw, hneg, h48i, asInt, asIntOf, zeroValue, hz, hby, hm, hzc, h48', h63']
theorem wpList_app_zeros {ops : Array Oper} {rest : List Oper} {o : Oper} {a : Act} {Q : Exit → Act → World → Prop} (hgd : o.guard = none) (s x : Operand) (t tn : TypeId)
    (ho : o.op = .call { callee := .builtin .append, args := #[s, x], argTypes := #[t, tn] })
    (base : Nat) (e : TypeId) (ht : P.underlying t = some (.slice e)) (htn : P.underlying tn = some (.int .i64)) (u : TypeId) (hu : P.underlying u = some .string) (hi8 : (P.info? e).map (fun i => (i.zero, i.size, i.bytes)) = some (some (.int .u8 0), 1, 1))
    (A : Option Addr) (n c : Nat) (xs : List Value) (hs : a.eval s = .slice A n c) (hown : w.ownsRow base e 1 (.slice A n c) n xs)
    (m : Nat) (hx : a.eval x = .int .i64 m) (h63 : n + m ≤ maxLen) (hbytes : n + m ≤ 140737488355328) (hbase : base ≤ w.heap.size)
    (h : ∀ A' c' w', w'.ownsRow base e 1 (.slice A' (n + m) c') (n + m) (xs ++ List.replicate m (Value.int .u8 0)) → w.grownBy w' (Value.slice A n c).ownBlock →
      wpList P ops Q rest (a.put o.dst (.slice A' (n + m) c')) w') : wpList P ops Q (o :: rest) a w := by
  obtain ⟨i, hi, hz, hsize, hby⟩ := info_parts hi8
  refine wpList_plain hgd fun K hK => ?_
  obtain ⟨v', w', hr, h2, h3, _⟩ := Lib.run_append_own_string (P := P) w base t u o.type e i ht hu hi hz hsize hby _ n xs hown (nought m) (by rw [nought_size]; exact h63) (by rw [nought_size]; exact hbytes) hbase
  rw [← run_app_zeros t tn u o.type e i ht htn hu hi hz hsize hby A n c m hbytes (own_cap' hown)] at hr
  rw [nought_size, nought_cells] at h2
  obtain ⟨A', c', rfl⟩ : ∃ A' c', v' = .slice A' (n + m) c' := by
    rcases h2.2 with ⟨rfl, h0⟩ | ⟨g, cap, cur, rfl, _⟩
    · exact ⟨_, _, by rw [h0]⟩
    · exact ⟨_, _, rfl⟩
  unfold Oper.wp execOp
  simp only [ho, resolve, invoke, builtin, Sem.run_bind, Sem.run_pure, Result.andThen_ok, List.map_toArray, List.map_cons, List.map_nil, hs, hx, hr]
  exact hK _ _ (h A' c' w' h2 h3)
end

set_option maxHeartbeats 4000000 in
theorem padded_64 (A : Option Addr) (n c all : Nat) (l : List UInt8) (w : World) (hr : Rd w w.heap.size 1 A n (l.map B8)) (hn : n ≤ 1000000) (ha : all ≤ 100000000) :
    Calls Tryd.prog 38 #[.slice A n c, .int .i64 all, .int .i64 64] w fun e w' => ∃ A' k c', e = .returned (.slice A' k c') ∧ Hid (k = (padd 64 l all).length) ∧ w'.ownsRow w.heap.size 5 1 (.slice A' k c') k ((padd 64 l all).map B8) ∧ Below w.heap.size w w' := by
  obtain rfl : l.length = n := by simpa using hr.len
  have hzl := zer_lt_32 l.length
  have Hr := Lib.hid hr
  have hq0 : (w.alloc (.cells #[] 5)).ownsRow w.heap.size 5 1 (.slice (some ⟨w.heap.size, 0, none⟩) 0 0) 0 [] := World.ownsRow_lit w #[] 0 (Nat.le_refl _) (by simp [maxLen]) rfl
  clear hr
  go_enter Tryd.func38, Tryd.ntmps38
  go_wp2_with (first
    | (at_builtin
       refine wpList_app rfl (.tmp 10) (.tmp 11) _ rfl w.heap.size 5 1 1 _ Tryd.underlying22 info8 rfl (by omega) (.slice (some ⟨w.heap.size, 0, none⟩) 0 0) 0 [] rfl hq0 w.heap.size A l.length c _ rfl (Hr.out.alloc (Nat.le_refl _) _) (B8_one _) (by simp only [maxLen]; omega) (by omega) (by simp) ?_
       intro A1p c1p w1 h1 hg1 _
       simp only [Nat.zero_add, List.nil_append] at h1
       have hb1 : Below w.heap.size w w1 := ((Below.refl _ _).alloc (Nat.le_refl _) _).grown hg1 (by simp) (fun k hk => by simp [Value.ownBlock] at hk; omega))
    | (at_builtin
       refine wpList_app rfl (.tmp 12) (.tmp 13) _ rfl w.heap.size 5 1 1 _ Tryd.underlying22 info8 rfl (by omega) _ _ _ rfl (h1.alloc _) (w1.heap.size + 1) (some ⟨w1.heap.size, 0, none⟩) 1 1 _ rfl (one_cell8 w1 128 128 rfl) (B8_one _) (by simp only [maxLen]; omega) (by omega) (by simp; exact Nat.le_succ_of_le hb1.size) ?_
       intro A2p c2p w2 h2 hg2 _
       have hb2 : Below w.heap.size w w2 := (hb1.alloc hb1.size _).grown hg2 (by simp; exact Nat.le_succ_of_le hb1.size) (fun k hk => (h1.lt k hk).1)))
  have h2' : w2.ownsRow w.heap.size 5 1 (.slice A2p (l.length + 1) c2p) (l.length + 1) ((p1 l 0).map B8) := by
    rw [← List.map_append] at h2
    exact h2
  clear h2 h1 hq0 hg1 hg2 hb1
  go_loopw [7] (fun v6 wr => ∃ (j m : Nat) (A' : Option Addr) (c' : Nat), Hid (m = l.length + 1 + j) ∧ v6 = .slice A' m c' ∧ j ≤ zer 64 l.length ∧ wr.ownsRow w.heap.size 5 1 (.slice A' m c') m ((p1 l j).map B8) ∧ Below w.heap.size w wr) (fun v6 _ => l.length + 1 + 64 - vlen v6)
  case atStart => exact ⟨0, l.length + 1, A2p, c2p, rfl, rfl, Nat.zero_le _, h2', hb2⟩
  case round =>
    obtain ⟨j, m, A', c', hm, rfl, hj, ho, hb⟩ := hrel
    clear h2' hb2
    have hmb : m ≤ 1000200 := by rw [hm.out]; omega
    obtain ⟨r, hr0⟩ : ∃ r, Hid (r = m % 64) := ⟨_, Lib.hid rfl⟩
    have e1 : (m : Int) % 64 = (r : Int) := by rw [hr0.out]; omega
    have e2 : (m : Int).tmod 64 = (r : Int) := by rw [← e1, Int.tmod_eq_emod_of_nonneg (by omega)]
    by_cases hjz : j < zer 64 l.length
    · have hrn : ¬ (r : Int) = 56 := by
        have := zer_mid_32 l.length j hjz
        rw [hr0.out, hm.out]; omega
      go_wp2_with (first
                | (at_builtin
                   refine wpList_app rfl (.tmp 24) (.tmp 25) _ rfl w.heap.size 5 1 1 _ Tryd.underlying22 info8 rfl Nat.zero_lt_one (.slice A' m c') m _ rfl (ho.alloc _) (wr.heap.size + 1) (some ⟨wr.heap.size, 0, none⟩) 1 1 ([0].map B8) rfl (one_cell8 wr 0 0 rfl) (B8_one _) ?_ ?_ ?_ ?_
                   · simp only [maxLen]; omega
                   · omega
                   · simp; exact Nat.le_succ_of_le hb.size
                   intro A3 c3 w3 h3 hg3 _
                   have hb3 : Below w.heap.size w w3 := (hb.alloc hb.size _).grown hg3 (by simp; exact Nat.le_succ_of_le hb.size) (fun k hk => (ho.lt k hk).1)
                   have H3 := Lib.hid h3
                   clear h3 hg3))
      have e3 : (p1 l j).map B8 ++ ([0] : List UInt8).map B8 = (p1 l (j + 1)).map B8 := by
        rw [← List.map_append, p1, List.append_assoc, List.cons_append, ← List.replicate_succ']; rfl
      have h3 := H3.out
      rw [e3] at h3
      go_roundw
      case rel => exact ⟨j + 1, m + 1, A3, c3, (by rw [hm.out]; rfl : m + 1 = l.length + 1 + (j + 1)), rfl, hjz, h3, hb3⟩
      case measure => have := hm.out; simp only [vlen]; omega
    · have hjz' : Hid (j = zer 64 l.length) := (by omega : j = zer 64 l.length)
      have hr00 : (r : Int) = 56 := by
        have := zer_end_32 l.length
        rw [hr0.out, hm.out, hjz'.out]; omega
      rw [hjz'.out] at ho
      obtain ⟨m2, hm2⟩ : ∃ m2, Hid (m2 = m + (8 - 8)) := ⟨_, Lib.hid rfl⟩
      obtain ⟨xx, hxx⟩ : ∃ x, Hid (x = all * 8) := ⟨_, Lib.hid rfl⟩
      have hxb : xx ≤ 800000000 := by rw [hxx.out]; omega
      have c1' : IntKind.u64.wrap (all : Int) = (all : Int) := by rw [wrapU, Nat.mod_eq_of_lt (by omega)]
      have c2' : IntKind.u64.wrap ((all : Int) * 8) = (xx : Int) := by rw [show (all : Int) * 8 = ((all * 8 : Nat) : Int) by omega, wrapU, Nat.mod_eq_of_lt (by omega), hxx.out]
      go_wp2_with (first
        | (at_builtin
           refine wpList_app_zeros rfl (.tmp 27) (.tmp 30) _ _ rfl w.heap.size 5 Tryd.underlying22 Tryd.underlying3 9 Tryd.underlying9 info8 A' m c' _ rfl ho (8 - 8) rfl (by simp only [maxLen]; omega) (by omega) hb.size ?_
           intro A3 c3 w3 h3 hg3
           have hz8 : List.replicate (8 - 8) (Value.int .u8 0) = (List.replicate (8 - 8) (0 : UInt8)).map B8 := by rw [List.map_replicate]; rfl
           rw [hz8, ← List.map_append] at h3
           rw [← hm2.out] at h3
           rw [← hm2.out]
           have hb3 := hb.grown hg3 hb.size (fun k hk => (ho.lt k hk).1)
           have H3 := Lib.hid h3
           clear h3 hg3))
      go_loopw [7, 9, 35] (fun v6 _ v8 wr3 => ∃ (k m : Nat) (A' : Option Addr) (c' : Nat), Hid (m = m2 + k) ∧ v6 = .slice A' m c' ∧ v8 = .int .i64 k ∧ k ≤ 8 ∧ wr3.ownsRow w.heap.size 5 1 (.slice A' m c') m ((p3 l (zer 64 l.length) (8 - 8) xx k).map B8) ∧ Below w.heap.size w wr3) (fun _ _ v8 _ => 8 - (intOf v8).toNat)
      case atStart => exact ⟨0, m2, A3, c3, rfl, rfl, rfl, by omega, by rw [show p3 l (zer 64 l.length) (8 - 8) xx 0 = p2 l (zer 64 l.length) (8 - 8) from List.append_nil _]; exact H3.out, hb3⟩
      case round =>
        obtain ⟨k, m, A', c', hm3, rfl, rfl, hk8, ho, hb⟩ := hrel
        have hmb : m ≤ 1000400 := by rw [hm3.out, hm2.out]; omega
        by_cases hk : k < 8
        · have hk' : (k : Int) < 8 := by omega
          obtain ⟨k8, hk8'⟩ : ∃ x, Hid (x = 8 * k) := ⟨_, Lib.hid rfl⟩
          obtain ⟨sh, hsh⟩ : ∃ x, Hid (x = 56 - k8) := ⟨_, Lib.hid rfl⟩
          have d0 : IntKind.i64.wrap (8 * (k : Int)) = (k8 : Int) := by rw [hk8'.out, IntWalk.i64_in _ (by omega)]; omega
          have d1 : IntKind.i64.wrap (56 - (k8 : Int)) = (sh : Int) := by rw [hsh.out, IntWalk.i64_in _ (by have := hk8'.out; omega)]; have := hk8'.out; omega
          have hs0 : (0 : Int) ≤ (sh : Int) := by omega
          have hs1 : (sh : Int) ≤ 64 := by have := hsh.out; omega
          obtain ⟨y, hy⟩ : ∃ y, Hid (xx / 2 ^ sh = y) := ⟨_, Lib.hid rfl⟩
          obtain ⟨z, hz⟩ : ∃ z, Hid (z = y % 256) := ⟨_, Lib.hid rfl⟩
          have f0 : (xx : Int) / 2 ^ sh = (y : Int) := by rw [← hy.out, Int.natCast_ediv, Int.natCast_pow]; rfl
          have d4 : IntKind.u8.wrap (y : Int) = (z : Int) := by rw [IntKind.wrap_u8', hz.out]; omega
          have d5 : (y : Int) % 256 = (z : Int) := by rw [hz.out]; omega
          have d6 : IntKind.i64.wrap ((k : Int) + 1) = ((k + 1 : Nat) : Int) := by rw [IntWalk.i64_in _ (by omega)]; omega
          have hby : Hid (((UInt8.ofNat (xx / 2 ^ sh)).toNat : Int) = (z : Int)) := by
            unfold Hid
            rw [hy.out, UInt8.toNat_ofNat', hz.out]
          have hbe : Hid ((toBE 64 xx).take k ++ [UInt8.ofNat (xx / 2 ^ sh)] = (toBE 64 xx).take (k + 1)) := by
            unfold Hid
            rw [List.take_add_one]
            congr 1
            rw [toBE, List.getElem?_map, List.getElem?_range (by omega)]
            simp only [Option.map_some, Option.toList_some]
            rw [hsh.out, hk8'.out]
          go_wp2_with (first
                | (at_builtin
                   refine wpList_app rfl (.tmp 38) (.tmp 45) _ rfl w.heap.size 5 1 1 _ Tryd.underlying22 info8 rfl Nat.zero_lt_one (.slice A' m c') m _ rfl (ho.alloc _) (wr.heap.size + 1) (some ⟨wr.heap.size, 0, none⟩) 1 1 ([(UInt8.ofNat (xx / 2 ^ sh))].map B8) rfl (one_cell8 wr (UInt8.ofNat (xx / 2 ^ sh)) (z : Int) hby.out) (B8_one _) ?_ ?_ ?_ ?_
                   · simp only [maxLen]; omega
                   · omega
                   · simp; exact Nat.le_succ_of_le hb.size
                   intro A3 c3 w3 h3 hg3 _
                   have hb3 : Below w.heap.size w w3 := (hb.alloc hb.size _).grown hg3 (by simp; exact Nat.le_succ_of_le hb.size) (fun k hk => (ho.lt k hk).1)
                   have H3 := Lib.hid h3
                   clear h3 hg3))
          have h3 := H3.out
          rw [← List.map_append, p3, List.append_assoc _ ((toBE 64 xx).take k), hbe.out] at h3
          go_roundw
          case rel => exact ⟨k + 1, m + 1, A3, c3, (by rw [hm3.out]; rfl : m + 1 = m2 + (k + 1)), rfl, by go_num, by omega, h3, hb3⟩
          case measure => simp only [intOf]; omega
        · have hk8' : Hid (k = 8) := (by omega : k = 8)
          have hk' : ¬ (k : Int) < 8 := by omega
          have hpd : Hid (p3 l (zer 64 l.length) (8 - 8) xx 8 = padd 64 l all) := by
            unfold Hid p3 p2 p1 padd tail
            rw [hxx.out, Nat.mod_eq_of_lt (show all * 8 < 2 ^ 64 by omega), List.take_of_length_le (by simp [toBE])]
            simp
          rw [hk8'.out, hpd.out] at ho
          go_wp2_with fail
          go_ret
          refine ⟨A', m, c', rfl, ?_, ho, hb⟩
          have h1 := ho.1
          rw [List.length_map] at h1
          exact (by omega : m = (padd 64 l all).length)

set_option maxHeartbeats 4000000 in
theorem padded_128 (A : Option Addr) (n c all : Nat) (l : List UInt8) (w : World) (hr : Rd w w.heap.size 1 A n (l.map B8)) (hn : n ≤ 1000000) (ha : all ≤ 100000000) :
    Calls Tryd.prog 38 #[.slice A n c, .int .i64 all, .int .i64 128] w fun e w' => ∃ A' k c', e = .returned (.slice A' k c') ∧ Hid (k = (padd 128 l all).length) ∧ w'.ownsRow w.heap.size 5 1 (.slice A' k c') k ((padd 128 l all).map B8) ∧ Below w.heap.size w w' := by
  obtain rfl : l.length = n := by simpa using hr.len
  have hzl := zer_lt_64 l.length
  have Hr := Lib.hid hr
  have hq0 : (w.alloc (.cells #[] 5)).ownsRow w.heap.size 5 1 (.slice (some ⟨w.heap.size, 0, none⟩) 0 0) 0 [] := World.ownsRow_lit w #[] 0 (Nat.le_refl _) (by simp [maxLen]) rfl
  clear hr
  go_enter Tryd.func38, Tryd.ntmps38
  go_wp2_with (first
    | (at_builtin
       refine wpList_app rfl (.tmp 10) (.tmp 11) _ rfl w.heap.size 5 1 1 _ Tryd.underlying22 info8 rfl (by omega) (.slice (some ⟨w.heap.size, 0, none⟩) 0 0) 0 [] rfl hq0 w.heap.size A l.length c _ rfl (Hr.out.alloc (Nat.le_refl _) _) (B8_one _) (by simp only [maxLen]; omega) (by omega) (by simp) ?_
       intro A1p c1p w1 h1 hg1 _
       simp only [Nat.zero_add, List.nil_append] at h1
       have hb1 : Below w.heap.size w w1 := ((Below.refl _ _).alloc (Nat.le_refl _) _).grown hg1 (by simp) (fun k hk => by simp [Value.ownBlock] at hk; omega))
    | (at_builtin
       refine wpList_app rfl (.tmp 12) (.tmp 13) _ rfl w.heap.size 5 1 1 _ Tryd.underlying22 info8 rfl (by omega) _ _ _ rfl (h1.alloc _) (w1.heap.size + 1) (some ⟨w1.heap.size, 0, none⟩) 1 1 _ rfl (one_cell8 w1 128 128 rfl) (B8_one _) (by simp only [maxLen]; omega) (by omega) (by simp; exact Nat.le_succ_of_le hb1.size) ?_
       intro A2p c2p w2 h2 hg2 _
       have hb2 : Below w.heap.size w w2 := (hb1.alloc hb1.size _).grown hg2 (by simp; exact Nat.le_succ_of_le hb1.size) (fun k hk => (h1.lt k hk).1)))
  have h2' : w2.ownsRow w.heap.size 5 1 (.slice A2p (l.length + 1) c2p) (l.length + 1) ((p1 l 0).map B8) := by
    rw [← List.map_append] at h2
    exact h2
  clear h2 h1 hq0 hg1 hg2 hb1
  go_loopw [7] (fun v6 wr => ∃ (j m : Nat) (A' : Option Addr) (c' : Nat), Hid (m = l.length + 1 + j) ∧ v6 = .slice A' m c' ∧ j ≤ zer 128 l.length ∧ wr.ownsRow w.heap.size 5 1 (.slice A' m c') m ((p1 l j).map B8) ∧ Below w.heap.size w wr) (fun v6 _ => l.length + 1 + 128 - vlen v6)
  case atStart => exact ⟨0, l.length + 1, A2p, c2p, rfl, rfl, Nat.zero_le _, h2', hb2⟩
  case round =>
    obtain ⟨j, m, A', c', hm, rfl, hj, ho, hb⟩ := hrel
    clear h2' hb2
    have hmb : m ≤ 1000200 := by rw [hm.out]; omega
    obtain ⟨r, hr0⟩ : ∃ r, Hid (r = m % 128) := ⟨_, Lib.hid rfl⟩
    have e1 : (m : Int) % 128 = (r : Int) := by rw [hr0.out]; omega
    have e2 : (m : Int).tmod 128 = (r : Int) := by rw [← e1, Int.tmod_eq_emod_of_nonneg (by omega)]
    by_cases hjz : j < zer 128 l.length
    · have hrn : ¬ (r : Int) = 112 := by
        have := zer_mid_64 l.length j hjz
        rw [hr0.out, hm.out]; omega
      go_wp2_with (first
                | (at_builtin
                   refine wpList_app rfl (.tmp 24) (.tmp 25) _ rfl w.heap.size 5 1 1 _ Tryd.underlying22 info8 rfl Nat.zero_lt_one (.slice A' m c') m _ rfl (ho.alloc _) (wr.heap.size + 1) (some ⟨wr.heap.size, 0, none⟩) 1 1 ([0].map B8) rfl (one_cell8 wr 0 0 rfl) (B8_one _) ?_ ?_ ?_ ?_
                   · simp only [maxLen]; omega
                   · omega
                   · simp; exact Nat.le_succ_of_le hb.size
                   intro A3 c3 w3 h3 hg3 _
                   have hb3 : Below w.heap.size w w3 := (hb.alloc hb.size _).grown hg3 (by simp; exact Nat.le_succ_of_le hb.size) (fun k hk => (ho.lt k hk).1)
                   have H3 := Lib.hid h3
                   clear h3 hg3))
      have e3 : (p1 l j).map B8 ++ ([0] : List UInt8).map B8 = (p1 l (j + 1)).map B8 := by
        rw [← List.map_append, p1, List.append_assoc, List.cons_append, ← List.replicate_succ']; rfl
      have h3 := H3.out
      rw [e3] at h3
      go_roundw
      case rel => exact ⟨j + 1, m + 1, A3, c3, (by rw [hm.out]; rfl : m + 1 = l.length + 1 + (j + 1)), rfl, hjz, h3, hb3⟩
      case measure => have := hm.out; simp only [vlen]; omega
    · have hjz' : Hid (j = zer 128 l.length) := (by omega : j = zer 128 l.length)
      have hr00 : (r : Int) = 112 := by
        have := zer_end_64 l.length
        rw [hr0.out, hm.out, hjz'.out]; omega
      rw [hjz'.out] at ho
      obtain ⟨m2, hm2⟩ : ∃ m2, Hid (m2 = m + (16 - 8)) := ⟨_, Lib.hid rfl⟩
      obtain ⟨xx, hxx⟩ : ∃ x, Hid (x = all * 8) := ⟨_, Lib.hid rfl⟩
      have hxb : xx ≤ 800000000 := by rw [hxx.out]; omega
      have c1' : IntKind.u64.wrap (all : Int) = (all : Int) := by rw [wrapU, Nat.mod_eq_of_lt (by omega)]
      have c2' : IntKind.u64.wrap ((all : Int) * 8) = (xx : Int) := by rw [show (all : Int) * 8 = ((all * 8 : Nat) : Int) by omega, wrapU, Nat.mod_eq_of_lt (by omega), hxx.out]
      go_wp2_with (first
        | (at_builtin
           refine wpList_app_zeros rfl (.tmp 27) (.tmp 30) _ _ rfl w.heap.size 5 Tryd.underlying22 Tryd.underlying3 9 Tryd.underlying9 info8 A' m c' _ rfl ho (16 - 8) rfl (by simp only [maxLen]; omega) (by omega) hb.size ?_
           intro A3 c3 w3 h3 hg3
           have hz8 : List.replicate (16 - 8) (Value.int .u8 0) = (List.replicate (16 - 8) (0 : UInt8)).map B8 := by rw [List.map_replicate]; rfl
           rw [hz8, ← List.map_append] at h3
           rw [← hm2.out] at h3
           rw [← hm2.out]
           have hb3 := hb.grown hg3 hb.size (fun k hk => (ho.lt k hk).1)
           have H3 := Lib.hid h3
           clear h3 hg3))
      go_loopw [7, 9, 35] (fun v6 _ v8 wr3 => ∃ (k m : Nat) (A' : Option Addr) (c' : Nat), Hid (m = m2 + k) ∧ v6 = .slice A' m c' ∧ v8 = .int .i64 k ∧ k ≤ 8 ∧ wr3.ownsRow w.heap.size 5 1 (.slice A' m c') m ((p3 l (zer 128 l.length) (16 - 8) xx k).map B8) ∧ Below w.heap.size w wr3) (fun _ _ v8 _ => 8 - (intOf v8).toNat)
      case atStart => exact ⟨0, m2, A3, c3, rfl, rfl, rfl, by omega, by rw [show p3 l (zer 128 l.length) (16 - 8) xx 0 = p2 l (zer 128 l.length) (16 - 8) from List.append_nil _]; exact H3.out, hb3⟩
      case round =>
        obtain ⟨k, m, A', c', hm3, rfl, rfl, hk8, ho, hb⟩ := hrel
        have hmb : m ≤ 1000400 := by rw [hm3.out, hm2.out]; omega
        by_cases hk : k < 8
        · have hk' : (k : Int) < 8 := by omega
          obtain ⟨k8, hk8'⟩ : ∃ x, Hid (x = 8 * k) := ⟨_, Lib.hid rfl⟩
          obtain ⟨sh, hsh⟩ : ∃ x, Hid (x = 56 - k8) := ⟨_, Lib.hid rfl⟩
          have d0 : IntKind.i64.wrap (8 * (k : Int)) = (k8 : Int) := by rw [hk8'.out, IntWalk.i64_in _ (by omega)]; omega
          have d1 : IntKind.i64.wrap (56 - (k8 : Int)) = (sh : Int) := by rw [hsh.out, IntWalk.i64_in _ (by have := hk8'.out; omega)]; have := hk8'.out; omega
          have hs0 : (0 : Int) ≤ (sh : Int) := by omega
          have hs1 : (sh : Int) ≤ 64 := by have := hsh.out; omega
          obtain ⟨y, hy⟩ : ∃ y, Hid (xx / 2 ^ sh = y) := ⟨_, Lib.hid rfl⟩
          obtain ⟨z, hz⟩ : ∃ z, Hid (z = y % 256) := ⟨_, Lib.hid rfl⟩
          have f0 : (xx : Int) / 2 ^ sh = (y : Int) := by rw [← hy.out, Int.natCast_ediv, Int.natCast_pow]; rfl
          have d4 : IntKind.u8.wrap (y : Int) = (z : Int) := by rw [IntKind.wrap_u8', hz.out]; omega
          have d5 : (y : Int) % 256 = (z : Int) := by rw [hz.out]; omega
          have d6 : IntKind.i64.wrap ((k : Int) + 1) = ((k + 1 : Nat) : Int) := by rw [IntWalk.i64_in _ (by omega)]; omega
          have hby : Hid (((UInt8.ofNat (xx / 2 ^ sh)).toNat : Int) = (z : Int)) := by
            unfold Hid
            rw [hy.out, UInt8.toNat_ofNat', hz.out]
          have hbe : Hid ((toBE 64 xx).take k ++ [UInt8.ofNat (xx / 2 ^ sh)] = (toBE 64 xx).take (k + 1)) := by
            unfold Hid
            rw [List.take_add_one]
            congr 1
            rw [toBE, List.getElem?_map, List.getElem?_range (by omega)]
            simp only [Option.map_some, Option.toList_some]
            rw [hsh.out, hk8'.out]
          go_wp2_with (first
                | (at_builtin
                   refine wpList_app rfl (.tmp 38) (.tmp 45) _ rfl w.heap.size 5 1 1 _ Tryd.underlying22 info8 rfl Nat.zero_lt_one (.slice A' m c') m _ rfl (ho.alloc _) (wr.heap.size + 1) (some ⟨wr.heap.size, 0, none⟩) 1 1 ([(UInt8.ofNat (xx / 2 ^ sh))].map B8) rfl (one_cell8 wr (UInt8.ofNat (xx / 2 ^ sh)) (z : Int) hby.out) (B8_one _) ?_ ?_ ?_ ?_
                   · simp only [maxLen]; omega
                   · omega
                   · simp; exact Nat.le_succ_of_le hb.size
                   intro A3 c3 w3 h3 hg3 _
                   have hb3 : Below w.heap.size w w3 := (hb.alloc hb.size _).grown hg3 (by simp; exact Nat.le_succ_of_le hb.size) (fun k hk => (ho.lt k hk).1)
                   have H3 := Lib.hid h3
                   clear h3 hg3))
          have h3 := H3.out
          rw [← List.map_append, p3, List.append_assoc _ ((toBE 64 xx).take k), hbe.out] at h3
          go_roundw
          case rel => exact ⟨k + 1, m + 1, A3, c3, (by rw [hm3.out]; rfl : m + 1 = m2 + (k + 1)), rfl, by go_num, by omega, h3, hb3⟩
          case measure => simp only [intOf]; omega
        · have hk8' : Hid (k = 8) := (by omega : k = 8)
          have hk' : ¬ (k : Int) < 8 := by omega
          have hpd : Hid (p3 l (zer 128 l.length) (16 - 8) xx 8 = padd 128 l all) := by
            unfold Hid p3 p2 p1 padd tail
            rw [hxx.out, Nat.mod_eq_of_lt (show all * 8 < 2 ^ 64 by omega), List.take_of_length_le (by simp [toBE])]
            simp
          rw [hk8'.out, hpd.out] at ho
          go_wp2_with fail
          go_ret
          refine ⟨A', m, c', rfl, ?_, ho, hb⟩
          have h1 := ho.1
          rw [List.length_map] at h1
          exact (by omega : m = (padd 128 l all).length)
end Go.Proofs.YtclecmpmohoamaaDoor
