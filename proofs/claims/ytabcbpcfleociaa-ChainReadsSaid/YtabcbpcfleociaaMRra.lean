/- The document's reader: first, fail, Number, Text. -/
import Derived.Test.YtabcbpcfleociaaMRdr
import Derived.Test.YtabcbpcfleociaaMGet
import Derived.Test.YtabcbpcfleociaaMVak
namespace Go.Proofs.Ytabcbpcfleociaa
open Go.RowKit
attribute [local go_sem ↓] Go.wp_at_zero Go.wp_at_succ
set_option linter.unusedSimpArgs false
set_option linter.unusedVariables false
theorem nxt_end (k acc : Nat) : nxt [] k acc = (0, 0, 3) := rfl
/-- Where no number stands, none is told. -/
theorem nxt_no : ∀ (L : List UInt8) (k acc : Nat), (nxt L k acc).2.2 ≠ 0 → (nxt L k acc).1 = 0 ∧ (nxt L k acc).2.1 = 0
  | [], _, _, _ => ⟨rfl, rfl⟩
  | c :: cs, k, acc, h => by
    unfold nxt at h ⊢
    split
    · rename_i h1
      rw [if_pos h1] at h
      exact nxt_no cs _ _ h
    · rename_i h1
      rw [if_neg h1] at h
      split
      · exact ⟨rfl, rfl⟩
      · rename_i h2
        rw [if_neg h2] at h
        split
        · exact ⟨rfl, rfl⟩
        · rename_i h3
          rw [if_neg h3] at h
          exact absurd rfl h
theorem wrap64_in (x : Int) (h : -9223372036854775808 ≤ x ∧ x ≤ 9223372036854775807) : wrap64 x = x := by unfold wrap64; omega
theorem first_val {acc m y z p : Nat} (hm : z * p = m) (hz : y % 128 = z) (h2 : m ≤ 4363686772736) (ha : acc ≤ 34359738368) : wrap64 ((acc : Int) + wrap64 ((y : Int) % 128 * (p : Int))) = ((acc + m : Nat) : Int) := by
  have h1 : ((y : Int) % 128 * (p : Int)) = (m : Int) := by rw [← hm, ← hz]; simp
  rw [h1, wrap64_in (m : Int) (by omega), wrap64_in _ (by omega), Int.natCast_add]
set_option maxRecDepth 8000 in
set_option maxHeartbeats 2000000 in
theorem first_ (A : Option Addr) (n c : Nat) (l : List UInt8) (w : World) (hr : Rd w w.heap.size 1 A n (l.map B8)) :
    Calls Try.prog 80 #[.slice A n c] w fun r w' => r = .returned (.tuple #[.int .i64 (nxt l 0 0).1, .int .i64 (nxt l 0 0).2.1, .int .i64 (nxt l 0 0).2.2]) ∧ w = w' := by
  obtain rfl : l.length = n := by simpa using hr.len
  obtain ⟨⟨x, kk, f⟩, hx⟩ : ∃ p, Hid (nxt l 0 0 = p) := ⟨_, Lib.hid rfl⟩
  rw [hx.out]
  have HR := Lib.hid hr
  clear hr
  go_enter Try.func80, Try.ntmps80
  go_wp2_with fail
  go_loopw [5, 6, 7] (fun x5 x6 x7 wr => ∃ (k acc : Nat), x5 = .int .i64 acc ∧ x6 = .int .i64 ((128 ^ k : Nat) : Int) ∧ x7 = .int .i64 k ∧ k ≤ 6 ∧ k ≤ l.length ∧ acc < 128 ^ k ∧ Hid (k < 6 → nxt (l.drop k) k acc = (x, kk, f)) ∧ Hid (k = 6 → (x, kk, f) = (0, 0, 5)) ∧ Hid (w = wr)) (fun _ _ x7 _ => 6 - (intOf x7).toNat)
  case atStart => exact ⟨0, 0, rfl, rfl, rfl, by omega, by omega, by decide, fun _ => hx.out, fun h => absurd h (by decide), rfl⟩
  case round =>
    obtain ⟨k, acc, rfl, rfl, rfl, hk, hkl, hacc, h6, h7, hw⟩ := hrel
    obtain rfl : w = wr := hw.out
    by_cases hk6 : k < 6
    · have hk6' : (k : Int) < 6 := by omega
      have hR := Lib.hid (h6.out hk6)
      by_cases hend : k = l.length
      · have ht : ((k : Int) == (l.length : Int)) = true := by rw [beq_iff_eq]; omega
        have hR2 : nxt [] k acc = (x, kk, f) := by rw [← hR.out, List.drop_eq_nil_of_le (by omega)]
        simp only [nxt, Prod.mk.injEq] at hR2
        obtain ⟨rfl, rfl, rfl⟩ := hR2
        go_wp2_with fail
        go_ret3
        exact ⟨rfl, rfl⟩
      · have ht : ((k : Int) == (l.length : Int)) = false := by rw [beq_eq_false_iff_ne]; omega
        obtain ⟨b, o, y, rfl, hb, hy, hc⟩ := HR.out.at8 (k := k) (by omega)
        have hyb := byte_lt y
        have hst := nxt_at (L := l) (k := k) (acc := acc) hy.out
        rw [hR.out] at hst
        have Hst := Lib.hid hst
        obtain ⟨p, hp⟩ : ∃ p, Hid (128 ^ k = p) := ⟨_, Lib.hid rfl⟩
        have hpb : p ≤ 34359738368 := by rw [← hp.out]; exact Nat.le_trans (Nat.pow_le_pow_right (n := 128) (i := k) (j := 5) (by decide) (by omega)) (by decide)
        have hkl' : (k : Int) < (l.length : Int) := by omega
        have hk0 : (0 : Int) ≤ (k : Int) := by omega
        rw [hp.out]
        rw [hp.out] at hacc Hst
        clear hst
        obtain ⟨z, hz⟩ : ∃ z, Hid (y.toNat % 128 = z) := ⟨_, Lib.hid rfl⟩
        rw [hz.out] at Hst
        have hzb : z < 128 := by rw [← hz.out]; omega
        have hq : Hid (z * p ≤ 4363686772736) := by
          have h1 : z * p ≤ 127 * 34359738368 := Nat.mul_le_mul (by omega) hpb
          unfold Hid
          omega
        have hzp : Hid (z * p ≤ 127 * p) := Nat.mul_le_mul_right p (by omega)
        obtain ⟨m, hm⟩ : ∃ m, Hid (z * p = m) := ⟨_, Lib.hid rfl⟩
        rw [hm.out] at hq hzp Hst
        have hv : Hid (wrap64 ((acc : Int) + wrap64 ((y.toNat : Int) % 128 * (p : Int))) = ((acc + m : Nat) : Int)) := first_val hm.out hz.out hq.out (Nat.le_trans (Nat.le_of_lt hacc) hpb)
        by_cases hA : 128 ≤ y.toNat
        · have hA1 : (128 : Int) ≤ (y.toNat : Int) := by omega
          have hk1 : Hid (k + 1 < 6 → nxt (l.drop (k + 1)) (k + 1) (acc + m) = (x, kk, f)) := fun h => by have h1 := Hst.out; rw [if_pos ⟨hA, h⟩] at h1; exact h1.symm
          have hk2 : Hid (k + 1 = 6 → (x, kk, f) = (0, 0, 5)) := fun h => by have h1 := Hst.out; rw [if_neg (by omega), if_pos (Or.inl hA)] at h1; exact h1
          have hp2 : p * 128 = 128 ^ (k + 1) := by rw [Nat.pow_succ, hp.out]
          have hP2 := Lib.hid hp2
          clear hp2
          go_wp2_with fail
          rw [hv.out]
          refine ⟨⟨k + 1, acc + m, rfl, by rw [← hP2.out]; rfl, rfl, by omega, by omega, by rw [← hP2.out]; have h1 := hzp.out; omega, hk1.out, hk2.out, trivial⟩, by simp only [intOf]; omega⟩
        · have hA1 : ¬ (128 : Int) ≤ (y.toNat : Int) := by omega
          have h9 := Hst.out
          rw [if_neg (by omega)] at h9
          by_cases hB : y.toNat = 0 ∧ 1 < k + 1
          · rw [if_pos (Or.inr hB)] at h9
            injection h9 with e1 e2
            injection e2 with e2 e3
            have hB1 : (0 : Int) < (k : Int) := by omega
            have hB2 : ((y.toNat : Int) == 0) = true := by rw [beq_iff_eq]; omega
            have E1 := Lib.hid e1
            have E2 := Lib.hid e2
            have E3 := Lib.hid e3
            clear e1 e2 e3 hB
            go_wp2_with fail
            go_ret3
            rw [E1.out, E2.out, E3.out]
            exact ⟨rfl, rfl⟩
          · rw [if_neg (by omega)] at h9
            have hB1 : (decide ((0 : Int) < (k : Int)) && ((y.toNat : Int) == 0)) = false := by
              by_cases h0 : 0 < k
              · have h1 : ((y.toNat : Int) == 0) = false := by rw [beq_eq_false_iff_ne]; omega
                rw [h1, Bool.and_false]
              · rw [decide_eq_false (by omega), Bool.false_and]
            by_cases hF : 1099511627776 < acc + m
            · have hF' : (1099511627776 : Int) < wrap64 ((acc : Int) + wrap64 ((y.toNat : Int) % 128 * (p : Int))) := by rw [hv.out]; omega
              rw [if_pos hF] at h9
              injection h9 with e1 e2
              injection e2 with e2 e3
              have E1 := Lib.hid e1
              have E2 := Lib.hid e2
              have E3 := Lib.hid e3
              clear e1 e2 e3
              by_cases h0 : (0 : Int) < (k : Int)
              · have hB2 : ((y.toNat : Int) == 0) = false := by rw [beq_eq_false_iff_ne]; omega
                go_wp2_with fail
                go_ret3
                rw [E1.out, E2.out, E3.out]
                exact ⟨rfl, rfl⟩
              · go_wp2_with fail
                go_ret3
                rw [E1.out, E2.out, E3.out]
                exact ⟨rfl, rfl⟩
            · have hF' : ¬ (1099511627776 : Int) < wrap64 ((acc : Int) + wrap64 ((y.toNat : Int) % 128 * (p : Int))) := by rw [hv.out]; omega
              rw [if_neg hF] at h9
              injection h9 with e1 e2
              injection e2 with e2 e3
              have E1 := Lib.hid e1
              have E2 := Lib.hid e2
              have E3 := Lib.hid e3
              clear e1 e2 e3
              by_cases h0 : (0 : Int) < (k : Int)
              · have hB2 : ((y.toNat : Int) == 0) = false := by rw [beq_eq_false_iff_ne]; omega
                go_wp2_with fail
                go_ret3
                rw [E1.out, E2.out, E3.out, hv.out, Int.natCast_add k 1]
                exact ⟨rfl, rfl⟩
              · go_wp2_with fail
                go_ret3
                rw [E1.out, E2.out, E3.out, hv.out, Int.natCast_add k 1]
                exact ⟨rfl, rfl⟩
    · obtain rfl : k = 6 := by omega
      have h8 := h7.out rfl
      injection h8 with e1 e2
      injection e2 with e2 e3
      subst e1 e2 e3
      go_wp2_with fail
      go_ret3
      exact ⟨rfl, rfl⟩
end Go.Proofs.Ytabcbpcfleociaa

/- The document's reader: fail, Number, Text. What they tell lies where the input lay, and is read in the world w0 in which it was. -/
namespace Go.Proofs.Ytabcbpcfleociaa
open Go.RowKit
attribute [local go_sem ↓] Go.wp_at_zero Go.wp_at_succ
set_option linter.unusedSimpArgs false
set_option linter.unusedVariables false
/-- What is left of the bytes l at a place, in the world w0. -/
structure RA (w0 : World) (A : Option Addr) (n c : Nat) (l : List UInt8) (at_ : Nat) : Prop where
  rd : Rd w0 w0.heap.size 1 A n ((l.drop at_).map B8)
  le : n ≤ c
  at_ : at_ ≤ l.length
theorem RA.len {w0 : World} {A : Option Addr} {n c : Nat} {l : List UInt8} {at_ : Nat} (h : RA w0 A n c l at_) : n = l.length - at_ := by have := h.rd.len; simp at this; exact this.symm
theorem RA.to {w0 w : World} {A : Option Addr} {n c : Nat} {l : List UInt8} {at_ : Nat} (h : RA w0 A n c l at_) (hb : Below w0.heap.size w0 w) : Rd w w.heap.size 1 A n ((l.drop at_).map B8) := h.rd.to hb
theorem RA.cut {w0 : World} {A : Option Addr} {n c : Nat} {l : List UInt8} {at_ : Nat} (h : RA w0 A n c l at_) {k : Nat} (hk : k ≤ n) : RA w0 (if c = k then A else A.map (·.add (k * 1))) (n - k) (c - k) l (at_ + k) := by
  have hn := h.len
  have h1 := h.at_
  have h2 := h.le
  refine ⟨?_, by omega, by omega⟩
  have h3 := h.rd.cut hk h2
  have e : ((l.drop at_).map B8).drop (k * 1) = (l.drop (at_ + k)).map B8 := by rw [Nat.mul_one, ← List.map_drop, List.drop_drop]
  rwa [e] at h3
theorem triple {a a' : Nat} {b b' : Nat} {e e' : Int} (h : (a, b, e) = (a', b', e')) : a = a' ∧ b = b' ∧ e = e' := by injection h with h1 h2; injection h2 with h2 h3; exact ⟨h1, h2, h3⟩
theorem nxt_far (L : List UInt8) (h : (nxt L 0 0).2.2 = 0) : (nxt L 0 0).1 ≤ 1099511627776 := (nxt_again L _ (nxt L 0 0).2.1 (by rw [← h])).2.2
theorem rfail_ (A : Option Addr) (n c : Nat) (e f : Int) (w : World) :
    Calls Try.prog 81 #[.agg #[.slice A n c, .int .i64 e], .int .i64 f] w fun r w' => r = .returned (.agg #[.slice A n c, .int .i64 f]) ∧ Below w.heap.size w w' := by
  obtain ⟨W, hW⟩ : ∃ W, Hid (W = (w.alloc (.cells #[.slice A n c, .int .i64 e] 94)).alloc (.cells #[.slice A n c, .int .i64 f] 94)) := ⟨_, Lib.hid rfl⟩
  have BW : Hid (Below w.heap.size w W) := by rw [hW.out]; exact ((Below.refl _ _).alloc (Nat.le_refl _) _).alloc (by rw [szAlloc]; omega) _
  have R1 : Hid (W.heap[w.heap.size + 1]? = some (.cells #[.slice A n c, .int .i64 f] 94 (0, 0))) := by
    unfold Hid; rw [hW.out]
    have := heap_alloc_new (w.alloc (.cells #[.slice A n c, .int .i64 e] 94)) (.cells #[.slice A n c, .int .i64 f] 94)
    rwa [szAlloc] at this
  go_enter Try.func81, Try.ntmps81
  go_wp2_with fail
  rw [← hW.out]
  refine bodyPost_ret (v := .agg #[.slice A n c, .int .i64 f]) ?_ rfl ⟨rfl, BW.out⟩
  exact results_cell Try.results81 rfl (run_loadVar_mid (P := Try.prog) W (w.heap.size + 1) 0 94 _ _ (range_of R1.out) Try.underlying94 rfl (by kernel_rfl))
theorem rnum_fin {w : World} {X : Obj} {A : Option Addr} {n c : Nat} {e x : Int} {tmps : Array Value} {Q : Ending → World → Prop} (h6 : tmps.getD 6 undef = .pointer (some ⟨w.heap.size + 1, 0, none⟩)) (h7 : tmps.getD 7 undef = .int .i64 x)
    (hQ : Q (.returned (.tuple #[.agg #[.slice A n c, .int .i64 e], .int .i64 x])) ((w.alloc X).alloc (.cells #[.slice A n c, .int .i64 e] 94))) : bodyPost Try.prog Try.f70 Q Exit.ret ⟨tmps, []⟩ ((w.alloc X).alloc (.cells #[.slice A n c, .int .i64 e] 94)) := by
  refine bodyPost_ret (v := .tuple #[.agg #[.slice A n c, .int .i64 e], .int .i64 x]) ?_ rfl hQ
  have h0 := heap_alloc_new (w.alloc X) (.cells #[.slice A n c, .int .i64 e] 94)
  rw [szAlloc] at h0
  rw [← h7]
  exact results_cell_tmp Try.results70 h6 (run_loadVar_mid (P := Try.prog) _ (w.heap.size + 1) 0 94 _ _ (range_of h0) Try.underlying94 rfl (by kernel_rfl))
theorem below_two {w : World} (X Y : Obj) : Below w.heap.size w ((w.alloc X).alloc Y) := ((Below.refl _ _).alloc (Nat.le_refl _) _).alloc (by rw [szAlloc]; omega) _
set_option maxRecDepth 4000 in
set_option maxHeartbeats 1000000 in
theorem rnum_ (w0 : World) (A : Option Addr) (n c : Nat) (l : List UInt8) (at_ : Nat) (e least most : Int) (w : World) (h : RA w0 A n c l at_) (hb : Below w0.heap.size w0 w) :
    Calls Try.prog 70 #[.agg #[.slice A n c, .int .i64 e], .int .i64 least, .int .i64 most] w fun r w' => ∃ A' n' c', r = .returned (.tuple #[.agg #[.slice A' n' c', .int .i64 (numS l at_ e least most).2.2], .int .i64 (numS l at_ e least most).1]) ∧ RA w0 A' n' c' l (numS l at_ e least most).2.1 ∧ Below w.heap.size w w' := by
  obtain ⟨W, hW⟩ : ∃ W, Hid (W = (w.alloc (.cells #[.slice A n c, .int .i64 e] 94)).alloc (.cells #[.slice none 0 0, .int .i64 0] 94)) := ⟨_, Lib.hid rfl⟩
  have BW : Hid (Below w.heap.size w W) := by rw [hW.out]; exact ((Below.refl _ _).alloc (Nat.le_refl _) _).alloc (by rw [szAlloc]; omega) _
  have R0 : Hid (W.heap[w.heap.size]? = some (.cells #[.slice A n c, .int .i64 e] 94 (0, 0))) := by
    unfold Hid; rw [hW.out]
    exact (((Below.refl _ _).alloc (by rw [szAlloc]; exact Nat.le_refl _) _).block w.heap.size (Nat.lt_succ_self _)).trans (heap_alloc_new _ _)
  have R1 : Hid (W.heap[w.heap.size + 1]? = some (.cells #[.slice none 0 0, .int .i64 0] 94 (0, 0))) := by
    unfold Hid; rw [hW.out]
    have := heap_alloc_new (w.alloc (.cells #[.slice A n c, .int .i64 e] 94)) (.cells #[.slice none 0 0, .int .i64 0] 94)
    rwa [szAlloc] at this
  have HA := Lib.hid h
  have HB := Lib.hid hb
  clear h hb
  obtain ⟨⟨vx, va, ve⟩, hv⟩ : ∃ p, Hid (numS l at_ e least most = p) := ⟨_, Lib.hid rfl⟩
  rw [hv.out]
  simp only
  go_enter Try.func70, Try.ntmps70
  have hGw : Hid (W.heap.size = w.heap.size + 2) := by unfold Hid; rw [hW.out, szAlloc, szAlloc]
  by_cases he : e = 0
  · subst he
    have HR := HA.out.to (HB.out.trans (BW.out.mono HB.out.size))
    obtain ⟨⟨x, kk, f⟩, hx⟩ : ∃ p, Hid (nxt (l.drop at_) 0 0 = p) := ⟨_, Lib.hid rfl⟩
    go_wp2_with fail
    rw [← hW.out]
    refine (first_ A n c (l.drop at_) W HR).mono ?_
    rintro e u ⟨rfl, rfl⟩
    rw [hx.out]
    have hno := nxt_no (l.drop at_) 0 0
    rw [hx.out] at hno
    have HNO := Lib.hid hno
    clear hno
    by_cases hf : f = 0
    · subst hf
      have hkn : Hid (kk ≤ n) := by have h1 := nxt_bd hx.out; rw [List.length_drop] at h1; have h2 := HA.out.len; unfold Hid; omega
      by_cases hlo : (x : Int) < least ∨ most < (x : Int)
      · have hs : Hid (numS l at_ 0 least most = (0, at_, 6)) := by unfold numS Hid; rw [if_pos rfl, hx.out]; simp only; rw [if_pos trivial, if_pos hlo]
        obtain ⟨rfl, rfl, rfl⟩ := triple (hv.out.symm.trans hs.out)
        by_cases h1 : (x : Int) < least
        · have h1' : decide ((x : Int) < least) = true := decide_eq_true h1
          have c0 := cell_blk R0.out 0 rfl
          have c1 := cell_blk R0.out 1 rfl
          go_wp2_with fail
          clear c0 c1
          refine (rfail_ A n c 0 6 W).mono ?_
          rintro e u ⟨rfl, bu⟩
          have Ru : Hid (u.heap[w.heap.size + 1]? = some (.cells #[.slice none 0 0, .int .i64 0] 94 (0, 0))) := (bu.block _ (by have := hGw.out; omega)).trans R1.out
          have BU : Hid (Below w.heap.size w u) := BW.out.trans (bu.mono BW.out.size)
          clear bu
          go_wp2_with (refine wpList_store_row rfl 94 (.tmp 6) (.tmp 36) rfl (w.heap.size + 1) #[.slice A n c, .int .i64 6] rfl rfl _ _ Ru.out (by kernel_rfl) rfl (by kernel_rfl) ?_)
          generalize hQ : World.setRow _ _ _ = Qz
          have hQg : Qz.heap[w.heap.size + 1]? = some (.cells #[.slice A n c, .int .i64 6] 94 (0, 0)) := by rw [← hQ]; exact setRow_heap _ _ _ _ _ _ Ru.out
          have hQb : Below w.heap.size w Qz := by rw [← hQ]; exact below_setRow BU.out (Nat.le_succ _) _
          go_wp2_with fail
          refine bodyPost_ret (v := .tuple #[.agg #[.slice A n c, .int .i64 6], .int .i64 0]) ?_ rfl ⟨A, n, c, rfl, HA.out, hQb⟩
          exact results_cell_tmp Try.results70 rfl (run_loadVar_mid (P := Try.prog) Qz (w.heap.size + 1) 0 94 _ _ (range_of hQg) Try.underlying94 rfl (by kernel_rfl))
        · have h2 : most < (x : Int) := hlo.resolve_left h1
          have c0 := cell_blk R0.out 0 rfl
          have c1 := cell_blk R0.out 1 rfl
          go_wp2_with fail
          clear c0 c1
          refine (rfail_ A n c 0 6 W).mono ?_
          rintro e u ⟨rfl, bu⟩
          have Ru : Hid (u.heap[w.heap.size + 1]? = some (.cells #[.slice none 0 0, .int .i64 0] 94 (0, 0))) := (bu.block _ (by have := hGw.out; omega)).trans R1.out
          have BU : Hid (Below w.heap.size w u) := BW.out.trans (bu.mono BW.out.size)
          clear bu
          go_wp2_with (refine wpList_store_row rfl 94 (.tmp 6) (.tmp 36) rfl (w.heap.size + 1) #[.slice A n c, .int .i64 6] rfl rfl _ _ Ru.out (by kernel_rfl) rfl (by kernel_rfl) ?_)
          generalize hQ : World.setRow _ _ _ = Qz
          have hQg : Qz.heap[w.heap.size + 1]? = some (.cells #[.slice A n c, .int .i64 6] 94 (0, 0)) := by rw [← hQ]; exact setRow_heap _ _ _ _ _ _ Ru.out
          have hQb : Below w.heap.size w Qz := by rw [← hQ]; exact below_setRow BU.out (Nat.le_succ _) _
          go_wp2_with fail
          refine bodyPost_ret (v := .tuple #[.agg #[.slice A n c, .int .i64 6], .int .i64 0]) ?_ rfl ⟨A, n, c, rfl, HA.out, hQb⟩
          exact results_cell_tmp Try.results70 rfl (run_loadVar_mid (P := Try.prog) Qz (w.heap.size + 1) 0 94 _ _ (range_of hQg) Try.underlying94 rfl (by kernel_rfl))
      · have h1 : ¬ (x : Int) < least := fun h => hlo (Or.inl h)
        have h2 : ¬ most < (x : Int) := fun h => hlo (Or.inr h)
        have hs : Hid (numS l at_ 0 least most = (x, at_ + kk, 0)) := by unfold numS Hid; rw [if_pos rfl, hx.out]; simp only; rw [if_pos trivial, if_neg hlo]
        obtain ⟨rfl, rfl, rfl⟩ := triple (hv.out.symm.trans hs.out)
        rw [hW.out]
        have hkn' : (kk : Int) ≤ (n : Int) := by have := hkn.out; omega
        have hk0 : (0 : Int) ≤ (kk : Int) := by omega
        have hcut := Lib.hid (HA.out.cut hkn.out)
        by_cases hck : c = kk
        · subst hck
          rw [if_pos rfl, Nat.sub_self] at hcut
          go_wp2_with fail
          exact rnum_fin rfl rfl ⟨_, _, _, rfl, hcut.out, below_two _ _⟩
        · rw [if_neg hck, Nat.mul_one] at hcut
          go_wp2_with fail
          exact rnum_fin rfl rfl ⟨_, _, _, rfl, hcut.out, below_two _ _⟩
    · have hf' : (f != 0) = true := by simpa using hf
      have hs : Hid (numS l at_ 0 least most = (0, at_, f)) := by unfold numS Hid; rw [if_pos rfl, hx.out]; simp only; rw [if_neg hf]
      obtain ⟨h1, h2, h3⟩ := triple (hv.out.symm.trans hs.out)
      subst h1 h2 h3
      clear hf
      have c0 := cell_blk R0.out 0 rfl
      have c1 := cell_blk R0.out 1 rfl
      go_wp2_with fail
      clear c0 c1
      refine (rfail_ A n c 0 ve W).mono ?_
      rintro e u ⟨rfl, bu⟩
      have Ru : Hid (u.heap[w.heap.size + 1]? = some (.cells #[.slice none 0 0, .int .i64 0] 94 (0, 0))) := (bu.block _ (by have := hGw.out; omega)).trans R1.out
      have BU : Hid (Below w.heap.size w u) := BW.out.trans (bu.mono BW.out.size)
      clear bu
      go_wp2_with (refine wpList_store_row rfl 94 (.tmp 6) (.tmp 26) rfl (w.heap.size + 1) #[.slice A n c, .int .i64 ve] rfl rfl _ _ Ru.out (by kernel_rfl) rfl (by kernel_rfl) ?_)
      generalize hQ : World.setRow _ _ _ = Qz
      have hQg : Qz.heap[w.heap.size + 1]? = some (.cells #[.slice A n c, .int .i64 ve] 94 (0, 0)) := by rw [← hQ]; exact setRow_heap _ _ _ _ _ _ Ru.out
      have hQb : Below w.heap.size w Qz := by rw [← hQ]; exact below_setRow BU.out (Nat.le_succ _) _
      go_wp2_with fail
      refine bodyPost_ret (v := .tuple #[.agg #[.slice A n c, .int .i64 ve], .int .i64 0]) ?_ rfl ⟨A, n, c, rfl, HA.out, hQb⟩
      exact results_cell_tmp Try.results70 rfl (run_loadVar_mid (P := Try.prog) Qz (w.heap.size + 1) 0 94 _ _ (range_of hQg) Try.underlying94 rfl (by kernel_rfl))
  · have he' : (e != 0) = true := by simpa using he
    have hs : Hid (numS l at_ e least most = (0, at_, e)) := numS_err l at_ he _ _
    obtain ⟨h1, h2, h3⟩ := triple (hv.out.symm.trans hs.out)
    subst h1 h2
    rw [h3]
    clear he h3
    go_wp2_with fail
    exact rnum_fin rfl rfl ⟨_, _, _, rfl, HA.out, below_two _ _⟩
set_option maxRecDepth 4000 in
set_option maxHeartbeats 2000000 in
theorem rtext_ (w0 : World) (A : Option Addr) (n c : Nat) (l : List UInt8) (at_ : Nat) (e most : Int) (w : World) (h : RA w0 A n c l at_) (hb : Below w0.heap.size w0 w) (hm : 0 ≤ most) (hl : l.length ≤ 1000000000) :
    Calls Try.prog 71 #[.agg #[.slice A n c, .int .i64 e], .int .i64 most] w fun r w' => ∃ A' n' c' D dn dc, r = .returned (.tuple #[.agg #[.slice A' n' c', .int .i64 (txtS l at_ e most).2.2], .slice D dn dc]) ∧ RA w0 A' n' c' l (txtS l at_ e most).2.1 ∧ Rd w0 w0.heap.size 1 D dn ((txtS l at_ e most).1.map B8) ∧ dn ≤ dc ∧ Below w.heap.size w w' := by
  obtain ⟨W, hW⟩ : ∃ W, Hid (W = (w.alloc (.cells #[.slice A n c, .int .i64 e] 94)).alloc (.cells #[.slice none 0 0, .int .i64 0] 94)) := ⟨_, Lib.hid rfl⟩
  have BW : Hid (Below w.heap.size w W) := by rw [hW.out]; exact below_two _ _
  have R0 : Hid (W.heap[w.heap.size]? = some (.cells #[.slice A n c, .int .i64 e] 94 (0, 0))) := by
    unfold Hid; rw [hW.out]
    exact (((Below.refl _ _).alloc (by rw [szAlloc]; exact Nat.le_refl _) _).block w.heap.size (Nat.lt_succ_self _)).trans (heap_alloc_new _ _)
  have R1 : Hid (W.heap[w.heap.size + 1]? = some (.cells #[.slice none 0 0, .int .i64 0] 94 (0, 0))) := by
    unfold Hid; rw [hW.out]
    have := heap_alloc_new (w.alloc (.cells #[.slice A n c, .int .i64 e] 94)) (.cells #[.slice none 0 0, .int .i64 0] 94)
    rwa [szAlloc] at this
  have hGw : Hid (W.heap.size = w.heap.size + 2) := by unfold Hid; rw [hW.out, szAlloc, szAlloc]
  have HA := Lib.hid h
  have HB := Lib.hid hb
  clear h hb
  obtain ⟨⟨tx, ta, te⟩, hv⟩ : ∃ p, Hid (txtS l at_ e most = p) := ⟨_, Lib.hid rfl⟩
  rw [hv.out]
  simp only
  go_enter Try.func71, Try.ntmps71
  go_wp2_with fail
  rw [← hW.out]
  refine (rnum_ w0 A n c l at_ e 0 1099511627776 W HA.out (HB.out.trans (BW.out.mono HB.out.size))).mono ?_
  rintro r u ⟨A1, n1, c1, rfl, hA1, bu⟩
  obtain ⟨⟨x, a1, e1⟩, hn1⟩ : ∃ p, Hid (numS l at_ e 0 1099511627776 = p) := ⟨_, Lib.hid rfl⟩
  rw [hn1.out] at hA1 ⊢
  simp only at hA1 ⊢
  have HA1 := Lib.hid hA1
  have Bu := Lib.hid bu
  clear hA1 bu
  obtain ⟨V, hV⟩ : ∃ V, Hid (V = u.alloc (.cells #[.slice A1 n1 c1, .int .i64 e1] 94)) := ⟨_, Lib.hid rfl⟩
  have BV : Hid (Below w.heap.size w V) := by rw [hV.out]; exact (BW.out.trans (Bu.out.mono BW.out.size)).alloc (Nat.le_trans BW.out.size Bu.out.size) _
  have BV2 : Hid (Below W.heap.size W V) := by rw [hV.out]; exact Bu.out.alloc Bu.out.size _
  have RV : Hid (V.heap[u.heap.size]? = some (.cells #[.slice A1 n1 c1, .int .i64 e1] 94 (0, 0))) := by unfold Hid; rw [hV.out]; exact heap_alloc_new _ _
  have RV0 : Hid (V.heap[w.heap.size]? = some (.cells #[.slice A n c, .int .i64 e] 94 (0, 0))) := (BV2.out.block _ (by have := hGw.out; omega)).trans R0.out
  have RV1 : Hid (V.heap[w.heap.size + 1]? = some (.cells #[.slice none 0 0, .int .i64 0] 94 (0, 0))) := (BV2.out.block _ (by have := hGw.out; omega)).trans R1.out
  have RVo := Lib.hid RV1.out
  rw [hV.out] at RVo
  have BVo := Lib.hid BV.out
  rw [hV.out] at BVo
  have RV0o := Lib.hid RV0.out
  rw [hV.out] at RV0o
  by_cases he1 : e1 = 0
  · subst he1
    have hgd : Hid (e = 0 ∧ (nxt (l.drop at_) 0 0).2.2 = 0 ∧ x = (nxt (l.drop at_) 0 0).1 ∧ a1 = at_ + (nxt (l.drop at_) 0 0).2.1) := by
      have h1 := hn1.out
      unfold numS at h1
      by_cases he : e = 0
      · rw [if_pos he] at h1
        by_cases hf : (nxt (l.drop at_) 0 0).2.2 = 0
        · rw [if_pos hf] at h1
          have h3 := nxt_far (l.drop at_) hf
          rw [if_neg (by omega)] at h1
          obtain ⟨h4, h5, _⟩ := triple h1
          exact ⟨he, hf, h4.symm, h5.symm⟩
        · rw [if_neg hf] at h1
          exact absurd (triple h1).2.2 hf
      · rw [if_neg he] at h1
        exact absurd (triple h1).2.2 he
    obtain ⟨rfl, hf0, hx0, ha0⟩ := hgd.out
    have hts : Hid ((if most < (x : Int) then (([] : List UInt8), at_, (2 : Int)) else if l.length < a1 + x then ([], at_, 3) else ((l.drop a1).take x, a1 + x, 0)) = (tx, ta, te)) := by
      have h2 := hv.out
      unfold txtS at h2
      rw [if_pos rfl, if_pos hf0, ← hx0, ← ha0] at h2
      exact h2
    clear hf0 hx0 ha0 hgd
    have hmx : Hid (max most 0 = most) := by unfold Hid; omega
    by_cases hm1 : most < (x : Int)
    · have h1 := hts.out
      rw [if_pos hm1] at h1
      obtain ⟨h1, h2, h3⟩ : tx = [] ∧ ta = at_ ∧ te = 2 := by injection h1 with h1 h2; injection h2 with h2 h3; exact ⟨h1.symm, h2.symm, h3.symm⟩
      subst h1 h2 h3
      have c0 := cell_blk RV0o.out 0 rfl
      have c1 := cell_blk RV0o.out 1 rfl
      go_wp2_with fail
      clear c0 c1
      rw [← hV.out]
      refine (rfail_ A n c 0 2 V).mono ?_
      rintro r v ⟨rfl, bv⟩
      have Rv : Hid (v.heap[w.heap.size + 1]? = some (.cells #[.slice none 0 0, .int .i64 0] 94 (0, 0))) := (bv.block _ (lt_of_blk RV1.out)).trans RV1.out
      have Bv : Hid (Below w.heap.size w v) := BV.out.trans (bv.mono BV.out.size)
      clear bv
      go_wp2_with (refine wpList_store_row rfl 94 (.tmp 4) (.tmp 22) rfl (w.heap.size + 1) #[.slice A n c, .int .i64 2] rfl rfl _ _ Rv.out (by kernel_rfl) rfl (by kernel_rfl) ?_)
      generalize hQ : World.setRow _ _ _ = Qz
      have hQg : Qz.heap[w.heap.size + 1]? = some (.cells #[.slice A n c, .int .i64 2] 94 (0, 0)) := by rw [← hQ]; exact setRow_heap _ _ _ _ _ _ Rv.out
      have hQb : Below w.heap.size w Qz := by rw [← hQ]; exact below_setRow Bv.out (Nat.le_succ _) _
      go_wp2_with fail
      refine bodyPost_ret (v := .tuple #[.agg #[.slice A n c, .int .i64 2], .slice none 0 0]) ?_ rfl ⟨_, _, _, _, _, _, rfl, HA.out, Rd.nil _ _ _ _, Nat.le_refl _, hQb⟩
      exact results_cell_tmp Try.results71 rfl (run_loadVar_mid (P := Try.prog) Qz (w.heap.size + 1) 0 94 _ _ (range_of hQg) Try.underlying94 rfl (by kernel_rfl))
    · have h1 := hts.out
      rw [if_neg hm1] at h1
      by_cases hm2 : l.length < a1 + x
      · rw [if_pos hm2] at h1
        obtain ⟨h1, h2, h3⟩ : tx = [] ∧ ta = at_ ∧ te = 3 := by injection h1 with h1 h2; injection h2 with h2 h3; exact ⟨h1.symm, h2.symm, h3.symm⟩
        subst h1 h2 h3
        have hm2' : (n1 : Int) < (x : Int) := by have h4 := HA1.out.len; have h5 := HA1.out.at_; omega
        have c0 := cell_blk RV0o.out 0 rfl
        have c1 := cell_blk RV0o.out 1 rfl
        go_wp2_with fail
        clear c0 c1
        rw [← hV.out]
        refine (rfail_ A n c 0 3 V).mono ?_
        rintro r v ⟨rfl, bv⟩
        have Rv : Hid (v.heap[w.heap.size + 1]? = some (.cells #[.slice none 0 0, .int .i64 0] 94 (0, 0))) := (bv.block _ (lt_of_blk RV1.out)).trans RV1.out
        have Bv : Hid (Below w.heap.size w v) := BV.out.trans (bv.mono BV.out.size)
        clear bv
        go_wp2_with (refine wpList_store_row rfl 94 (.tmp 4) (.tmp 29) rfl (w.heap.size + 1) #[.slice A n c, .int .i64 3] rfl rfl _ _ Rv.out (by kernel_rfl) rfl (by kernel_rfl) ?_)
        generalize hQ : World.setRow _ _ _ = Qz
        have hQg : Qz.heap[w.heap.size + 1]? = some (.cells #[.slice A n c, .int .i64 3] 94 (0, 0)) := by rw [← hQ]; exact setRow_heap _ _ _ _ _ _ Rv.out
        have hQb : Below w.heap.size w Qz := by rw [← hQ]; exact below_setRow Bv.out (Nat.le_succ _) _
        go_wp2_with fail
        refine bodyPost_ret (v := .tuple #[.agg #[.slice A n c, .int .i64 3], .slice none 0 0]) ?_ rfl ⟨_, _, _, _, _, _, rfl, HA.out, Rd.nil _ _ _ _, Nat.le_refl _, hQb⟩
        exact results_cell_tmp Try.results71 rfl (run_loadVar_mid (P := Try.prog) Qz (w.heap.size + 1) 0 94 _ _ (range_of hQg) Try.underlying94 rfl (by kernel_rfl))
      · rw [if_neg hm2] at h1
        obtain ⟨h1, h2, h3⟩ : tx = (l.drop a1).take x ∧ ta = a1 + x ∧ te = 0 := by injection h1 with h1 h2; injection h2 with h2 h3; exact ⟨h1.symm, h2.symm, h3.symm⟩
        subst h1 h2 h3
        have hm2' : ¬ (n1 : Int) < (x : Int) := by have h4 := HA1.out.len; have h5 := HA1.out.at_; omega
        have hx1' : (x : Int) ≤ (n1 : Int) := by omega
        have hx0' : (0 : Int) ≤ (x : Int) := by omega
        have hxn : Hid (x ≤ n1) := (by omega : x ≤ n1)
        have hxc' : (x : Int) ≤ (c1 : Int) := by have := HA1.out.le; omega
        have hcut := Lib.hid (HA1.out.cut hxn.out)
        have htk : Hid (Rd w0 w0.heap.size 1 A1 x (((l.drop a1).take x).map B8)) := by have h9 := HA1.out.rd.take hxn.out; rw [← List.map_take] at h9; exact h9
        by_cases hck : c1 = x
        · subst hck
          rw [if_pos rfl, Nat.sub_self] at hcut
          go_wp2_with fail
          rw [← hV.out]
          obtain ⟨X, hX⟩ : ∃ W, Hid (W = V.drew) := ⟨_, Lib.hid rfl⟩
          have dX : Below V.heap.size V X := by rw [hX.out]; exact below_drew (Below.refl _ _)
          have XV : Hid (X.heap[u.heap.size]? = some (.cells #[.slice A1 n1 c1, .int .i64 0] 94 (0, 0))) := (dX.block _ (lt_of_blk RV.out)).trans RV.out
          have X1 : Hid (X.heap[w.heap.size + 1]? = some (.cells #[.slice none 0 0, .int .i64 0] 94 (0, 0))) := (dX.block _ (lt_of_blk RV1.out)).trans RV1.out
          have BX : Hid (Below w.heap.size w X) := BV.out.trans (dX.mono BV.out.size)
          refine wp_region_noPanic ?_
          refine wp_region_held_drew (S := fun w' => w'.heap[u.heap.size]? = some (.cells #[.slice A1 n1 c1, .int .i64 0] 94 (0, 0))) (by kernel_rfl) (by rw [← hX.out]; exact XV.out) (fun hS => ?_)
          rw [← hX.out]
          clear hS
          have hS := XV.out
          refine wpAnyH_take (i := 0) (v := ?vt0) rfl (by kernel_rfl) (by kernel_rfl) (by kernel_rfl) (fun _ _ _ h => h) (Or.inl ⟨by rfl, ?hyt0⟩) hS ?restt0
          case hyt0 => (intro w' hSw; go_simp; first | done | with_reducible rfl)
          try simp only [Act.put, List.getElem_toArray, List.getElem_cons_zero, List.getElem_cons_succ, List.setIfInBounds_toArray, List.set_cons_zero, List.set_cons_succ]
          refine wpAnyH_take (i := 1) (v := .slice A1 n1 c1) rfl (by kernel_rfl) (by kernel_rfl) (by kernel_rfl) (fun _ _ _ h => h) (Or.inl ⟨by rfl, ?hyt1⟩) hS ?restt1
          case hyt1 => (intro w' hSw; have c0 := cell_blk hSw 0 rfl; go_simp; first | done | with_reducible rfl)
          try simp only [Act.put, List.getElem_toArray, List.getElem_cons_zero, List.getElem_cons_succ, List.setIfInBounds_toArray, List.set_cons_zero, List.set_cons_succ]
          refine wpAnyH_take (i := 2) (v := ?vt2) rfl (by kernel_rfl) (by kernel_rfl) (by kernel_rfl) (fun _ _ _ h => h) (Or.inl ⟨by rfl, ?hyt2⟩) hS ?restt2
          case hyt2 => (intro w' hSw; go_simp; first | done | with_reducible rfl)
          try simp only [Act.put, List.getElem_toArray, List.getElem_cons_zero, List.getElem_cons_succ, List.setIfInBounds_toArray, List.set_cons_zero, List.set_cons_succ]
          refine wpAnyH_take (i := 3) (v := .slice A1 (n1 - c1) 0) rfl (by kernel_rfl) (by kernel_rfl) (by kernel_rfl) (fun _ _ _ h => h) (Or.inl ⟨by rfl, ?hyt3⟩) hS ?restt3
          case hyt3 => (intro w' hSw; go_simp; first | done | with_reducible rfl)
          try simp only [Act.put, List.getElem_toArray, List.getElem_cons_zero, List.getElem_cons_succ, List.setIfInBounds_toArray, List.set_cons_zero, List.set_cons_succ]
          refine wpAnyH_take (i := 4) (v := .agg #[.slice A1 (n1 - c1) 0, .int .i64 0]) rfl (by kernel_rfl) (by kernel_rfl) (by kernel_rfl) (fun _ _ _ h => h) (Or.inl ⟨by rfl, ?hyt4⟩) hS ?restt4
          case hyt4 => (intro w' hSw; go_simp; first | done | with_reducible rfl)
          try simp only [Act.put, List.getElem_toArray, List.getElem_cons_zero, List.getElem_cons_succ, List.setIfInBounds_toArray, List.set_cons_zero, List.set_cons_succ]
          refine wpAnyH_take (i := 5) (v := ?vt5) rfl (by kernel_rfl) (by kernel_rfl) (by kernel_rfl) (fun _ _ _ h => h) (Or.inl ⟨by rfl, ?hyt5⟩) hS ?restt5
          case hyt5 => (intro w' hSw; go_simp; first | done | with_reducible rfl)
          try simp only [Act.put, List.getElem_toArray, List.getElem_cons_zero, List.getElem_cons_succ, List.setIfInBounds_toArray, List.set_cons_zero, List.set_cons_succ]
          refine wpAnyH_take (i := 6) (v := .slice A1 n1 c1) rfl (by kernel_rfl) (by kernel_rfl) (by kernel_rfl) (fun _ _ _ h => h) (Or.inl ⟨by rfl, ?hyt6⟩) hS ?restt6
          case hyt6 => (intro w' hSw; have c0 := cell_blk hSw 0 rfl; go_simp; first | done | with_reducible rfl)
          try simp only [Act.put, List.getElem_toArray, List.getElem_cons_zero, List.getElem_cons_succ, List.setIfInBounds_toArray, List.set_cons_zero, List.set_cons_succ]
          refine wpAnyH_take (i := 7) (v := ?vt7) rfl (by kernel_rfl) (by kernel_rfl) (by kernel_rfl) (fun _ _ _ h => h) (Or.inl ⟨by rfl, ?hyt7⟩) hS ?restt7
          case hyt7 => (intro w' hSw; go_simp; first | done | with_reducible rfl)
          try simp only [Act.put, List.getElem_toArray, List.getElem_cons_zero, List.getElem_cons_succ, List.setIfInBounds_toArray, List.set_cons_zero, List.set_cons_succ]
          refine wpAnyH_take (i := 8) (v := .slice A1 c1 c1) rfl (by kernel_rfl) (by kernel_rfl) (by kernel_rfl) (fun _ _ _ h => h) (Or.inl ⟨by rfl, ?hyt8⟩) hS ?restt8
          case hyt8 => (intro w' hSw; go_simp; first | done | with_reducible rfl)
          try simp only [Act.put, List.getElem_toArray, List.getElem_cons_zero, List.getElem_cons_succ, List.setIfInBounds_toArray, List.set_cons_zero, List.set_cons_succ]
          refine wpAnyH_ready (rs := [9]) (by kernel_rfl) (by simp) ?_
          refine AllReadyH.cons rfl (fun K hK => ?_) AllReadyH.nil
          refine step_store_row 94 (.tmp 4) (.tmp 34) rfl rfl (w.heap.size + 1) #[.slice A1 (n1 - c1) 0, .int .i64 0] rfl (by first | rfl | kernel_rfl) _ _ X1.out (by kernel_rfl) rfl (by kernel_rfl) ?_
          obtain ⟨Y, hY⟩ : ∃ W0, Hid (W0 = X.setRow (w.heap.size + 1) #[.slice A1 (n1 - c1) 0, .int .i64 0]) := ⟨_, Lib.hid rfl⟩
          rw [← hY.out]
          have Y1 : Hid (Y.heap[w.heap.size + 1]? = some (.cells #[.slice A1 (n1 - c1) 0, .int .i64 0] 94 (0, 0))) := by unfold Hid; rw [hY.out]; exact setRow_heap _ _ _ _ _ _ X1.out
          have YV : Hid (Y.heap[u.heap.size]? = some (.cells #[.slice A1 n1 c1, .int .i64 0] 94 (0, 0))) := by unfold Hid; rw [hY.out, setRow_other _ _ _ _ (by have h7 := hGw.out; have h8 := Bu.out.size; omega)]; exact XV.out
          have BY : Hid (Below w.heap.size w Y) := by rw [hY.out]; exact below_setRow BX.out (Nat.le_succ _) _
          refine hK.out _ _ YV.out ?_
          intro hS
          clear hK K
          try simp only [Act.put, List.getElem_toArray, List.getElem_cons_zero, List.getElem_cons_succ, List.setIfInBounds_toArray, List.set_cons_zero, List.set_cons_succ]
          refine wpAnyH_take (i := 10) (v := .slice A1 c1 c1) rfl (by kernel_rfl) (by kernel_rfl) (by kernel_rfl) (fun _ _ _ h => h) (Or.inl ⟨by rfl, ?hyt10⟩) hS ?restt10
          case hyt10 => (intro w' hSw; go_simp; first | done | with_reducible rfl)
          try simp only [Act.put, List.getElem_toArray, List.getElem_cons_zero, List.getElem_cons_succ, List.setIfInBounds_toArray, List.set_cons_zero, List.set_cons_succ]
          refine wpAnyH_done (by kernel_rfl) (NoPanic.normal ?_) _
          go_wp2_with fail
          refine bodyPost_ret (v := .tuple #[.agg #[.slice A1 (n1 - c1) 0, .int .i64 0], .slice A1 c1 c1]) ?_ rfl ⟨_, _, _, _, _, _, rfl, hcut.out, htk.out, Nat.le_refl _, BY.out⟩
          exact results_cell_tmp Try.results71 rfl (run_loadVar_mid (P := Try.prog) Y (w.heap.size + 1) 0 94 _ _ (range_of Y1.out) Try.underlying94 rfl (by kernel_rfl))
        · rw [if_neg hck, Nat.mul_one] at hcut
          go_wp2_with fail
          rw [← hV.out]
          obtain ⟨X, hX⟩ : ∃ W, Hid (W = V.drew) := ⟨_, Lib.hid rfl⟩
          have dX : Below V.heap.size V X := by rw [hX.out]; exact below_drew (Below.refl _ _)
          have XV : Hid (X.heap[u.heap.size]? = some (.cells #[.slice A1 n1 c1, .int .i64 0] 94 (0, 0))) := (dX.block _ (lt_of_blk RV.out)).trans RV.out
          have X1 : Hid (X.heap[w.heap.size + 1]? = some (.cells #[.slice none 0 0, .int .i64 0] 94 (0, 0))) := (dX.block _ (lt_of_blk RV1.out)).trans RV1.out
          have BX : Hid (Below w.heap.size w X) := BV.out.trans (dX.mono BV.out.size)
          refine wp_region_noPanic ?_
          refine wp_region_held_drew (S := fun w' => w'.heap[u.heap.size]? = some (.cells #[.slice A1 n1 c1, .int .i64 0] 94 (0, 0))) (by kernel_rfl) (by rw [← hX.out]; exact XV.out) (fun hS => ?_)
          rw [← hX.out]
          clear hS
          have hS := XV.out
          refine wpAnyH_take (i := 0) (v := ?vf0) rfl (by kernel_rfl) (by kernel_rfl) (by kernel_rfl) (fun _ _ _ h => h) (Or.inl ⟨by rfl, ?hyf0⟩) hS ?restf0
          case hyf0 => (intro w' hSw; go_simp; first | done | with_reducible rfl)
          try simp only [Act.put, List.getElem_toArray, List.getElem_cons_zero, List.getElem_cons_succ, List.setIfInBounds_toArray, List.set_cons_zero, List.set_cons_succ]
          refine wpAnyH_take (i := 1) (v := .slice A1 n1 c1) rfl (by kernel_rfl) (by kernel_rfl) (by kernel_rfl) (fun _ _ _ h => h) (Or.inl ⟨by rfl, ?hyf1⟩) hS ?restf1
          case hyf1 => (intro w' hSw; have c0 := cell_blk hSw 0 rfl; go_simp; first | done | with_reducible rfl)
          try simp only [Act.put, List.getElem_toArray, List.getElem_cons_zero, List.getElem_cons_succ, List.setIfInBounds_toArray, List.set_cons_zero, List.set_cons_succ]
          refine wpAnyH_take (i := 2) (v := ?vf2) rfl (by kernel_rfl) (by kernel_rfl) (by kernel_rfl) (fun _ _ _ h => h) (Or.inl ⟨by rfl, ?hyf2⟩) hS ?restf2
          case hyf2 => (intro w' hSw; go_simp; first | done | with_reducible rfl)
          try simp only [Act.put, List.getElem_toArray, List.getElem_cons_zero, List.getElem_cons_succ, List.setIfInBounds_toArray, List.set_cons_zero, List.set_cons_succ]
          refine wpAnyH_take (i := 3) (v := .slice (Option.map (fun y => y.add x) A1) (n1 - x) (c1 - x)) rfl (by kernel_rfl) (by kernel_rfl) (by kernel_rfl) (fun _ _ _ h => h) (Or.inl ⟨by rfl, ?hyf3⟩) hS ?restf3
          case hyf3 => (intro w' hSw; go_simp; first | done | with_reducible rfl)
          try simp only [Act.put, List.getElem_toArray, List.getElem_cons_zero, List.getElem_cons_succ, List.setIfInBounds_toArray, List.set_cons_zero, List.set_cons_succ]
          refine wpAnyH_take (i := 4) (v := .agg #[.slice (Option.map (fun y => y.add x) A1) (n1 - x) (c1 - x), .int .i64 0]) rfl (by kernel_rfl) (by kernel_rfl) (by kernel_rfl) (fun _ _ _ h => h) (Or.inl ⟨by rfl, ?hyf4⟩) hS ?restf4
          case hyf4 => (intro w' hSw; go_simp; first | done | with_reducible rfl)
          try simp only [Act.put, List.getElem_toArray, List.getElem_cons_zero, List.getElem_cons_succ, List.setIfInBounds_toArray, List.set_cons_zero, List.set_cons_succ]
          refine wpAnyH_take (i := 5) (v := ?vf5) rfl (by kernel_rfl) (by kernel_rfl) (by kernel_rfl) (fun _ _ _ h => h) (Or.inl ⟨by rfl, ?hyf5⟩) hS ?restf5
          case hyf5 => (intro w' hSw; go_simp; first | done | with_reducible rfl)
          try simp only [Act.put, List.getElem_toArray, List.getElem_cons_zero, List.getElem_cons_succ, List.setIfInBounds_toArray, List.set_cons_zero, List.set_cons_succ]
          refine wpAnyH_take (i := 6) (v := .slice A1 n1 c1) rfl (by kernel_rfl) (by kernel_rfl) (by kernel_rfl) (fun _ _ _ h => h) (Or.inl ⟨by rfl, ?hyf6⟩) hS ?restf6
          case hyf6 => (intro w' hSw; have c0 := cell_blk hSw 0 rfl; go_simp; first | done | with_reducible rfl)
          try simp only [Act.put, List.getElem_toArray, List.getElem_cons_zero, List.getElem_cons_succ, List.setIfInBounds_toArray, List.set_cons_zero, List.set_cons_succ]
          refine wpAnyH_take (i := 7) (v := ?vf7) rfl (by kernel_rfl) (by kernel_rfl) (by kernel_rfl) (fun _ _ _ h => h) (Or.inl ⟨by rfl, ?hyf7⟩) hS ?restf7
          case hyf7 => (intro w' hSw; go_simp; first | done | with_reducible rfl)
          try simp only [Act.put, List.getElem_toArray, List.getElem_cons_zero, List.getElem_cons_succ, List.setIfInBounds_toArray, List.set_cons_zero, List.set_cons_succ]
          refine wpAnyH_take (i := 8) (v := .slice A1 x c1) rfl (by kernel_rfl) (by kernel_rfl) (by kernel_rfl) (fun _ _ _ h => h) (Or.inl ⟨by rfl, ?hyf8⟩) hS ?restf8
          case hyf8 => (intro w' hSw; go_simp; first | done | with_reducible rfl)
          try simp only [Act.put, List.getElem_toArray, List.getElem_cons_zero, List.getElem_cons_succ, List.setIfInBounds_toArray, List.set_cons_zero, List.set_cons_succ]
          refine wpAnyH_ready (rs := [9]) (by kernel_rfl) (by simp) ?_
          refine AllReadyH.cons rfl (fun K hK => ?_) AllReadyH.nil
          refine step_store_row 94 (.tmp 4) (.tmp 34) rfl rfl (w.heap.size + 1) #[.slice (Option.map (fun y => y.add x) A1) (n1 - x) (c1 - x), .int .i64 0] rfl (by first | rfl | kernel_rfl) _ _ X1.out (by kernel_rfl) rfl (by kernel_rfl) ?_
          obtain ⟨Y, hY⟩ : ∃ W0, Hid (W0 = X.setRow (w.heap.size + 1) #[.slice (Option.map (fun y => y.add x) A1) (n1 - x) (c1 - x), .int .i64 0]) := ⟨_, Lib.hid rfl⟩
          rw [← hY.out]
          have Y1 : Hid (Y.heap[w.heap.size + 1]? = some (.cells #[.slice (Option.map (fun y => y.add x) A1) (n1 - x) (c1 - x), .int .i64 0] 94 (0, 0))) := by unfold Hid; rw [hY.out]; exact setRow_heap _ _ _ _ _ _ X1.out
          have YV : Hid (Y.heap[u.heap.size]? = some (.cells #[.slice A1 n1 c1, .int .i64 0] 94 (0, 0))) := by unfold Hid; rw [hY.out, setRow_other _ _ _ _ (by have h7 := hGw.out; have h8 := Bu.out.size; omega)]; exact XV.out
          have BY : Hid (Below w.heap.size w Y) := by rw [hY.out]; exact below_setRow BX.out (Nat.le_succ _) _
          refine hK.out _ _ YV.out ?_
          intro hS
          clear hK K
          try simp only [Act.put, List.getElem_toArray, List.getElem_cons_zero, List.getElem_cons_succ, List.setIfInBounds_toArray, List.set_cons_zero, List.set_cons_succ]
          refine wpAnyH_take (i := 10) (v := .slice A1 x c1) rfl (by kernel_rfl) (by kernel_rfl) (by kernel_rfl) (fun _ _ _ h => h) (Or.inl ⟨by rfl, ?hyf10⟩) hS ?restf10
          case hyf10 => (intro w' hSw; go_simp; first | done | with_reducible rfl)
          try simp only [Act.put, List.getElem_toArray, List.getElem_cons_zero, List.getElem_cons_succ, List.setIfInBounds_toArray, List.set_cons_zero, List.set_cons_succ]
          refine wpAnyH_done (by kernel_rfl) (NoPanic.normal ?_) _
          go_wp2_with fail
          refine bodyPost_ret (v := .tuple #[.agg #[.slice (Option.map (fun y => y.add x) A1) (n1 - x) (c1 - x), .int .i64 0], .slice A1 x c1]) ?_ rfl ⟨_, _, _, _, _, _, rfl, hcut.out, htk.out, Nat.le_trans hxn.out HA1.out.le, BY.out⟩
          exact results_cell_tmp Try.results71 rfl (run_loadVar_mid (P := Try.prog) Y (w.heap.size + 1) 0 94 _ _ (range_of Y1.out) Try.underlying94 rfl (by kernel_rfl))
  · have he1' : (e1 != 0) = true := by simpa using he1
    have hs : Hid ((tx, ta, te) = ([], a1, e1)) := by
      have h1 := hn1.out
      have h2 := hv.out
      unfold numS at h1
      unfold txtS at h2
      by_cases he : e = 0
      · rw [if_pos he] at h1 h2
        by_cases hf : (nxt (l.drop at_) 0 0).2.2 = 0
        · rw [if_pos hf] at h1
          have h3 := nxt_far (l.drop at_) hf
          rw [if_neg (by omega)] at h1
          exact absurd (triple h1).2.2.symm he1
        · rw [if_neg hf] at h1 h2
          obtain ⟨_, h4, h5⟩ := triple h1
          unfold Hid
          rw [← h2, ← h4, ← h5]
      · rw [if_neg he] at h1 h2
        obtain ⟨_, h4, h5⟩ := triple h1
        unfold Hid
        rw [← h2, ← h4, ← h5]
    obtain ⟨h1, h2, h3⟩ : tx = [] ∧ ta = a1 ∧ te = e1 := by have h := hs.out; injection h with h1 h2; injection h2 with h2 h3; exact ⟨h1, h2, h3⟩
    subst h1 h2 h3
    clear he1
    go_wp2_with (refine wpList_store_row rfl 94 (.tmp 4) (.tmp 16) rfl (w.heap.size + 1) #[.slice A1 n1 c1, .int .i64 te] rfl rfl _ _ RVo.out (by kernel_rfl) rfl (by kernel_rfl) ?_)
    generalize hQ : World.setRow _ _ _ = Qz
    have hQg : Qz.heap[w.heap.size + 1]? = some (.cells #[.slice A1 n1 c1, .int .i64 te] 94 (0, 0)) := by rw [← hQ]; exact setRow_heap _ _ _ _ _ _ RVo.out
    have hQb : Below w.heap.size w Qz := by rw [← hQ]; exact below_setRow BVo.out (Nat.le_succ _) _
    go_wp2_with fail
    refine bodyPost_ret (v := .tuple #[.agg #[.slice A1 n1 c1, .int .i64 te], .slice none 0 0]) ?_ rfl ⟨_, _, _, _, _, _, rfl, HA1.out, Rd.nil _ _ _ _, Nat.le_refl _, hQb⟩
    exact results_cell_tmp Try.results71 rfl (run_loadVar_mid (P := Try.prog) Qz (w.heap.size + 1) 0 94 _ _ (range_of hQg) Try.underlying94 rfl (by kernel_rfl))
end Go.Proofs.Ytabcbpcfleociaa
