/- The document's primes and numbers; the two kinds. -/
import Derived.Test.YtclecmpmohoamaaDoorShaA
import Derived.Test.YtclecmpmohoamaaDoorShaN
namespace Go.Proofs.YtclecmpmohoamaaDoor
open Go.RowKit
set_option linter.unusedSimpArgs false
set_option linter.unusedVariables false

theorem sieve_next (k : Nat) (h : ∀ q ∈ sieve k, (k + 2) % q ≠ 0) : sieve (k + 1) = sieve k ++ [k + 2] := by
  rw [sieve, if_pos]
  rw [List.all_eq_true]
  intro q hq
  exact decide_eq_true (h q hq)
theorem sieve_same (k : Nat) {q : Nat} (hq : q ∈ sieve k) (h : (k + 2) % q = 0) : sieve (k + 1) = sieve k := by
  rw [sieve, if_neg]
  intro h2
  rw [List.all_eq_true] at h2
  exact of_decide_eq_true (h2 q hq) h
theorem Rd.atJ {w : World} {B n k : Nat} {A : Option Addr} {l : List Nat} (h : Rd w B 1 A n (l.map J)) (hk : k < n) :
    ∃ b o x, A = some ⟨b, o, none⟩ ∧ b < B ∧ w.cell? ⟨b, o + k, none⟩ = some (.int .i64 (x : Nat)) ∧ Hid (l[k]? = some x) := by
  obtain ⟨b, o, u, rfl, hb, hu, hc⟩ := h.at_ hk
  obtain ⟨x, hx, rfl⟩ : ∃ x, l[k]? = some x ∧ J x = u := by simpa using hu
  exact ⟨b, o, x, rfl, hb, hc, hx⟩
theorem J_one (l : List Nat) : ∀ u ∈ l.map J, u.oneCell' = true := by
  intro u hu
  obtain ⟨b, _, rfl⟩ := List.mem_map.1 hu
  rfl
theorem U_one (l : List Nat) : ∀ u ∈ l.map U, u.oneCell' = true := by
  intro u hu
  obtain ⟨b, _, rfl⟩ := List.mem_map.1 hu
  rfl
theorem one_cellJ (w : World) (x : Nat) : Rd (w.alloc (.cells #[.int .i64 (x : Int)] 3)) (w.heap.size + 1) 1 (some ⟨w.heap.size, 0, none⟩) 1 ([x].map J) := one_cell w _ _
theorem one_cellU (w : World) (x : Nat) : Rd (w.alloc (.cells #[.int .u64 (x : Int)] 52)) (w.heap.size + 1) 1 (some ⟨w.heap.size, 0, none⟩) 1 ([x].map U) := one_cell w _ _
theorem sieve_len_le (k : Nat) : (sieve k).length ≤ k := by
  induction k with
  | zero => exact Nat.le_refl 0
  | succ k ih =>
    rw [sieve]
    split
    · rw [List.length_append]; exact Nat.succ_le_succ ih
    · exact Nat.le_succ_of_le ih

set_option maxHeartbeats 2000000 in
theorem primes_any (n : Nat) (w : World) (hn : n ≤ 80) :
    Calls Tryd.prog 58 #[.int .i64 n] w fun e w' => ∃ A c, e = .returned (.slice A n c) ∧ w'.ownsRow w.heap.size 3 1 (.slice A n c) n ((primesD n).map J) ∧ Below w.heap.size w w' := by
  go_enter Tryd.func58, Tryd.ntmps58
  go_wp2_with fail
  go_loopw [3, 4, 5, 6] (fun v3 v4 _ _ wr => ∃ (k : Nat) (A : Option Addr) (c : Nat), v3 = .slice A (sieve k).length c ∧ v4 = .int .i64 ((k : Int) + 2) ∧ Hid (k ≤ 408) ∧ (sieve k).length ≤ n ∧ wr.ownsRow w.heap.size 3 1 (.slice A (sieve k).length c) (sieve k).length ((sieve k).map J) ∧ Below w.heap.size w wr) (fun _ v4 _ _ _ => 500 - (intOf v4).toNat)
  case atStart => exact ⟨0, none, 0, rfl, rfl, by simp [Hid], by simp [sieve], World.ownsRow_nil _ _ _ _, Below.refl _ _⟩
  case round =>
    obtain ⟨k, A, c, rfl, rfl, hk, hl, ho, hb⟩ := hrel
    by_cases hlt : (sieve k).length < n
    · have hk8 : k < 408 := by
        rcases Nat.lt_or_ge k 408 with h | h
        · exact h
        · have : k = 408 := by have := hk.out; omega
          subst this
          rw [sieve_full] at hlt; omega
      have hr := Rd.of_own ho
      have hbd := Lib.hid (sieve_bd k)
      go_wp2_with fail
      go_loopw [5, 6] (fun v5 v6 wr' => ∃ (i q : Nat), wr = wr' ∧ v5 = .int .i64 q ∧ v6 = .int .i64 i ∧ i ≤ (sieve k).length ∧ Hid ((q = k + 2 ∧ ∀ j x, j < i → (sieve k)[j]? = some x → (k + 2) % x ≠ 0) ∨ (q ≠ k + 2 ∧ ∃ x ∈ sieve k, (k + 2) % x = 0))) (fun _ v6 _ => (sieve k).length - (intOf v6).toNat)
      case atStart => exact ⟨0, k + 2, rfl, by congr 1, rfl, Nat.zero_le _, .inl ⟨rfl, fun j x h => by omega⟩⟩
      case round =>
        obtain ⟨i, q, rfl, rfl, rfl, hi, hq⟩ := hrel
        have hk2 := hk.out
        have hwp : IntKind.i64.wrap ((k : Int) + 2 + 1) = (k : Int) + 1 + 2 := by rw [IntWalk.i64_in _ (by omega)]; omega
        by_cases hgo : i < (sieve k).length ∧ q = k + 2
        · obtain ⟨hil, rfl⟩ := hgo
          have hq1 : ∀ j x, j < i → (sieve k)[j]? = some x → (k + 2) % x ≠ 0 := by
            rcases hq.out with h | h
            · exact h.2
            · exact absurd rfl h.1
          have Hq := Lib.hid hq1
          clear hq1 hq
          obtain ⟨b, o, x, rfl, hbl, hc, hx⟩ := hr.atJ hil
          have hxb := hbd.out x (List.mem_of_getElem? hx.out)
          have hx0 : ¬ (x : Int) = 0 := by omega
          have hi1 : (0 : Int) ≤ i := by omega
          have hi2 : (i : Int) < ((sieve k).length : Int) := by omega
          have hm : ((k : Int) + 2).tmod (x : Int) = (((k + 2) % x : Nat) : Int) := by
            rw [show (k : Int) + 2 = ((k + 2 : Nat) : Int) by omega]; exact modU _ _
          have hw1 : IntKind.i64.wrap ((i : Int) + 1) = ((i + 1 : Nat) : Int) := by rw [IntWalk.i64_in _ (by have := sieve_len_le k; omega)]; omega
          have he : ((k + 2 : Nat) : Int) = (k : Int) + 2 := by omega
          obtain ⟨r, hr0⟩ : ∃ r, (k + 2) % x = r := ⟨_, rfl⟩
          rw [hr0] at hm
          have Hr := Lib.hid hr0
          clear hr0
          by_cases hz : r = 0
          · subst hz
            go_wp2_with fail
            refine ⟨⟨i + 1, x, trivial, rfl, by go_num, by omega, .inr ⟨by omega, x, List.mem_of_getElem? hx.out, Hr.out⟩⟩, by simp only [intOf]; omega⟩
          · have hz' : ¬ (r : Int) = 0 := by omega
            go_wp2_with fail
            refine ⟨⟨i + 1, k + 2, trivial, rfl, by go_num, by omega, .inl ⟨rfl, fun j y hj hy => ?_⟩⟩, by simp only [intOf]; omega⟩
            by_cases hji : j = i
            · subst hji
              have := hx.out
              rw [hy] at this
              injection this with this
              rw [this, Hr.out]; exact hz
            · exact Hq.out j y (by omega) hy
        · by_cases hqk : q = k + 2
          · subst hqk
            obtain rfl : i = (sieve k).length := by omega
            have he : ((k + 2 : Nat) : Int) = (k : Int) + 2 := by omega
            have hnx : sieve (k + 1) = sieve k ++ [k + 2] := by
              refine sieve_next k fun y hy => ?_
              rcases hq.out with h | h
              · obtain ⟨j, hj⟩ := List.mem_iff_getElem?.1 hy
                refine h.2 j y ?_ hj
                rcases Nat.lt_or_ge j (sieve k).length with h' | h'
                · exact h'
                · rw [List.getElem?_eq_none h'] at hj; cases hj
              · exact absurd rfl h.1
            have Hnx := Lib.hid hnx
            clear hnx
            have hsl := sieve_len_le k
            go_wp2_with (at_builtin
                         refine wpList_app rfl (.tmp 39) (.tmp 41) _ rfl w.heap.size 3 1 8 _ Tryd.underlying81 infoI rfl (by omega) _ _ _ rfl (ho.alloc _) (wr.heap.size + 1) (some ⟨wr.heap.size, 0, none⟩) 1 1 _ rfl (one_cell wr _ (.int .i64 ((k : Int) + 2))) (by simp; rfl) (by simp only [maxLen]; omega) (by omega) (by simp; exact Nat.le_succ_of_le hb.size) ?_
                         intro A2 c2 w2 h2 hg2 _
                         have hb2 : Below w.heap.size w w2 := (hb.alloc hb.size _).grown hg2 (by simp; exact Nat.le_succ_of_le hb.size) (fun k hk => (ho.lt k hk).1))
            have e1 : (sieve (k + 1)).length = (sieve k).length + 1 := by rw [Hnx.out]; simp
            have e2 : (sieve k).map J ++ [Value.int .i64 ((k : Int) + 2)] = (sieve (k + 1)).map J := by rw [Hnx.out]; simp [J]
            rw [e2, ← e1] at h2
            refine ⟨⟨k + 1, A2, c2, by rw [e1], by congr 1, by have := hk.out; exact (by omega : k + 1 ≤ 408), by omega, h2, hb2⟩, by simp only [intOf]; omega⟩
          · have he : ¬ (q : Int) = (k : Int) + 2 := by omega
            have hsm : sieve (k + 1) = sieve k := by
              rcases hq.out with h | h
              · exact absurd h.1 hqk
              · obtain ⟨x, hx, hz⟩ := h.2
                exact sieve_same k hx hz
            have Hsm := Lib.hid hsm
            clear hsm
            by_cases hil : i < (sieve k).length
            · go_wp2_with fail
              refine ⟨⟨k + 1, A, c, by rw [Hsm.out], by congr 1, (by omega : k + 1 ≤ 408), by rw [Hsm.out]; exact hl, by rw [Hsm.out]; exact ho, hb⟩, by simp only [intOf]; omega⟩
            · go_wp2_with fail
              refine ⟨⟨k + 1, A, c, by rw [Hsm.out], by congr 1, (by omega : k + 1 ≤ 408), by rw [Hsm.out]; exact hl, by rw [Hsm.out]; exact ho, hb⟩, by simp only [intOf]; omega⟩
    · obtain rfl : (sieve k).length = n := by omega
      go_wp2_with fail
      go_ret
      exact ⟨A, c, rfl, by rw [← sieve_take hk.out rfl]; exact ho, hb⟩

theorem root_any (p pw : Nat) (w : World) (hp : p ≤ 1000) (hw : pw = 2 ∨ pw = 3) :
    Calls Tryd.prog 59 #[.int .i64 p, .int .i64 pw] w fun e w' => e = .returned (.int .u64 (rootD p pw : Nat)) ∧ Below w.heap.size w w' ∧ rootD p pw < 18446744073709551616 := by
  rcases hw with rfl | rfl
  · exact root_2 p w hp
  · exact root_3 p w hp
theorem primes_length (n : Nat) (h : n ≤ 80) : (primesD n).length = n := by
  rw [primesD, List.length_take, sieve_full]; omega
theorem primes_bd {n q : Nat} (h : q ∈ primesD n) : q ≤ 409 := by
  have := sieve_bd 408 q (List.mem_of_mem_take h)
  omega

set_option maxHeartbeats 2000000 in
theorem numbers_32 (n pw : Nat) (w : World) (hn : n ≤ 80) (hpw : pw = 2 ∨ pw = 3) :
    Calls Tryd.prog 50 #[.int .i64 n, .int .i64 pw, .int .i64 32] w fun e w' => ∃ A c, e = .returned (.slice A n c) ∧ w'.ownsRow w.heap.size 52 1 (.slice A n c) n ((numsD n pw 32).map U) ∧ Below w.heap.size w w' := by
  go_enter Tryd.func50, Tryd.ntmps50
  go_wp2_with fail
  refine (primes_any n _ hn).mono ?_; rintro e w1 ⟨A1, c1, rfl, ho1, hb1⟩
  have hr1 := Rd.of_own ho1
  have hpl := Lib.hid (primes_length n hn)
  go_wp2_with fail
  go_loopw [7, 9, 10] (fun v7 v9 _ wr => ∃ (i : Nat) (A : Option Addr) (c : Nat), v7 = .slice A i c ∧ v9 = .int .i64 i ∧ i ≤ n ∧ wr.ownsRow w1.heap.size 52 1 (.slice A i c) i (((primesD n).take i).map (U ∘ numD 32 pw)) ∧ Below w1.heap.size w1 wr) (fun _ v9 _ _ => n - (intOf v9).toNat)
  case atStart => exact ⟨0, none, 0, rfl, rfl, Nat.zero_le _, World.ownsRow_nil _ _ _ _, Below.refl _ _⟩
  case round =>
    obtain ⟨i, A, c, rfl, rfl, hi, ho, hb⟩ := hrel
    by_cases hlt : i < n
    · obtain ⟨b, o, p, rfl, hbl, hc, hp⟩ := (hr1.below hb).atJ hlt
      have hp9 := primes_bd (List.mem_of_getElem? hp.out)
      have hi1 : (0 : Int) ≤ i := by omega
      have hi2 : (i : Int) < (n : Int) := by omega
      have hw1 : IntKind.i64.wrap ((i : Int) + 1) = ((i + 1 : Nat) : Int) := by rw [IntWalk.i64_in _ (by omega)]; omega
      have e2 : ((primesD n).take i).map (U ∘ numD 32 pw) ++ [U (numD 32 pw p)] = ((primesD n).take (i + 1)).map (U ∘ numD 32 pw) := by
        rw [List.take_add_one, hp.out]; simp
      have E2 := Lib.hid e2
      clear e2
      go_wp2_with fail
      refine (root_any p pw _ (by omega) hpw).mono ?_; rintro e w2 ⟨he, hb2, hx64⟩
      have ho2 := own_to ho hb2
      have hbb := hb.trans (hb2.mono hb.size)
      obtain ⟨x, hx⟩ : ∃ x, rootD p pw = x := ⟨_, rfl⟩
      rw [hx] at he hx64
      subst he
      have Hx := Lib.hid hx
      clear hx
      have hq : IntKind.u64.wrap ((x : Int) / 4294967296) = (x : Int) / 4294967296 := by rw [IntKind.wrap_u64]; omega
      have Hv : Hid (numD 32 pw p = x / 4294967296) := by unfold Hid numD; rw [if_pos rfl, Hx.out]
      go_wp2_with (at_builtin
                   refine wpList_app rfl (.tmp 29) (.tmp 31) _ rfl w1.heap.size 52 1 8 _ Tryd.underlying48 info64 rfl (by omega) _ _ _ rfl (ho2.alloc _) (w2.heap.size + 1) (some ⟨w2.heap.size, 0, none⟩) 1 1 _ rfl (one_cell w2 _ (.int .u64 ((x : Int) / 4294967296))) (by simp; rfl) (by simp only [maxLen]; omega) (by omega) (by simp; exact Nat.le_succ_of_le hbb.size) ?_
                   intro A2 c2 w3 h3 hg3 _
                   have hb3 : Below w1.heap.size w1 w3 := (hbb.alloc hbb.size _).grown hg3 (by simp; exact Nat.le_succ_of_le hbb.size) (fun k hk => (ho2.lt k hk).1))
      rw [show Value.int .u64 ((x : Int) / 4294967296) = U (numD 32 pw p) by rw [Hv.out]; rfl, E2.out] at h3
      go_roundw
      case rel => exact ⟨i + 1, A2, c2, rfl, by go_num, by omega, h3, hb3⟩
      case measure => simp only [intOf]; omega
    · obtain rfl : i = n := by omega
      go_wp2_with fail
      go_ret
      refine ⟨A, c, rfl, ?_, hb1.trans (hb.mono hb1.size)⟩
      rw [List.take_of_length_le (by rw [hpl.out]; omega)] at ho
      rw [numsD, List.map_map]
      exact own_mono ho hb1.size
set_option maxHeartbeats 2000000 in
theorem numbers_64 (n pw : Nat) (w : World) (hn : n ≤ 80) (hpw : pw = 2 ∨ pw = 3) :
    Calls Tryd.prog 50 #[.int .i64 n, .int .i64 pw, .int .i64 64] w fun e w' => ∃ A c, e = .returned (.slice A n c) ∧ w'.ownsRow w.heap.size 52 1 (.slice A n c) n ((numsD n pw 64).map U) ∧ Below w.heap.size w w' := by
  go_enter Tryd.func50, Tryd.ntmps50
  go_wp2_with fail
  refine (primes_any n _ hn).mono ?_; rintro e w1 ⟨A1, c1, rfl, ho1, hb1⟩
  have hr1 := Rd.of_own ho1
  have hpl := Lib.hid (primes_length n hn)
  go_wp2_with fail
  go_loopw [7, 9, 10] (fun v7 v9 _ wr => ∃ (i : Nat) (A : Option Addr) (c : Nat), v7 = .slice A i c ∧ v9 = .int .i64 i ∧ i ≤ n ∧ wr.ownsRow w1.heap.size 52 1 (.slice A i c) i (((primesD n).take i).map (U ∘ numD 64 pw)) ∧ Below w1.heap.size w1 wr) (fun _ v9 _ _ => n - (intOf v9).toNat)
  case atStart => exact ⟨0, none, 0, rfl, rfl, Nat.zero_le _, World.ownsRow_nil _ _ _ _, Below.refl _ _⟩
  case round =>
    obtain ⟨i, A, c, rfl, rfl, hi, ho, hb⟩ := hrel
    by_cases hlt : i < n
    · obtain ⟨b, o, p, rfl, hbl, hc, hp⟩ := (hr1.below hb).atJ hlt
      have hp9 := primes_bd (List.mem_of_getElem? hp.out)
      have hi1 : (0 : Int) ≤ i := by omega
      have hi2 : (i : Int) < (n : Int) := by omega
      have hw1 : IntKind.i64.wrap ((i : Int) + 1) = ((i + 1 : Nat) : Int) := by rw [IntWalk.i64_in _ (by omega)]; omega
      have e2 : ((primesD n).take i).map (U ∘ numD 64 pw) ++ [U (numD 64 pw p)] = ((primesD n).take (i + 1)).map (U ∘ numD 64 pw) := by
        rw [List.take_add_one, hp.out]; simp
      have E2 := Lib.hid e2
      clear e2
      go_wp2_with fail
      refine (root_any p pw _ (by omega) hpw).mono ?_; rintro e w2 ⟨he, hb2, hx64⟩
      have ho2 := own_to ho hb2
      have hbb := hb.trans (hb2.mono hb.size)
      obtain ⟨x, hx⟩ : ∃ x, rootD p pw = x := ⟨_, rfl⟩
      rw [hx] at he hx64
      subst he
      have Hx := Lib.hid hx
      clear hx
      have Hv : Hid (numD 64 pw p = x) := by unfold Hid numD; rw [if_neg (by decide), Hx.out]
      go_wp2_with (at_builtin
                   refine wpList_app rfl (.tmp 29) (.tmp 31) _ rfl w1.heap.size 52 1 8 _ Tryd.underlying48 info64 rfl (by omega) _ _ _ rfl (ho2.alloc _) (w2.heap.size + 1) (some ⟨w2.heap.size, 0, none⟩) 1 1 _ rfl (one_cell w2 _ (.int .u64 (x : Int))) (by simp; rfl) (by simp only [maxLen]; omega) (by omega) (by simp; exact Nat.le_succ_of_le hbb.size) ?_
                   intro A2 c2 w3 h3 hg3 _
                   have hb3 : Below w1.heap.size w1 w3 := (hbb.alloc hbb.size _).grown hg3 (by simp; exact Nat.le_succ_of_le hbb.size) (fun k hk => (ho2.lt k hk).1))
      rw [show Value.int .u64 (x : Int) = U (numD 64 pw p) by rw [Hv.out]; rfl, E2.out] at h3
      go_roundw
      case rel => exact ⟨i + 1, A2, c2, rfl, by go_num, by omega, h3, hb3⟩
      case measure => simp only [intOf]; omega
    · obtain rfl : i = n := by omega
      go_wp2_with fail
      go_ret
      refine ⟨A, c, rfl, ?_, hb1.trans (hb.mono hb1.size)⟩
      rw [List.take_of_length_le (by rw [hpl.out]; omega)] at ho
      rw [numsD, List.map_map]
      exact own_mono ho hb1.size
end Go.Proofs.YtclecmpmohoamaaDoor
