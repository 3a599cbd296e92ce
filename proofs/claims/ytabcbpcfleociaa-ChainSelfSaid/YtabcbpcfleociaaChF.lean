/- bytes.Equal, New; a book's Check. -/
import Derived.Test.YtabcbpcfleociaaChE
namespace Go.Proofs.Ytabcbpcfleociaa
open Go.RowKit Go.Maps
attribute [local go_sem ↓] Go.wp_at_zero Go.wp_at_succ
set_option linter.unusedSimpArgs false
set_option linter.unusedVariables false
theorem eq_str (a b : List UInt8) : ((str a).toList == (str b).toList) = decide (a = b) := by
  rw [str_toList, str_toList, Bool.eq_iff_iff]; simp
set_option maxHeartbeats 1000000 in
theorem equal_ (A : Option Addr) (n c : Nat) (l : List UInt8) (A' : Option Addr) (n' c' : Nat) (l' : List UInt8) (w : World) (hr : Rd w w.heap.size 1 A n (l.map B8)) (hr' : Rd w w.heap.size 1 A' n' (l'.map B8)) :
    Calls Try.prog 56 #[.slice A n c, .slice A' n' c'] w fun e w' => e = .returned (.bool (decide (l = l'))) ∧ w' = w := by
  have h1 := conv8 w A n c l hr
  have h2 := conv8 w A' n' c' l' hr'
  go_enter Try.func56, Try.ntmps56
  go_wp2_with fail
  go_ret
  refine ⟨?_, rfl⟩
  show Ending.returned (Value.bool ((str l).toList == (str l').toList)) = _
  rw [eq_str]
set_option maxHeartbeats 1000000 in
theorem new_ (w : World) : Calls Try.prog 52 #[] w fun e w' => ∃ g own, e = .returned (.pointer (some ⟨g, 0, none⟩)) ∧ BookAt w' g [] own [] ∧ (∀ k, k ∈ own → w.heap.size ≤ k) ∧ Below w.heap.size w w' := by
  have hmm := @run_makeMap Try.prog
  have h1 : (w.alloc (.map #[] 0)).heap.size = w.heap.size + 1 := szAlloc _ _
  have HB : Hid (Below w.heap.size w ((w.alloc (.map #[] 0)).alloc (.cells #[.map (some w.heap.size)] 105))) := ((Below.refl _ _).alloc (Nat.le_refl _) _).alloc (by rw [szAlloc]; omega) _
  have HK : Hid (BookAt ((w.alloc (.map #[] 0)).alloc (.cells #[.map (some w.heap.size)] 105)) (w.heap.size + 1) [] [w.heap.size + 1, w.heap.size] []) := by
    refine ⟨w.heap.size, 0, fun _ => .slice none 0 0, ⟨?_, ?_, Nat.zero_le _, by simp, fun a => ⟨none, 0, rfl, Nat.le_refl _, ⟨Rd.nil _ _ _ _, fun b o h => absurd h (by simp [ofA_nil])⟩⟩, Bk.ok.nil, by simp, by simp, fun k hk => ?_⟩⟩
    · have h := heap_alloc_new (w.alloc (.map #[] 0)) (.cells #[.map (some w.heap.size)] 105)
      rw [h1] at h
      exact h
    · exact (MapV.made Try.prog 3 w (.slice none 0 0)).same (heap_alloc_old _ _ (by rw [szAlloc]; exact Nat.lt_succ_self _))
    · rw [szAlloc, h1]
      simp at hk
      omega
  clear h1
  go_enter Try.func52, Try.ntmps52
  go_wp2_with fail
  go_ret
  refine ⟨w.heap.size + 1, [w.heap.size + 1, w.heap.size], ?_, HK.out, fun k hk => ?_, HB.out⟩
  · first | rfl | simp [szAlloc]
  · simp at hk; omega
theorem checkE_old {S : Bk} {hs : List (List UInt8)} {l : Ln} {k : Kn} (hr : rightL l) (h : l.sq ≤ (ofA S l.au).length) (hk : (ofA S l.au)[(l.sq - 1).toNat]? = some k) : checkE S hs l = if k.dg = digL hs l then 16 else 18 := by
  unfold checkE
  rw [if_pos hr, if_pos h, hk]
  simp
theorem checkE_gap {S : Bk} {hs : List (List UInt8)} {l : Ln} (hr : rightL l) (h : ((ofA S l.au).length : Int) + 1 < l.sq) : checkE S hs l = 15 := by
  unfold checkE
  rw [if_pos hr, if_neg (by omega), if_pos h]
theorem checkE_next {S : Bk} {hs : List (List UInt8)} {l : Ln} (hr : rightL l) (h : l.sq = (ofA S l.au).length + 1) : checkE S hs l = if lastDg (ofA S l.au) = l.pv then if l.ep < lastEp (ofA S l.au) then 20 else 0 else 17 := by
  unfold checkE
  rw [if_pos hr, if_neg (by omega), if_neg (by omega)]
theorem checkE_bad {S : Bk} {hs : List (List UInt8)} {l : Ln} (hr : ¬ rightL l) : checkE S hs l = 1 := by
  unfold checkE
  rw [if_neg hr]
theorem checkH_old {S : Bk} {hs : List (List UInt8)} {l : Ln} (hr : rightL l) (h : l.sq ≤ (ofA S l.au).length) : checkH S hs l = note hs (bytesL l) := if_pos ⟨hr, h⟩
theorem checkH_new {S : Bk} {hs : List (List UInt8)} {l : Ln} (h : ¬ (rightL l ∧ l.sq ≤ (ofA S l.au).length)) : checkH S hs l = hs := if_neg h
end Go.Proofs.Ytabcbpcfleociaa
