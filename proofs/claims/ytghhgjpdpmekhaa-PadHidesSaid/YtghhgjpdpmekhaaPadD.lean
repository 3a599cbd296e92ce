/- The contract of the law's own awake. -/
import Derived.Test.YtghhgjpdpmekhaaPadC
namespace Go.Proofs.Ytghhgjpdpmekhaa
open Go.RowKit

theorem own_cap {w : World} {base e size n c : Nat} {A : Option Addr} {xs : List Value} (h : w.ownsRow base e size (.slice A n c) n xs) : n ≤ c := by
  rcases h.2 with ⟨hv, h0⟩ | ⟨g, cap, cur, hv, _, _, hnc, _⟩
  · omega
  · injection hv with _ _ h3; omega
theorem own_addr {w : World} {base e size n c : Nat} {A : Option Addr} {xs : List Value} (h : w.ownsRow base e size (.slice A n c) n xs) (hn : 0 < n) : ∃ g, A = some ⟨g, 0, none⟩ ∧ base ≤ g ∧ g < w.heap.size := by
  rcases h.2 with ⟨hv, h0⟩ | ⟨g, cap, cur, hv, hb, hg, hnc, _⟩
  · omega
  · injection hv with h1 _ _
    subst h1
    exact ⟨g, rfl, h.lt g rfl⟩

theorem padBucket_64 (w : World) : Calls Try.prog 13 #[.int .i64 64] w fun e w' => e = .returned (.tuple #[.int .i64 128, .int .i64 0]) ∧ w = w' := padBucket_any 64 w
theorem padNil_len : (padL []).length = 64 := by decide
theorem padNil_0 : (padL [])[0]? = some 128 := by decide

theorem pad_nil (w : World) : Calls Try.prog 17 #[.slice none 0 0] w fun e w' => ∃ g c, e = .returned (.tuple #[.slice (some ⟨g, 0, none⟩) 64 c, .int .i64 0]) ∧ 64 ≤ c ∧ w.heap.size ≤ g ∧ g < w'.heap.size ∧ Rd w' w'.heap.size 1 (some ⟨g, 0, none⟩) 64 ((padL []).map B8) ∧ w'.cell? ⟨g, 0, none⟩ = some (.int .u8 128) ∧ Below w.heap.size w w' := by
  refine (pad_ok none 0 0 [] w (Rd.nil _ _ _ _) (by simp)).mono ?_
  rintro e w' ⟨A, c, rfl, h, hb⟩
  rw [padNil_len] at h ⊢
  obtain ⟨g, rfl, h1, h2⟩ := own_addr h (by omega)
  refine ⟨g, c, rfl, own_cap h, h1, h2, Rd.of_own h, ?_, hb⟩
  rw [h.cellAt 0 (by omega), List.getElem?_map, padNil_0]; rfl

theorem unpad_nil (A : Option Addr) (c : Nat) (w : World) (h : Rd w w.heap.size 1 A 64 ((padL []).map B8)) (hc : 64 ≤ c) : Calls Try.prog 19 #[.slice A 64 c] w fun e w' => ∃ A' c', e = .returned (.tuple #[.slice A' 0 c', .int .i64 0]) ∧ Below w.heap.size w w' := by
  have hu := unp_pad [] (by simp)
  refine (unpad_any A 64 c (padL []) w h hc (by omega)).mono ?_
  rintro e w' ⟨A, c, rfl, h, hb⟩
  rw [hu.1, hu.2]
  exact ⟨A, c, rfl, hb⟩

theorem awake_any (w : World) : Calls Try.prog 15 #[] w fun e w' => e = .returned (.bool true) ∧ Below w.heap.size w w' := by
  go_enter Try.func15, Try.ntmps15
  go_wp2_with (first
    | (go_at_call 13; refine (padBucket_64 _).mono ?_; rintro e w' ⟨rfl, rfl⟩)
    | (go_at_call 17; refine (pad_nil _).mono ?_; rintro e w1 ⟨g, c, rfl, hc, hg1, hg2, hr1, hcell, hb1⟩)
    | (go_at_call 19; refine (unpad_nil _ c _ hr1 hc).mono ?_; rintro e w2 ⟨A2, c2, rfl, hb2⟩
       have hcell2 : w2.cell? ⟨g, 0, none⟩ = some (.int .u8 128) := (hb2.cell (p := ⟨g, 0, none⟩) hg2).trans hcell))
  go_ret
  exact ⟨rfl, hb1.trans (hb2.mono hb1.size)⟩

theorem padBuckets_walk (n : Int) (w : World) (_ : (Lit.int .i64 n).wf = true) : Calls Try.prog 3 #[.int .i64 n] w fun e w' => e = .returned (.bool true) ∧ Below w.heap.size w w' := by
  go_enter Try.func3, Try.ntmps3
  go_wp2_with (first
    | (go_at_call 13; refine (padBucket_any _ _).mono ?_; rintro e w' ⟨rfl, rfl⟩)
    | (go_at_call 14; refine (refBucket_any _ _).mono ?_; rintro e w' ⟨rfl, rfl⟩)
    | (go_at_call 15; refine (awake_any _).mono ?_; rintro e w3 ⟨rfl, hb3⟩))
  go_ret
  exact ⟨rfl, hb3⟩
end Go.Proofs.Ytghhgjpdpmekhaa
