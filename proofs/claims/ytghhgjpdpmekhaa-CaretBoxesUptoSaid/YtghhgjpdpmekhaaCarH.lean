/- The walk of the law CaretBoxes. -/
import Derived.Test.YtghhgjpdpmekhaaCarG
namespace Go.Proofs.Ytghhgjpdpmekhaa
open Go.RowKit

theorem box_both (s : ByteArray) (cols i k : Int) (hs : s.size ≤ 1048576) : ∃ (P Q : Pen) (c : Int),
    ((0 ≤ P.1 ∧ P.1 ≤ 200) ∧ (0 ≤ P.2 ∧ P.2 ≤ 1048576)) ∧ ((0 ≤ Q.1 ∧ Q.1 ≤ 200) ∧ (0 ≤ Q.2 ∧ Q.2 ≤ 1048576)) ∧
    (∀ w, Calls Try.prog 29 #[.string s, .int .i64 cols, .int .i64 i, .int .i64 k] w fun e w' => e = .returned (.tuple #[.complex .f64 (fl P.1) (fl P.2), .complex .f64 (fl Q.1) (fl Q.2), .int .i64 c]) ∧ Below w.heap.size w w') ∧
    (∀ w, Calls Try.prog 30 #[.string s, .int .i64 cols, .int .i64 i, .int .i64 k] w fun e w' => e = .returned (.tuple #[.agg #[.int .i64 P.1, .int .i64 P.2], .agg #[.int .i64 Q.1, .int .i64 Q.2], .int .i64 c]) ∧ Below w.heap.size w w') := by
  have hz : fl 0 = 0 := fl_zero
  have hb0 : ((0 : Int) ≤ 0 ∧ (0 : Int) ≤ 200) ∧ ((0 : Int) ≤ 0 ∧ (0 : Int) ≤ 1048576) := by omega
  by_cases hc : 2 ≤ cols ∧ cols ≤ 200
  · obtain ⟨h1, h2⟩ := hc
    by_cases h : i < 0 ∨ k < i ∨ ((carets s cols).length : Int) ≤ k
    · refine ⟨(0, 0), (0, 0), 6, hb0, hb0, fun w => ?_, fun w => ?_⟩
      · simp only [hz]; exact box_range s cols i k w h1 h2 hs h
      · exact refBox_range s cols i k w h1 h2 hs h
    · have hL := carets_bd s cols h1 h2 hs
      obtain ⟨a, rfl⟩ : ∃ a : Nat, i = a := ⟨i.toNat, by omega⟩
      obtain ⟨b, rfl⟩ : ∃ b : Nat, k = b := ⟨k.toNat, by omega⟩
      exact ⟨boxTo min (carets s cols) a (b + 1 - a), boxTo max (carets s cols) a (b + 1 - a), 0, boxTo_bd min min_or _ hL a _, boxTo_bd max max_or _ hL a _,
        fun w => box_any s cols a b w h1 h2 hs (by omega) (by omega), fun w => refBox_any s cols a b w h1 h2 hs (by omega) (by omega)⟩
  · have hno : cols < 2 ∨ 200 < cols := by omega
    refine ⟨(0, 0), (0, 0), 6, hb0, hb0, fun w => ?_, fun w => ?_⟩
    · simp only [hz]; exact (box_no s cols i k w hno).mono fun e w' ⟨he, hw⟩ => ⟨he, by subst hw; exact Below.refl _ _⟩
    · exact refBox_no s cols i k w hno

set_option maxHeartbeats 2000000 in
theorem caretBoxes_walk (s : ByteArray) (cols i k : Int) (w : World) (hs : s.size ≤ 1048576) : Calls Try.prog 12 #[.agg #[.string s, .int .i64 cols, .int .i64 i, .int .i64 k]] w fun e w' => e = .returned (.bool true) ∧ Below w.heap.size w w' := by
  obtain ⟨P, Q, c, hP, hQ, cb, cr⟩ := box_both s cols i k hs
  obtain ⟨⟨p1, p2⟩, p3, p4⟩ := hP
  obtain ⟨⟨q1, q2⟩, q3, q4⟩ := hQ
  go_enter Try.func12, Try.ntmps12
  go_wp2_with fail
  refine (cb _).mono ?_; rintro e w1 ⟨rfl, hb1⟩
  have hc0 : (w.alloc (.cells #[.string s, .int .i64 cols, .int .i64 i, .int .i64 k] 50)).heap[w.heap.size]? = some (.cells #[.string s, .int .i64 cols, .int .i64 i, .int .i64 k] 50 (0, 0)) := heap_alloc_new w _
  have hc1 := (hb1.block w.heap.size (by simp)).trans hc0
  have c0 : w1.cell? ⟨w.heap.size, 0, none⟩ = some (.string s) := by simp [World.cell?, hc1]
  have c1 : w1.cell? ⟨w.heap.size, 1, none⟩ = some (.int .i64 cols) := by simp [World.cell?, hc1]
  have c2 : w1.cell? ⟨w.heap.size, 2, none⟩ = some (.int .i64 i) := by simp [World.cell?, hc1]
  have c3 : w1.cell? ⟨w.heap.size, 3, none⟩ = some (.int .i64 k) := by simp [World.cell?, hc1]
  go_wp2_with fail
  refine (cr _).mono ?_; rintro e w2 ⟨rfl, hb2⟩
  go_wp2_with fail
  refine (is_any P.1 P.2 _ (by omega) (by omega)).mono ?_; rintro e w3 ⟨rfl, rfl⟩
  go_wp2_with fail
  refine (is_any Q.1 Q.2 _ (by omega) (by omega)).mono ?_; rintro e w3 ⟨rfl, rfl⟩
  go_wp2_with fail
  refine (awake17 _).mono ?_; rintro e w5 ⟨rfl, hb5⟩
  go_wp2_with fail
  go_ret
  have q1 : Below w.heap.size w w1 := ((Below.refl _ _).alloc (Nat.le_refl _) _).trans (hb1.mono (by simp))
  have q2 := q1.trans (hb2.mono q1.size)
  have q3 := (((q2.alloc q2.size (.cells #[.int .i64 P.1, .int .i64 P.2] 42)).alloc (Nat.le_trans q2.size (by simp)) (.cells #[.int .i64 Q.1, .int .i64 Q.2] 42)).alloc (Nat.le_trans q2.size (by simp; omega)) (.cells #[.int .i64 P.1, .int .i64 P.2] 42)).alloc (Nat.le_trans q2.size (by simp; omega)) (.cells #[.int .i64 Q.1, .int .i64 Q.2] 42)
  exact ⟨rfl, q3.trans (hb5.mono q3.size)⟩
end Go.Proofs.Ytghhgjpdpmekhaa
