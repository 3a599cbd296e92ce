/- The contracts of a reader: those of a reader that is not there, or that nobody made; Fail, Flag, End; awake. -/
import Derived.Test.YtfobjpngajhdkaaWirC
namespace Go.Proofs.Ytfobjpngajhdkaa
open Go.RowKit

/-- A reader that nobody made. -/
def Plain (w : World) (g : Nat) : Prop := w.heap[g]? = some (.cells #[.slice none 0 0, .int .i64 0, .bool false, .int .i64 0] 45 (0, 0))
theorem Plain.c0 {w : World} {g : Nat} (h : Plain w g) : w.cell? ⟨g, 0, none⟩ = some (.slice none 0 0) := by unfold Plain at h; simp [World.cell?, h]
theorem Plain.c1 {w : World} {g : Nat} (h : Plain w g) : w.cell? ⟨g, 1, none⟩ = some (.int .i64 0) := by unfold Plain at h; simp [World.cell?, h]
theorem Plain.c2 {w : World} {g : Nat} (h : Plain w g) : w.cell? ⟨g, 2, none⟩ = some (.bool false) := by unfold Plain at h; simp [World.cell?, h]
/-- No reader: none there, or one that nobody made. -/
inductive NoR (w : World) : Value → Prop
  | nil : NoR w (.pointer none)
  | plain (g : Nat) : Plain w g → NoR w (.pointer (some ⟨g, 0, none⟩))

theorem fine_nobody {w : World} {v : Value} (h : NoR w v) : Calls Try.prog 26 #[v] w fun r w' => r = .returned (.bool false) ∧ w = w' := by
  rcases h with _ | ⟨g, h⟩
  · exact fine_nil w
  · exact fine_plain g w h.c2
theorem fail_nobody {w : World} {v : Value} (h : NoR w v) (e : Int) : Calls Try.prog 22 #[v, .int .i64 e] w fun r w' => r = .returned undef ∧ w = w' := by
  go_enter Try.func22, Try.ntmps22
  go_wp2_with fail
  refine (fine_nobody h).mono ?_; rintro r w1 ⟨rfl, rfl⟩
  go_wp2_with fail
  go_returns
  exact ⟨rfl, rfl⟩
theorem number_nobody {w : World} {v : Value} (h : NoR w v) (a b : Int) : Calls Try.prog 17 #[v, .int .i64 a, .int .i64 b] w fun r w' => r = .returned (.int .i64 0) ∧ w = w' := by
  go_enter Try.func17, Try.ntmps17
  go_wp2_with fail
  refine (fine_nobody h).mono ?_; rintro r w1 ⟨rfl, rfl⟩
  go_wp2_with fail
  go_ret
  exact ⟨rfl, rfl⟩
theorem text_nobody {w : World} {v : Value} (h : NoR w v) (a : Int) : Calls Try.prog 19 #[v, .int .i64 a] w fun r w' => r = .returned (.slice none 0 0) ∧ w = w' := by
  go_enter Try.func19, Try.ntmps19
  go_wp2_with fail
  refine (fine_nobody h).mono ?_; rintro r w1 ⟨rfl, rfl⟩
  go_wp2_with fail
  go_ret
  exact ⟨rfl, rfl⟩
theorem fixed_nobody {w : World} {v : Value} (h : NoR w v) (a : Int) : Calls Try.prog 23 #[v, .int .i64 a] w fun r w' => r = .returned (.slice none 0 0) ∧ w = w' := by
  go_enter Try.func23, Try.ntmps23
  go_wp2_with fail
  refine (fine_nobody h).mono ?_; rintro r w1 ⟨rfl, rfl⟩
  go_wp2_with fail
  go_ret
  exact ⟨rfl, rfl⟩
theorem flag_nobody {w : World} {v : Value} (h : NoR w v) : Calls Try.prog 21 #[v] w fun r w' => r = .returned (.bool false) ∧ w = w' := by
  go_enter Try.func21, Try.ntmps21
  go_wp2_with fail
  refine (number_nobody h 0 1).mono ?_; rintro r w1 ⟨rfl, rfl⟩
  go_wp2_with fail
  go_ret
  exact ⟨rfl, rfl⟩
theorem left_plain (g : Nat) (w : World) (h : Plain w g) : Calls Try.prog 28 #[.pointer (some ⟨g, 0, none⟩)] w fun r w' => r = .returned (.int .i64 0) ∧ Still w w' := by
  have h0 := h.c0
  have h1 := h.c1
  go_enter Try.func28, Try.ntmps28
  go_wp2
  go_quiet (fail)
  go_wp2
  go_ret
  exact ⟨rfl, Still.drewN _ _⟩
theorem Left_nobody {w : World} {v : Value} (h : NoR w v) : Calls Try.prog 20 #[v] w fun r w' => r = .returned (.int .i64 0) ∧ Still w w' := by
  rcases h with _ | ⟨g, h⟩
  · refine (Left_nil w).mono ?_; rintro r w1 ⟨rfl, rfl⟩; exact ⟨rfl, Still.refl _⟩
  · go_enter Try.func20, Try.ntmps20
    go_wp2_with fail
    refine (left_plain g _ h).mono ?_; rintro r w1 ⟨rfl, hs⟩
    go_wp2_with fail
    go_ret
    exact ⟨rfl, hs⟩
theorem err_nobody {w : World} {v : Value} (h : NoR w v) : Calls Try.prog 18 #[v] w fun r w' => r = .returned (.int .i64 5) ∧ w = w' := by
  rcases h with _ | ⟨g, h⟩
  · exact err_nil w
  · exact err_plain g w h.c2
theorem end_nobody {w : World} {v : Value} (h : NoR w v) : Calls Try.prog 24 #[v] w fun r w' => r = .returned (.int .i64 5) ∧ w = w' := by
  go_enter Try.func24, Try.ntmps24
  go_wp2_with fail
  refine (err_nobody h).mono ?_; rintro r w1 ⟨rfl, rfl⟩
  go_wp2_with fail
  go_ret
  exact ⟨rfl, rfl⟩
theorem NoR.still {w w' : World} {v : Value} (h : NoR w v) (hs : Still w w') : NoR w' v := by
  rcases h with _ | ⟨g, h⟩
  · exact .nil
  · exact .plain g (by unfold Plain at *; rw [hs.heap]; exact h)

/-- awake: what the document fixes. -/
theorem lit4 (w : World) : Rd (w.alloc (.cells #[.int .u8 172, .int .u8 2, .int .u8 128, .int .u8 0] 5)) (w.heap.size + 1) 1 (some ⟨w.heap.size, 0, none⟩) 4 (([172, 2, 128, 0] : List UInt8).map B8) := by
  refine ⟨rfl, fun _ => ⟨w.heap.size, 0, rfl, by omega, fun j u hu => ?_⟩⟩
  rcases j with _ | _ | _ | _ | j
  all_goals first
    | (simp at hu; done)
    | (simp [B8] at hu; subst hu; simp [World.cell?_alloc_new])
theorem awake_any (w : World) : Calls Try.prog 15 #[] w fun r w' => r = .returned (.bool true) ∧ Below w.heap.size w w' := by
  go_enter Try.func15, Try.ntmps15
  go_wp2_with fail
  refine (read_any _ 4 4 [172, 2, 128, 0] _ ((lit4 w).more (by simp)) (by omega)).mono ?_
  rintro r w1 ⟨g, A1, c1, rfl, hg, hR1, hr1, hb1, _⟩
  have hb1' : Below w.heap.size w w1 := ((Below.refl _ _).alloc (Nat.le_refl _) _).trans (hb1.mono (by simp))
  go_wp2_with fail
  refine (number_any none 0 0 [] 300 _ (Rd.nil _ _ _ _) (by simp)).mono ?_
  rintro r w2 ⟨A2, c2, rfl, ho2, hb2⟩
  rw [List.nil_append] at ho2
  have hst : (str (numL 300)).toList = [172, 2] := by rw [str_toList]; decide
  have hR2 := hR1.to hb2
  have hr2 := hr1.to hb2
  have hcv := run_convert_rd (P := Try.prog) (w := w2) 22 5 9 Try.underlying22 Try.underlying5 Try.underlying9 (c := c2) (Rd.of_own ho2)
  go_wp2_with fail
  refine (number_good g A1 4 c1 0 [172, 2, 128, 0] 0 300 _ hR2 hr2 (by omega) (by omega) 300 2 (by decide) (by omega) (by omega) (by omega)).mono ?_
  rintro r w3 ⟨rfl, hR3, hg3⟩
  have hr3 := hr2.only hR2 hg3
  go_wp2_with fail
  refine (number_bad g A1 4 c1 2 [172, 2, 128, 0] 0 300 _ hR3 hr3 (by omega) (by omega) 0 0 5 (by decide) (by decide)).mono ?_
  rintro r w4 ⟨rfl, hR4, hg4⟩
  go_wp2_with fail
  refine (err_any g A1 4 c1 2 5 _ hR4).mono ?_
  rintro r w5 ⟨rfl, rfl⟩
  go_wp2_with fail
  go_ret
  exact ⟨rfl, grown_below (hb1'.trans (hb2.mono hb1'.size)) (grown_trans' hg3 hg4) (by simp at hg; omega) (Nat.le_trans hb1'.size hb2.size)⟩

/-- The law WireNobody's walk. -/
theorem wireNobody_walk (k x1 x2 : Int) (yes : Bool) (w : World) (_ : (Lit.int .i64 k).wf = true) (_ : (Lit.int .i64 x1).wf = true) (_ : (Lit.int .i64 x2).wf = true) :
    Calls Try.prog 7 #[.agg #[.int .i64 k, .int .i64 x1, .int .i64 x2], .bool yes] w fun r w' => r = .returned (.bool true) ∧ Below w.heap.size w w' := by
  cases yes
  · go_enter Try.func7, Try.ntmps7
    have hb0 := (Below.refl w.heap.size w).alloc (Nat.le_refl _) (.cells #[.int .i64 k, .int .i64 x1, .int .i64 x2] 41)
    go_wp2_with (first
      | (go_at_call 22; refine (fail_nobody .nil _).mono ?_; rintro r w1 ⟨rfl, rfl⟩)
      | (go_at_call 17; refine (number_nobody .nil _ _).mono ?_; rintro r w1 ⟨rfl, rfl⟩)
      | (go_at_call 19; refine (text_nobody .nil _).mono ?_; rintro r w1 ⟨rfl, rfl⟩)
      | (go_at_call 23; refine (fixed_nobody .nil _).mono ?_; rintro r w1 ⟨rfl, rfl⟩)
      | (go_at_call 21; refine (flag_nobody .nil).mono ?_; rintro r w1 ⟨rfl, rfl⟩)
      | (go_at_call 20; refine (Left_nobody .nil).mono ?_; rintro r w2 ⟨rfl, hs⟩)
      | (go_at_call 18; refine (err_nobody .nil).mono ?_; rintro r w1 ⟨rfl, rfl⟩)
      | (go_at_call 24; refine (end_nobody .nil).mono ?_; rintro r w1 ⟨rfl, rfl⟩)
      | (go_at_call 15; refine (awake_any _).mono ?_; rintro r w3 ⟨rfl, hb3⟩))
    go_ret
    have hb2 := hb0.trans (hs.below _)
    exact ⟨rfl, hb2.trans (hb3.mono hb2.size)⟩
  · go_enter Try.func7, Try.ntmps7
    have hb0 := (Below.refl w.heap.size w).alloc (Nat.le_refl _) (.cells #[.int .i64 k, .int .i64 x1, .int .i64 x2] 41)
    have hb1 := hb0.alloc (by simp) (.cells #[.slice none 0 0, .int .i64 0, .bool false, .int .i64 0] 45)
    have hN : NoR ((w.alloc (.cells #[.int .i64 k, .int .i64 x1, .int .i64 x2] 41)).alloc (.cells #[.slice none 0 0, .int .i64 0, .bool false, .int .i64 0] 45)) (.pointer (some ⟨w.heap.size + 1, 0, none⟩)) := .plain _ (by unfold Plain; simpa using heap_alloc_new (w.alloc (.cells #[.int .i64 k, .int .i64 x1, .int .i64 x2] 41)) _)
    go_wp2_with (first
      | (go_at_call 22; refine (fail_nobody hN _).mono ?_; rintro r w1 ⟨rfl, rfl⟩)
      | (go_at_call 17; refine (number_nobody hN _ _).mono ?_; rintro r w1 ⟨rfl, rfl⟩)
      | (go_at_call 19; refine (text_nobody hN _).mono ?_; rintro r w1 ⟨rfl, rfl⟩)
      | (go_at_call 23; refine (fixed_nobody hN _).mono ?_; rintro r w1 ⟨rfl, rfl⟩)
      | (go_at_call 21; refine (flag_nobody hN).mono ?_; rintro r w1 ⟨rfl, rfl⟩)
      | (go_at_call 20; refine (Left_nobody hN).mono ?_; rintro r w2 ⟨rfl, hs⟩; have hN2 := hN.still hs)
      | (go_at_call 18; refine (err_nobody hN2).mono ?_; rintro r w1 ⟨rfl, rfl⟩)
      | (go_at_call 24; refine (end_nobody hN2).mono ?_; rintro r w1 ⟨rfl, rfl⟩)
      | (go_at_call 15; refine (awake_any _).mono ?_; rintro r w3 ⟨rfl, hb3⟩))
    go_ret
    have hb2 := hb1.trans (hs.below _)
    exact ⟨rfl, hb2.trans (hb3.mono hb2.size)⟩
end Go.Proofs.Ytfobjpngajhdkaa
