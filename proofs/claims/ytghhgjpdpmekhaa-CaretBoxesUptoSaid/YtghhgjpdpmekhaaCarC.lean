/- The contract of Places, the document's. -/
import Derived.Test.YtghhgjpdpmekhaaCarB
namespace Go.Proofs.Ytghhgjpdpmekhaa
open Go.RowKit Go.Lib

/-- What the document's Places gives where the columns may be. -/
def RetS (base : Nat) (l : List Pen) (w : World) (e : Ending) (w' : World) : Prop :=
  ∃ A c, e = .returned (.tuple #[.slice A l.length c, .int .i64 0]) ∧ w'.ownsRow base 42 2 (.slice A l.length c) l.length (l.flatMap S2) ∧ Below w.heap.size w w'

theorem refPlaces_no (s : ByteArray) (cols : Int) (w : World) (h : cols < 2 ∨ 200 < cols) :
    Calls Try.prog 22 #[.string s, .int .i64 cols] w fun e w' => e = .returned (.tuple #[.slice none 0 0, .int .i64 6]) ∧ w = w' := by
  rcases h with h | h
  · go_enter Try.func22, Try.ntmps22
    go_wp2
    go_ret2
    exact ⟨rfl, rfl⟩
  · have h' : ¬ cols < 2 := by omega
    go_enter Try.func22, Try.ntmps22
    go_wp2
    go_ret2
    exact ⟨rfl, rfl⟩

set_option maxHeartbeats 2000000 in
theorem refPlaces_any (s : ByteArray) (cols : Int) (w : World) (h1 : 2 ≤ cols) (h2 : cols ≤ 200) (hs : s.size ≤ 1048576) :
    Calls Try.prog 22 #[.string s, .int .i64 cols] w (RetS w.heap.size (carets s cols) w) := by
  have hd1 : decide (cols < 2) = false := by simp; omega
  have hd2 : decide (200 < cols) = false := by simp; omega
  go_enter Try.func22, Try.ntmps22
  go_wp2
  go_loopw [7, 8, 6] (fun vx vy out wr => ∃ (pos : Nat) (x y : Int) (acc : List Pen) (A : Option Addr) (c : Nat), vx = .int .i64 x ∧ vy = .int .i64 y ∧ out = .slice A acc.length c ∧
      wr.ownsRow (w.heap.size + 1) 42 2 (.slice A acc.length c) acc.length (acc.flatMap S2) ∧ wr.heap[w.heap.size]? = some (.stringIter s pos) ∧ Below w.heap.size w wr ∧
      Hid (carets s cols = acc ++ placesL cols (runes s pos) (x, y)) ∧ 0 ≤ x ∧ x ≤ cols ∧ 0 ≤ y ∧ y ≤ pos ∧ acc.length ≤ pos ∧ acc.length ≤ s.size)
    (fun _ _ _ wr => s.size - wr.iterPos w.heap.size)
  case atStart =>
    exact ⟨0, 0, 0, [], none, 0, rfl, rfl, rfl, World.ownsRow_nil _ _ _ _, World.iter_heap _ _ _, (Below.refl _ _).alloc (Nat.le_refl _) _, rfl, by omega, by omega, by omega, by omega, by simp, by simp⟩
  case round =>
    obtain ⟨pos, x, y, acc, A, c, rfl, rfl, rfl, hown, hit, hb, hcar, hx0, hx1, hy0, hy1, hl1, hl2⟩ := hrel
    by_cases hp : pos < s.size
    · have hnx := fun ty => run_next_any_at (P := Try.prog) wr _ s pos ty hit hp
      have hown1 := ownsRow_iterAt hown (Nat.lt_succ_self w.heap.size) s (pos + (Utf8.decode s pos).2)
      have hit1 := iterAt_heap wr _ s pos (pos + (Utf8.decode s pos).2) hit
      have hb1 := below_iterAt hb (Nat.le_refl _) s (pos + (Utf8.decode s pos).2)
      have hadv := adv s pos hp
      have hst := fun q r => step_carets (q := q) (r := r) hcar.out hp
      have Hst := Lib.hid hst
      clear hst
      have hw := wid_bd ((Utf8.decode s pos).1 : Int)
      generalize hW : wr.iterAt w.heap.size s (pos + (Utf8.decode s pos).2) = W at *
      generalize hcc : ((Utf8.decode s pos).1 : Int) = cc at *
      generalize hkk : (Utf8.decode s pos).2 = kk at *
      have Hip := Lib.hid (iterPos_of hit)
      clear hcar hown hit hcc hkk hW
      by_cases h10 : cc = 10
      · have ht : (cc == 10) = true := by simpa using h10
        have ht2 : (cc != 10) = false := by simpa using h10
        have Hc := Lib.hid h10
        clear h10
        by_cases hov : cols < x + wid cc
        · go_wp2_with (first
            | (go_at_call 26; refine (refWidth_any _ _).mono ?_; rintro e w' ⟨rfl, rfl⟩)
            | (at_builtin
               refine wpList_app rfl (.tmp 34) (.tmp 38) _ rfl (w.heap.size + 1) 42 2 16 _ Try.underlying36 infoS rfl (by omega) _ _ _ rfl (hown1.alloc _) (W.heap.size + 1) (some ⟨W.heap.size, 0, none⟩) 1 1 _ rfl (two_cells W 42 _ _) (S2_one [(x, y)]) (by simp only [maxLen]; omega) (by omega) (by simp; have := hb1.size; omega) ?_
               intro A2 c2 W2 hown2 hg2 _
               have hb2 : Below w.heap.size w W2 := (hb1.alloc hb1.size _).grown hg2 (by simp; have := hb1.size; omega) (fun k hk => by have := (hown1.lt k hk).1; omega)
               have hit2 := iter_kept hit1 hg2 (fun k hk => (hown1.lt k hk).1)
               clear hg2 hit1 hown1 hb1))
          go_roundw
          case rel =>
            refine ⟨pos + kk, 0, y + 1, acc ++ [(x, y)], A2, c2, rfl, rfl, by rw [List.length_append]; rfl, ?_, hit2, hb2, Hst.out _ _ ?_ ?_, by omega, by omega, by omega, by omega, by rw [List.length_append, List.length_singleton]; omega, by rw [List.length_append, List.length_singleton]; omega⟩
            · rw [List.length_append, List.flatMap_append]; exact hown2
            · unfold penAt; rw [if_neg (fun h => h.1 Hc.out)]
            · unfold penOn; rw [if_pos Hc.out]
          case measure => rw [Hip.out, iterPos_of hit2]; omega
        · go_wp2_with (first
            | (go_at_call 26; refine (refWidth_any _ _).mono ?_; rintro e w' ⟨rfl, rfl⟩)
            | (at_builtin
               refine wpList_app rfl (.tmp 34) (.tmp 38) _ rfl (w.heap.size + 1) 42 2 16 _ Try.underlying36 infoS rfl (by omega) _ _ _ rfl (hown1.alloc _) (W.heap.size + 1) (some ⟨W.heap.size, 0, none⟩) 1 1 _ rfl (two_cells W 42 _ _) (S2_one [(x, y)]) (by simp only [maxLen]; omega) (by omega) (by simp; have := hb1.size; omega) ?_
               intro A2 c2 W2 hown2 hg2 _
               have hb2 : Below w.heap.size w W2 := (hb1.alloc hb1.size _).grown hg2 (by simp; have := hb1.size; omega) (fun k hk => by have := (hown1.lt k hk).1; omega)
               have hit2 := iter_kept hit1 hg2 (fun k hk => (hown1.lt k hk).1)
               clear hg2 hit1 hown1 hb1))
          go_roundw
          case rel =>
            refine ⟨pos + kk, 0, y + 1, acc ++ [(x, y)], A2, c2, rfl, rfl, by rw [List.length_append]; rfl, ?_, hit2, hb2, Hst.out _ _ ?_ ?_, by omega, by omega, by omega, by omega, by rw [List.length_append, List.length_singleton]; omega, by rw [List.length_append, List.length_singleton]; omega⟩
            · rw [List.length_append, List.flatMap_append]; exact hown2
            · unfold penAt; rw [if_neg (fun h => h.1 Hc.out)]
            · unfold penOn; rw [if_pos Hc.out]
          case measure => rw [Hip.out, iterPos_of hit2]; omega
      · have ht : (cc == 10) = false := by simpa using h10
        have ht2 : (cc != 10) = true := by simpa using h10
        have Hc := Lib.hid h10
        clear h10
        by_cases hov : cols < x + wid cc
        · go_wp2_with (first
            | (go_at_call 26; refine (refWidth_any _ _).mono ?_; rintro e w' ⟨rfl, rfl⟩)
            | (at_builtin
               refine wpList_app rfl (.tmp 34) (.tmp 38) _ rfl (w.heap.size + 1) 42 2 16 _ Try.underlying36 infoS rfl (by omega) _ _ _ rfl (hown1.alloc _) (W.heap.size + 1) (some ⟨W.heap.size, 0, none⟩) 1 1 _ rfl (two_cells W 42 _ _) (S2_one [(0, y + 1)]) (by simp only [maxLen]; omega) (by omega) (by simp; have := hb1.size; omega) ?_
               intro A2 c2 W2 hown2 hg2 _
               have hb2 : Below w.heap.size w W2 := (hb1.alloc hb1.size _).grown hg2 (by simp; have := hb1.size; omega) (fun k hk => by have := (hown1.lt k hk).1; omega)
               have hit2 := iter_kept hit1 hg2 (fun k hk => (hown1.lt k hk).1)
               clear hg2 hit1 hown1 hb1))
          go_roundw
          case rel =>
            refine ⟨pos + kk, wid cc, y + 1, acc ++ [(0, y + 1)], A2, c2, rfl, rfl, by rw [List.length_append]; rfl, ?_, hit2, hb2, Hst.out _ _ ?_ ?_, by omega, by omega, by omega, by omega, by rw [List.length_append, List.length_singleton]; omega, by rw [List.length_append, List.length_singleton]; omega⟩
            · rw [List.length_append, List.flatMap_append]; exact hown2
            · unfold penAt; rw [if_pos ⟨Hc.out, hov⟩]
            · unfold penOn; rw [if_neg Hc.out, Int.zero_add]
          case measure => rw [Hip.out, iterPos_of hit2]; omega
        · go_wp2_with (first
            | (go_at_call 26; refine (refWidth_any _ _).mono ?_; rintro e w' ⟨rfl, rfl⟩)
            | (at_builtin
               refine wpList_app rfl (.tmp 34) (.tmp 38) _ rfl (w.heap.size + 1) 42 2 16 _ Try.underlying36 infoS rfl (by omega) _ _ _ rfl (hown1.alloc _) (W.heap.size + 1) (some ⟨W.heap.size, 0, none⟩) 1 1 _ rfl (two_cells W 42 _ _) (S2_one [(x, y)]) (by simp only [maxLen]; omega) (by omega) (by simp; have := hb1.size; omega) ?_
               intro A2 c2 W2 hown2 hg2 _
               have hb2 : Below w.heap.size w W2 := (hb1.alloc hb1.size _).grown hg2 (by simp; have := hb1.size; omega) (fun k hk => by have := (hown1.lt k hk).1; omega)
               have hit2 := iter_kept hit1 hg2 (fun k hk => (hown1.lt k hk).1)
               clear hg2 hit1 hown1 hb1))
          go_roundw
          case rel =>
            refine ⟨pos + kk, x + wid cc, y, acc ++ [(x, y)], A2, c2, rfl, rfl, by rw [List.length_append]; rfl, ?_, hit2, hb2, Hst.out _ _ ?_ ?_, by omega, by omega, by omega, by omega, by rw [List.length_append, List.length_singleton]; omega, by rw [List.length_append, List.length_singleton]; omega⟩
            · rw [List.length_append, List.flatMap_append]; exact hown2
            · unfold penAt; rw [if_neg (fun h => absurd h.2 (Int.not_lt.2 hov))]
            · unfold penOn; rw [if_neg Hc.out]
          case measure => rw [Hip.out, iterPos_of hit2]; omega
    · have hnx := fun ty => run_next_end_at (P := Try.prog) wr _ s pos ty hit hp
      have hre := runes_end s pos hp
      have hcar2 := hcar.out
      rw [hre] at hcar2
      have Hcar := Lib.hid hcar2
      clear hre hcar2 hcar
      go_wp2_with (at_builtin
                   refine wpList_app rfl (.tmp 48) (.tmp 52) _ rfl (w.heap.size + 1) 42 2 16 _ Try.underlying36 infoS rfl (by omega) _ _ _ rfl (hown.alloc _) (wr.heap.size + 1) (some ⟨wr.heap.size, 0, none⟩) 1 1 _ rfl (two_cells wr 42 _ _) (S2_one [(x, y)]) (by simp only [maxLen]; omega) (by omega) (by simp; have := hb.size; have := (Array.getElem?_eq_some_iff.1 hit).1; omega) ?_
                   intro A2 c2 W2 hown2 hg2 _
                   have hb2 : Below w.heap.size w W2 := (hb.alloc hb.size _).grown hg2 (by simp; have := hb.size; omega) (fun k hk => by have := (hown.lt k hk).1; omega))
      go_ret2
      unfold RetS
      rw [Hcar.out, List.length_append, List.flatMap_append]
      exact ⟨A2, c2, rfl, own_mono hown2 (Nat.le_succ _), hb2⟩
end Go.Proofs.Ytghhgjpdpmekhaa
