/- The contracts of own, Pad and Unpad, the program's and the document's. -/
import Derived.Test.YtghhgjpdpmekhaaMem
import Derived.Test.YtghhgjpdpmekhaaPadA
namespace Go.Proofs.Ytghhgjpdpmekhaa
open Go.RowKit

theorem info8 : (Try.prog.info? 5).map (fun i => (i.zero, i.size, i.bytes)) = some (some (.int .u8 0), 1, 1) := by kernel_rfl

/-- What comes back is a slice of the call's own that holds the bytes l; nothing that was there has turned. -/
def RetB (base : Nat) (l : List UInt8) (w : World) (e : Ending) (w' : World) : Prop :=
  ∃ A c, e = .returned (.slice A l.length c) ∧ w'.ownsRow base 5 1 (.slice A l.length c) l.length (l.map B8) ∧ Below w.heap.size w w'
def RetBE (base : Nat) (l : List UInt8) (x : Int) (w : World) (e : Ending) (w' : World) : Prop :=
  ∃ A c, e = .returned (.tuple #[.slice A l.length c, .int .i64 x]) ∧ w'.ownsRow base 5 1 (.slice A l.length c) l.length (l.map B8) ∧ Below w.heap.size w w'

theorem RetB.mk {base : Nat} {l : List UInt8} {w w' : World} {e : Ending} {A : Option Addr} {n c : Nat} (hn : l.length = n) (he : e = .returned (.slice A n c)) (ho : w'.ownsRow base 5 1 (.slice A n c) n (l.map B8)) (hb : Below w.heap.size w w') : RetB base l w e w' := by
  subst hn; exact ⟨A, c, he, ho, hb⟩
theorem RetBE.mk {base : Nat} {l : List UInt8} {x : Int} {w w' : World} {e : Ending} {A : Option Addr} {n c : Nat} (hn : l.length = n) (he : e = .returned (.tuple #[.slice A n c, .int .i64 x])) (ho : w'.ownsRow base 5 1 (.slice A n c) n (l.map B8)) (hb : Below w.heap.size w w') : RetBE base l x w e w' := by
  subst hn; exact ⟨A, c, he, ho, hb⟩

theorem own_any (A : Option Addr) (n c : Nat) (l : List UInt8) (w : World) (hr : Rd w w.heap.size 1 A n (l.map B8)) (hn : n ≤ 140737488355328) :
    Calls Try.prog 16 #[.slice A n c] w (RetB w.heap.size l w) := by
  obtain rfl : l.length = n := by simpa using hr.len
  go_enter Try.func16, Try.ntmps16
  go_wp2_with (at_builtin; refine wpList_app rfl (.tmp 3) (.tmp 4) _ rfl w.heap.size 5 1 1 _ Try.underlying27 info8 rfl (by omega) (.slice (some ⟨w.heap.size, 0, none⟩) 0 0) 0 [] rfl (World.ownsRow_lit w #[] 0 (Nat.le_refl _) (by simp [maxLen]) rfl) w.heap.size A l.length c _ rfl (hr.alloc (Nat.le_refl _) _) (B8_one _) (by simp only [maxLen]; omega) (by omega) (by simp) ?_; intro A' c' w' h1 h2 h3)
  go_ret
  exact ⟨A', c', rfl, by simpa using h1, ((Below.refl _ _).alloc (Nat.le_refl _) _).grown h2 (by simp) (fun k hk => by simp [Value.ownBlock] at hk; omega)⟩

theorem padBucket_ok (n k : Nat) (w : World) (h : n < 4096) (hk : bSize n = k) : Calls Try.prog 13 #[.int .i64 n] w fun e w' => e = .returned (.tuple #[.int .i64 k, .int .i64 0]) ∧ w = w' := by
  have := padBucket_any n w
  rwa [hk, bErr_ok n h] at this
theorem padBucket_out (n : Nat) (w : World) (h : 4096 ≤ n) : Calls Try.prog 13 #[.int .i64 n] w fun e w' => e = .returned (.tuple #[.int .i64 0, .int .i64 2]) ∧ w = w' := by
  have := padBucket_any n w
  rwa [bSize_out n h, bErr_out n h] at this
theorem refBucket_ok (n k : Nat) (w : World) (h : n < 4096) (hk : bSize n = k) : Calls Try.prog 14 #[.int .i64 n] w fun e w' => e = .returned (.tuple #[.int .i64 k, .int .i64 0]) ∧ w = w' := by
  have := refBucket_any n w
  rwa [hk, bErr_ok n h] at this
theorem refBucket_out (n : Nat) (w : World) (h : 4096 ≤ n) : Calls Try.prog 14 #[.int .i64 n] w fun e w' => e = .returned (.tuple #[.int .i64 0, .int .i64 2]) ∧ w = w' := by
  have := refBucket_any n w
  rwa [bSize_out n h, bErr_out n h] at this

theorem cells_pad (l : List UInt8) (k : Nat) (h : l.length < 4096) (hk : bSize l.length = k) :
    (((l.map B8).take k ++ ((madeCells #[Value.int .u8 0] (k * 1)).toList).drop l.length)).set l.length (.int .u8 128) = (padL l).map B8 := by
  have := bSize_gt _ h
  rw [Nat.mul_one, toList_madeCells_one, List.take_of_length_le (by simp; omega), List.drop_replicate]
  unfold padL
  rw [if_pos h, hk]
  obtain ⟨j, hj⟩ : ∃ j, k - l.length = j + 1 := ⟨k - l.length - 1, by omega⟩
  rw [hj, List.replicate_succ, List.set_append_right _ _ (by simp)]
  simp only [List.length_map, Nat.sub_self, List.set_cons_zero, List.map_append, List.map_cons, List.map_replicate]
  rw [show ((k : Int).toNat - l.length - 1) = j from by omega]
  rfl

theorem pad_ok (A : Option Addr) (n c : Nat) (l : List UInt8) (w : World) (hr : Rd w w.heap.size 1 A n (l.map B8)) (h : l.length < 4096) :
    Calls Try.prog 17 #[.slice A n c] w (RetBE w.heap.size (padL l) 0 w) := by
  obtain rfl : l.length = n := by simpa using hr.len
  obtain ⟨k, hk⟩ : ∃ k : Nat, bSize l.length = k := ⟨(bSize l.length).toNat, by have := bSize_gt _ h; omega⟩
  have hk1 := bSize_gt _ h
  have hlen : (padL l).length = k := by rw [padL_len, hk]; rfl
  have Hk := Lib.hid hk
  have Hl := Lib.hid hlen
  rw [hk] at hk1
  obtain ⟨hk2, hk3⟩ := hk1
  clear hk hlen
  obtain ⟨i0, hi0, hz0, hz1, hz2⟩ := info_parts info8
  go_enter Try.func17, Try.ntmps17
  go_wp2_with (first
    | (go_at_call 13; refine (padBucket_ok l.length k _ h Hk.out).mono ?_; rintro e w' ⟨rfl, rfl⟩)
    | (at_make
       refine wpList_make_full _ rfl (.tmp 16) (.tmp 16) 27 rfl w.heap.size 5 i0 _ 1 Try.underlying27 hi0 hz0 hz1 _ _ _ _ k rfl rfl rfl rfl (by rw [hz2]; omega) (by simp only [maxLen]; omega) (Nat.le_refl _) ?_
       intro w1 h1 hg1
       have hb1 : Below w.heap.size w w1 := (Below.refl _ _).grown hg1 (Nat.le_refl _) (fun k hk => by cases hk))
    | (refine wpList_cpy rfl (.tmp 18) (.tmp 19) 27 27 rfl w.heap.size 5 Try.underlying27 (by rw [hi0]; exact congrArg some hz1) w.heap.size k k _ rfl h1 w.heap.size A l.length c _ rfl (hr.below hb1) (B8_one _) ?_
       intro w2 h2 hg2
       have hb2 : Below w.heap.size w w2 := hb1.grown hg2 hb1.size (fun k hk => by cases hk; exact Nat.le_refl _)
       obtain ⟨u2, _, hc2, hf2⟩ := own_cell h2 l.length (by omega)))
  go_ret2
  have h3 := h2.stored l.length (.int .u8 128)
  exact RetBE.mk Hl.out rfl (by rw [← cells_pad l k h Hk.out]; exact h3.1) (hb2.setCell (Nat.le_refl _) _)

theorem pad_out (A : Option Addr) (n c : Nat) (l : List UInt8) (w : World) (hr : Rd w w.heap.size 1 A n (l.map B8)) (h : 4096 ≤ l.length) :
    Calls Try.prog 17 #[.slice A n c] w (RetBE w.heap.size (padL l) 2 w) := by
  obtain rfl : l.length = n := by simpa using hr.len
  have hlen : padL l = [] := by unfold padL; rw [if_neg (by omega)]
  rw [hlen]
  go_enter Try.func17, Try.ntmps17
  go_wp2_with (go_at_call 13; refine (padBucket_out l.length _ h).mono ?_; rintro e w' ⟨rfl, rfl⟩)
  go_ret2
  exact RetBE.mk rfl rfl (World.ownsRow_nil _ _ _ _) (Below.refl _ _)

theorem refPad_out (A : Option Addr) (n c : Nat) (l : List UInt8) (w : World) (hr : Rd w w.heap.size 1 A n (l.map B8)) (h : 4096 ≤ l.length) :
    Calls Try.prog 18 #[.slice A n c] w (RetBE w.heap.size (padL l) 2 w) := by
  obtain rfl : l.length = n := by simpa using hr.len
  have hlen : padL l = [] := by unfold padL; rw [if_neg (by omega)]
  rw [hlen]
  go_enter Try.func18, Try.ntmps18
  go_wp2_with (go_at_call 14; refine (refBucket_out l.length _ h).mono ?_; rintro e w' ⟨rfl, rfl⟩)
  go_ret2
  exact RetBE.mk rfl rfl (World.ownsRow_nil _ _ _ _) (Below.refl _ _)

/-- The document's list after j noughts. -/
def padTo (l : List UInt8) (j : Nat) : List UInt8 := l ++ 128 :: List.replicate j 0
theorem padTo_len (l : List UInt8) (j : Nat) : (padTo l j).length = l.length + 1 + j := by simp [padTo]; omega
theorem padTo_succ (l : List UInt8) (j : Nat) : padTo l j ++ [0] = padTo l (j + 1) := by
  simp [padTo, List.replicate_succ']
theorem padTo_end (l : List UInt8) (j k : Nat) (h : l.length < 4096) (hk : bSize l.length = k) (hj : l.length + 1 + j = k) : padTo l j = padL l := by
  unfold padTo padL
  rw [if_pos h, hk, show ((k : Int).toNat - l.length - 1) = j from by omega]

theorem one_cell8 (w : World) (b : UInt8) (x : Int) (hx : (b.toNat : Int) = x) : Rd (w.alloc (.cells #[.int .u8 x] 5)) (w.heap.size + 1) 1 (some ⟨w.heap.size, 0, none⟩) 1 ([b].map B8) := by
  subst hx
  refine ⟨rfl, fun _ => ⟨w.heap.size, 0, rfl, by omega, fun j u hu => ?_⟩⟩
  rcases j with _ | j
  · simp only [List.map_cons, List.map_nil, List.getElem?_cons_zero, Option.some.injEq] at hu
    subst hu
    simp [World.cell?_alloc_new, B8]
  · simp at hu
set_option maxHeartbeats 1000000 in
theorem refPad_ok (A : Option Addr) (n c : Nat) (l : List UInt8) (w : World) (hr : Rd w w.heap.size 1 A n (l.map B8)) (h : l.length < 4096) :
    Calls Try.prog 18 #[.slice A n c] w (RetBE w.heap.size (padL l) 0 w) := by
  obtain rfl : l.length = n := by simpa using hr.len
  obtain ⟨k, hk⟩ : ∃ k : Nat, bSize l.length = k := ⟨(bSize l.length).toNat, by have := bSize_gt _ h; omega⟩
  have hk1 := bSize_gt _ h
  have Hk := Lib.hid hk
  rw [hk] at hk1
  obtain ⟨hk2, hk3⟩ := hk1
  clear hk
  go_enter Try.func18, Try.ntmps18
  go_wp2_with (first
    | (go_at_call 14; refine (refBucket_ok l.length k _ h Hk.out).mono ?_; rintro e w' ⟨rfl, rfl⟩)
    | (at_builtin
       refine wpList_app rfl (.tmp 16) (.tmp 17) _ rfl w.heap.size 5 1 1 _ Try.underlying27 info8 rfl (by omega) (.slice (some ⟨w.heap.size, 0, none⟩) 0 0) 0 [] rfl (World.ownsRow_lit w #[] 0 (Nat.le_refl _) (by simp [maxLen]) rfl) w.heap.size A l.length c _ rfl (hr.alloc (Nat.le_refl _) _) (B8_one _) (by simp only [maxLen]; omega) (by omega) (by simp) ?_
       intro A1 c1 w1 h1 hg1 _
       simp only [Nat.zero_add, List.nil_append] at h1
       have hb1 : Below w.heap.size w w1 := ((Below.refl _ _).alloc (Nat.le_refl _) _).grown hg1 (by simp) (fun k hk => by simp [Value.ownBlock] at hk; omega))
    | (at_builtin
       refine wpList_app rfl (.tmp 18) (.tmp 19) _ rfl w.heap.size 5 1 1 _ Try.underlying27 info8 rfl (by omega) _ _ _ rfl (h1.alloc _) (w1.heap.size + 1) (some ⟨w1.heap.size, 0, none⟩) 1 1 _ rfl (one_cell8 w1 128 128 rfl) (B8_one _) (by simp only [maxLen]; omega) (by omega) (by simp; exact Nat.le_succ_of_le hb1.size) ?_
       intro A2 c2 w2 h2 hg2 _
       have hb2 : Below w.heap.size w w2 := (hb1.alloc hb1.size _).grown hg2 (by simp; exact Nat.le_succ_of_le hb1.size) (fun k hk => (h1.lt k hk).1)))
  simp only [← List.map_append] at h2
  go_loopw [6] (fun v wr => ∃ (j : Nat) (A' : Option Addr) (c' : Nat), l.length + 1 + j ≤ k ∧ v = .slice A' (l.length + 1 + j) c' ∧ wr.ownsRow w.heap.size 5 1 (.slice A' (l.length + 1 + j) c') (l.length + 1 + j) ((padTo l j).map B8) ∧ Below w.heap.size w wr) (fun v _ => k - vlen v)
  case atStart => exact ⟨0, A2, c2, by omega, rfl, h2, hb2⟩
  case round =>
    obtain ⟨j, A3, c3, hj, rfl, h3, hb3⟩ := hrel
    clear h1 h2 hb1 hb2 hg1 hg2 hr
    by_cases hlt : l.length + 1 + j < k
    · go_wp2_with (at_builtin
                   refine wpList_app rfl (.tmp 25) (.tmp 26) _ rfl w.heap.size 5 1 1 _ Try.underlying27 info8 rfl (by omega) _ _ _ rfl (h3.alloc _) (wr.heap.size + 1) (some ⟨wr.heap.size, 0, none⟩) 1 1 _ rfl (one_cell8 wr 0 0 rfl) (B8_one _) (by simp only [maxLen]; omega) (by omega) (by simp; exact Nat.le_succ_of_le hb3.size) ?_
                   intro A4 c4 w4 h4 hg4 _
                   have hb4 : Below w.heap.size w w4 := (hb3.alloc hb3.size _).grown hg4 (by simp; exact Nat.le_succ_of_le hb3.size) (fun k hk => (h3.lt k hk).1)
                   clear h3 hb3 hg4)
      simp only [← List.map_append, padTo_succ] at h4
      go_roundw
      case rel => exact ⟨j + 1, A4, c4, by omega, rfl, h4, hb4⟩
      case measure => simp [vlen]; omega
    · go_wp2
      go_ret2
      have e : l.length + 1 + j = k := by omega
      exact RetBE.mk (by rw [← padTo_end l j k h Hk.out e, padTo_len]) rfl (by rw [← padTo_end l j k h Hk.out e]; exact h3) hb3
end Go.Proofs.Ytghhgjpdpmekhaa
