/- The contracts of a reader: Read, Err, Left, Number, Fixed, Text, Flag, Fail, End. -/
import Derived.Test.YtfobjpngajhdkaaWirB
import Derived.Deep.RegionHeld3
import Derived.Deep.RegionLaw
namespace Go.Proofs.Ytfobjpngajhdkaa
open Go.RowKit

/-- A reader's own bytes lie in another block than it. -/
theorem Rdr.ne {w : World} {g n c at_ b o B : Nat} {A : Option Addr} {e : Int} {A' : Option Addr} {n' : Nat} {l : List UInt8} (h : Rdr w g A n c at_ e) (hr : Rd w B 1 A' n' (l.map B8)) (hn : 0 < n') (hA : A' = some ⟨b, o, none⟩) : b ≠ g := by
  intro he
  subst he
  obtain ⟨b2, o2, y, hA2, _, _, hc⟩ := hr.at8 hn
  rw [hA] at hA2
  injection hA2 with hA2
  injection hA2 with e1 e2
  subst e1
  unfold Rdr at h
  simp only [World.cell?, h] at hc
  rcases hi : o2 + 0 with _ | _ | _ | _ | i
  · rw [hi] at hc; simp at hc
  · rw [hi] at hc; simp at hc
  · rw [hi] at hc; simp at hc
  · rw [hi] at hc; simp at hc
  · rw [hi] at hc; simp at hc
/-- Bytes stand while only a reader's block turns. -/
theorem Rd.only {w w' : World} {g n c at_ : Nat} {A : Option Addr} {e : Int} {A' : Option Addr} {n' : Nat} {l : List UInt8} (hr : Rd w w.heap.size 1 A' n' (l.map B8)) (h : Rdr w g A n c at_ e) (hg : w.grownBy w' (some g)) : Rd w' w'.heap.size 1 A' n' (l.map B8) := by
  refine ⟨hr.1, fun hn => ?_⟩
  obtain ⟨b, o, hA, hb, hc⟩ := hr.2 hn
  have hne := h.ne hr hn hA
  refine ⟨b, o, hA, Nat.lt_of_lt_of_le hb hg.size, fun j u hu => ?_⟩
  rw [World.cell?_of_block (w := w) (hg.block b hb (fun e => hne (by injection e)))]
  exact hc j u hu
theorem still_grown {w w' : World} (h : Still w w') (row : Option Nat) : w.grownBy w' row := ⟨h.os, h.tape, h.output, by rw [h.heap]; exact Nat.le_refl _, fun k _ _ => by rw [h.heap]⟩
theorem grown_trans' {a b c : World} {g : Nat} (h : a.grownBy b (some g)) (k : b.grownBy c (some g)) : a.grownBy c (some g) :=
  ⟨k.os.trans h.os, k.tape.trans h.tape, k.output.trans h.output, Nat.le_trans h.size k.size, fun i hi hne => (k.block i (Nat.lt_of_lt_of_le hi h.size) hne).trans (h.block i hi hne)⟩
theorem below_grown' {a b : World} (h : Below a.heap.size a b) (row : Option Nat) : a.grownBy b row := ⟨h.os, h.tape, h.output, h.size, fun k hk _ => h.block k hk⟩
theorem grown_below {a b c : World} {B g : Nat} (h : Below B a b) (hg : b.grownBy c (some g)) (hB : B ≤ g) (hb : B ≤ b.heap.size) : Below B a c := h.grown hg hb (fun k hk => by injection hk with hk; omega)
theorem Rdr.set1 {w : World} {g n c at_ : Nat} {A : Option Addr} {e : Int} (h : Rdr w g A n c at_ e) (a' : Nat) : Rdr (w.setCell ⟨g, 1, none⟩ (.int .i64 a')) g A n c a' e ∧ w.grownBy (w.setCell ⟨g, 1, none⟩ (.int .i64 a')) (some g) := by
  refine ⟨?_, ⟨rfl, rfl, rfl, by simp [World.setCell], fun k _ hne => Below.heap_setCell _ _ _ _ (fun e => hne (by rw [e]))⟩⟩
  unfold Rdr at *
  simp [World.setCell, Array.getElem?_modify, h]
theorem Rdr.set3 {w : World} {g n c at_ : Nat} {A : Option Addr} {e : Int} (h : Rdr w g A n c at_ e) (e' : Int) : Rdr (w.setCell ⟨g, 3, none⟩ (.int .i64 e')) g A n c at_ e' ∧ w.grownBy (w.setCell ⟨g, 3, none⟩ (.int .i64 e')) (some g) := by
  refine ⟨?_, ⟨rfl, rfl, rfl, by simp [World.setCell], fun k _ hne => Below.heap_setCell _ _ _ _ (fun e => hne (by rw [e]))⟩⟩
  unfold Rdr at *
  simp [World.setCell, Array.getElem?_modify, h]

theorem read_any (A : Option Addr) (n c : Nat) (l : List UInt8) (w : World) (hr : Rd w w.heap.size 1 A n (l.map B8)) (hn : n ≤ 140737488355328) :
    Calls Try.prog 16 #[.slice A n c] w fun r w' => ∃ g A' c', r = .returned (.pointer (some ⟨g, 0, none⟩)) ∧ w.heap.size ≤ g ∧ Rdr w' g A' n c' 0 0 ∧ Rd w' w'.heap.size 1 A' n (l.map B8) ∧ Below w.heap.size w w' ∧ n ≤ c' := by
  obtain rfl : l.length = n := by simpa using hr.len
  go_enter Try.func16, Try.ntmps16
  go_wp2_with (at_builtin; refine wpList_app rfl (.tmp 3) (.tmp 4) _ rfl w.heap.size 5 1 1 _ Try.underlying22 info8 rfl (by omega) (.slice (some ⟨w.heap.size, 0, none⟩) 0 0) 0 [] rfl (World.ownsRow_lit w #[] 0 (Nat.le_refl _) (by simp [maxLen]) rfl) w.heap.size A l.length c _ rfl (hr.alloc (Nat.le_refl _) _) (B8_one _) (by simp only [maxLen]; omega) (by omega) (by simp) ?_; intro A' c' w' h1 h2 h3)
  simp only [Nat.zero_add, List.nil_append] at h1
  have hb1 : Below w.heap.size w w' := ((Below.refl _ _).alloc (Nat.le_refl _) _).grown h2 (by simp) (fun k hk => by simp [Value.ownBlock] at hk; omega)
  go_ret
  have hr1 := Rd.of_own h1
  refine ⟨w'.heap.size, A', c', rfl, hb1.size, heap_alloc_new w' _, ?_, hb1.alloc hb1.size _, own_cap h1⟩
  exact (hr1.alloc (Nat.le_refl _) _).more (by simp)
theorem err_any (g : Nat) (A : Option Addr) (n c at_ : Nat) (e : Int) (w : World) (h : Rdr w g A n c at_ e) :
    Calls Try.prog 18 #[.pointer (some ⟨g, 0, none⟩)] w fun r w' => r = .returned (.int .i64 e) ∧ w = w' := by
  have h2 := h.c2
  have h3 := h.c3
  go_enter Try.func18, Try.ntmps18
  go_wp2
  go_ret
  exact ⟨rfl, rfl⟩
theorem err_nil (w : World) : Calls Try.prog 18 #[.pointer none] w fun r w' => r = .returned (.int .i64 5) ∧ w = w' := by
  go_enter Try.func18, Try.ntmps18
  go_wp2
  go_ret
  exact ⟨rfl, rfl⟩
theorem err_plain (g : Nat) (w : World) (h2 : w.cell? ⟨g, 2, none⟩ = some (.bool false)) : Calls Try.prog 18 #[.pointer (some ⟨g, 0, none⟩)] w fun r w' => r = .returned (.int .i64 5) ∧ w = w' := by
  go_enter Try.func18, Try.ntmps18
  go_wp2
  go_ret
  exact ⟨rfl, rfl⟩
theorem Left_any (g : Nat) (A : Option Addr) (n c at_ : Nat) (e : Int) (w : World) (h : Rdr w g A n c at_ e) (hn : n ≤ 140737488355328) (ha : at_ ≤ n) :
    Calls Try.prog 20 #[.pointer (some ⟨g, 0, none⟩)] w fun r w' => r = .returned (.int .i64 ((n : Int) - at_)) ∧ Still w w' := by
  go_enter Try.func20, Try.ntmps20
  go_wp2_with fail
  refine (left_any g A n c at_ e _ h hn ha).mono ?_; rintro r w1 ⟨rfl, hs⟩
  go_wp2_with fail
  go_ret
  exact ⟨rfl, hs⟩
theorem Left_nil (w : World) : Calls Try.prog 20 #[.pointer none] w fun r w' => r = .returned (.int .i64 0) ∧ w = w' := by
  go_enter Try.func20, Try.ntmps20
  go_wp2
  go_ret
  exact ⟨rfl, rfl⟩

/-- Number: an error that stands there, or the number. -/
theorem number_bad (g : Nat) (A : Option Addr) (n c at_ : Nat) (l : List UInt8) (least most : Int) (w : World) (h : Rdr w g A n c at_ 0) (hr : Rd w w.heap.size 1 A n (l.map B8)) (hn : n ≤ 140737488355328) (ha : at_ ≤ n) (x kk : Nat) (f : Int)
    (hx : nxt (l.drop at_) 0 0 = (x, kk, f)) (hf : (f == 0) = false) :
    Calls Try.prog 17 #[.pointer (some ⟨g, 0, none⟩), .int .i64 least, .int .i64 most] w fun r w' => r = .returned (.int .i64 0) ∧ Rdr w' g A n c at_ f ∧ w.grownBy w' (some g) := by
  have hf2 : (f != 0) = true := by rw [bne_iff_ne]; intro h; rw [h] at hf; simp at hf
  go_enter Try.func17, Try.ntmps17
  go_wp2_with fail
  refine (fine_yes g A n c at_ _ h).mono ?_; rintro r w1 ⟨rfl, rfl⟩
  go_wp2_with fail
  refine (next_any g A n c at_ 0 l _ h hr hn ha x kk f hx).mono ?_; rintro r w2 ⟨rfl, hs⟩
  have h2 := h.still hs
  have hc3 := h2.c3
  have hz3 := h2.fz 3
  go_wp2_with fail
  go_ret
  exact ⟨rfl, (h2.set3 f).1, grown_trans' (still_grown hs _) (h2.set3 f).2⟩
theorem number_good (g : Nat) (A : Option Addr) (n c at_ : Nat) (l : List UInt8) (least most : Int) (w : World) (h : Rdr w g A n c at_ 0) (hr : Rd w w.heap.size 1 A n (l.map B8)) (hn : n ≤ 140737488355328) (ha : at_ ≤ n) (x kk : Nat)
    (hx : nxt (l.drop at_) 0 0 = (x, kk, 0)) (hl : least ≤ x) (hm : (x : Int) ≤ most) (hk : at_ + kk ≤ n) :
    Calls Try.prog 17 #[.pointer (some ⟨g, 0, none⟩), .int .i64 least, .int .i64 most] w fun r w' => r = .returned (.int .i64 x) ∧ Rdr w' g A n c (at_ + kk) 0 ∧ w.grownBy w' (some g) := by
  go_enter Try.func17, Try.ntmps17
  go_wp2_with fail
  refine (fine_yes g A n c at_ _ h).mono ?_; rintro r w1 ⟨rfl, rfl⟩
  go_wp2_with fail
  refine (next_any g A n c at_ 0 l _ h hr hn ha x kk 0 hx).mono ?_; rintro r w2 ⟨rfl, hs⟩
  have h2 := h.still hs
  have hc1 := h2.c1
  have hz1 := h2.fz 1
  go_wp2_with fail
  go_ret
  have h3 := h2.set1 (at_ + kk)
  rw [Int.natCast_add] at h3
  exact ⟨rfl, h3.1, grown_trans' (still_grown hs _) h3.2⟩
theorem number_no (g : Nat) (A : Option Addr) (n c at_ : Nat) (e least most : Int) (w : World) (h : Rdr w g A n c at_ e) (he : (e == 0) = false) :
    Calls Try.prog 17 #[.pointer (some ⟨g, 0, none⟩), .int .i64 least, .int .i64 most] w fun r w' => r = .returned (.int .i64 0) ∧ w = w' := by
  go_enter Try.func17, Try.ntmps17
  go_wp2_with fail
  refine (fine_no g A n c at_ e _ h he).mono ?_; rintro r w1 ⟨rfl, rfl⟩
  go_wp2_with fail
  go_ret
  exact ⟨rfl, rfl⟩
end Go.Proofs.Ytfobjpngajhdkaa
