/- The walks of the laws PadPads, PadUnpads, PadBack, PadHides. -/
import Derived.Test.YtghhgjpdpmekhaaPadD
namespace Go.Proofs.Ytghhgjpdpmekhaa
open Go.RowKit

theorem pad_any (A : Option Addr) (n c : Nat) (l : List UInt8) (w : World) (hr : Rd w w.heap.size 1 A n (l.map B8)) :
    Calls Try.prog 17 #[.slice A n c] w (RetBE w.heap.size (padL l) (padE l) w) := by
  by_cases h : l.length < 4096
  · rw [padE, bErr_ok _ h]; exact pad_ok A n c l w hr h
  · rw [padE, bErr_out _ (by omega)]; exact pad_out A n c l w hr (by omega)
theorem refPad_any (A : Option Addr) (n c : Nat) (l : List UInt8) (w : World) (hr : Rd w w.heap.size 1 A n (l.map B8)) :
    Calls Try.prog 18 #[.slice A n c] w (RetBE w.heap.size (padL l) (padE l) w) := by
  by_cases h : l.length < 4096
  · rw [padE, bErr_ok _ h]; exact refPad_ok A n c l w hr h
  · rw [padE, bErr_out _ (by omega)]; exact refPad_out A n c l w hr (by omega)

/-- Bytes that read as l, made a string. -/
theorem conv {w : World} {B : Nat} {A : Option Addr} {n c : Nat} {l : List UInt8} (h : Rd w B 1 A n (l.map B8)) :
    (convert 27 9 (.slice A n c)).run Try.prog w = .ok (.string (str l)) w :=
  run_convert_rd 27 5 9 Try.underlying27 Try.underlying5 Try.underlying9 h

set_option maxHeartbeats 1000000 in
theorem padPads_walk (A : Option Addr) (n c : Nat) (l : List UInt8) (w : World) (hr : Rd w w.heap.size 1 A n (l.map B8)) (_ : n ≤ c) (hn : n ≤ 140737488351232) :
    Calls Try.prog 4 #[.slice A n c] w fun e w' => e = .returned (.bool true) ∧ Below w.heap.size w w' := by
  obtain rfl : l.length = n := by simpa using hr.len
  have hst := str_toList
  go_enter Try.func4, Try.ntmps4
  go_wp2_with (first
    | (go_at_call 16; refine (own_any _ _ _ l _ hr (by omega)).mono ?_; rintro e w1 ⟨A1, c1, rfl, h1, hb1⟩)
    | (go_at_call 17; refine (pad_any _ _ _ l _ (Rd.of_own h1)).mono ?_; rintro e w2 ⟨A2, c2, rfl, h2, hb2⟩
       have hx2 := (Rd.of_own h1).to hb2
       have hr2 := (hr.to hb1).to hb2)
    | (go_at_call 18; refine (refPad_any _ _ _ l _ hr2).mono ?_; rintro e w3 ⟨A3, c3, rfl, h3, hb3⟩
       have e1 := conv (c := c2) ((Rd.of_own h2).to hb3)
       have e2 := conv (c := c3) (Rd.of_own h3)
       have e3 := conv (c := c1) (hx2.to hb3)
       have e4 := conv (c := c) (hr2.to hb3))
    | (go_at_call 15; refine (awake_any _).mono ?_; rintro e w4 ⟨rfl, hb4⟩))
  go_ret
  exact ⟨rfl, hb1.trans ((hb2.trans ((hb3.trans (hb4.mono hb3.size)).mono hb2.size)).mono hb1.size)⟩

theorem B8_succ (y : UInt8) : Value.int .u8 (((y.toNat : Int) + 1) % 256) = B8 (y + 1) := by simp [B8, UInt8.toNat_add]

set_option maxHeartbeats 1000000 in
theorem padUnpads_walk (A : Option Addr) (n c : Nat) (l : List UInt8) (w : World) (hr : Rd w w.heap.size 1 A n (l.map B8)) (hc : n ≤ c) (hn : n ≤ 140737488351232) :
    Calls Try.prog 5 #[.slice A n c] w fun e w' => e = .returned (.bool true) ∧ Below w.heap.size w w' := by
  obtain rfl : l.length = n := by simpa using hr.len
  have hst := str_toList
  have hun : (unpL l).length ≤ l.length := by unfold unpL; split <;> simp; omega
  go_enter Try.func5, Try.ntmps5
  go_wp2_with (first
    | (go_at_call 16; refine (own_any _ _ _ l _ hr (by omega)).mono ?_; rintro e w1 ⟨A1, c1, rfl, h1, hb1⟩
       have hc1 := own_cap h1)
    | (go_at_call 19; refine (unpad_any _ _ _ l _ (Rd.of_own h1) hc1 (by omega)).mono ?_; rintro e w2 ⟨A2, c2, rfl, h2, hb2⟩
       have hx2 := (Rd.of_own h1).to hb2
       have hr2 := (hr.to hb1).to hb2)
    | (go_at_call 20; refine (refUnpad_any _ _ _ l _ hr2 hc (by omega)).mono ?_; rintro e w3 ⟨A3, c3, rfl, h3, hc3, hb3⟩
       have e1 := conv (c := c2) ((Rd.of_own h2).to hb3)
       have e2 := conv (c := c3) h3))
  have hb12 : Below w1.heap.size w1 w3 := hb2.trans (hb3.mono hb2.size)
  have h23 : w3.ownsRow w1.heap.size 5 1 (.slice A2 (unpL l).length c2) (unpL l).length ((unpL l).map B8) := h2.kept (row := none) ⟨hb3.os, hb3.tape, hb3.output, hb3.size, fun k hk _ => hb3.block k hk⟩ (by cases A2 <;> simp [Value.ownBlock])
  have hx1 := (Rd.of_own h1)
  have hrw := hr.to hb1
  clear e1 e2 h2 h3 hb2 hb3 hr2 hx2 h1 hr
  go_loopw [33] (fun i wr => ∃ (k : Nat) (m : List UInt8), i = .int .i64 k ∧ k ≤ (unpL l).length ∧ wr.ownsRow w1.heap.size 5 1 (.slice A2 (unpL l).length c2) (unpL l).length (m.map B8) ∧ Below w1.heap.size w1 wr) (fun i _ => (unpL l).length - (intOf i).toNat)
  case atStart => exact ⟨0, _, rfl, by omega, h23, hb12⟩
  case round =>
    obtain ⟨k, m, rfl, hk, h4, hb4⟩ := hrel
    clear h23 hb12
    by_cases hlt : k < (unpL l).length
    · obtain ⟨g, rfl, hg1, hg2⟩ := own_addr h4 (by omega)
      obtain ⟨u, hu, hcell, hfro⟩ := own_cell h4 k hlt
      obtain ⟨y, hy, rfl⟩ : ∃ y, m[k]? = some y ∧ B8 y = u := by simpa using hu
      have hc4 : wr.cell? ⟨g, k, none⟩ = some (.int .u8 (y.toNat : Int)) := hcell
      have hs := (h4.stored k (B8 (y + 1))).1
      rw [← List.map_set] at hs
      have Hs := Lib.hid hs
      have Hb := Lib.hid (B8_succ y)
      clear hs hcell hy hu
      go_wp2
      go_roundw
      case rel =>
        rw [Hb.out]
        exact ⟨k + 1, _, by go_num, by omega, Hs.out, hb4.setCell (by exact hg1) _⟩
      case measure => simp only [intOf]; omega
    · have e3 := conv (c := c1) (hx1.below hb4)
      have e4 := conv (c := c) (hrw.below hb4)
      go_wp2_with (go_at_call 15; refine (awake_any _).mono ?_; rintro e w5 ⟨rfl, hb5⟩)
      go_ret
      exact ⟨rfl, hb1.trans ((hb4.trans (hb5.mono hb4.size)).mono hb1.size)⟩

theorem unpad_back (A : Option Addr) (n c : Nat) (l : List UInt8) (w : World) (hr : Rd w w.heap.size 1 A n ((padL l).map B8)) (h4 : l.length < 4096) (hnc : n ≤ c) (hn : n ≤ 140737488355328) :
    Calls Try.prog 19 #[.slice A n c] w (RetBE w.heap.size l 0 w) := by
  have h := unpad_any A n c (padL l) w hr hnc hn
  rwa [(unp_pad l h4).1, (unp_pad l h4).2] at h

set_option maxHeartbeats 2000000 in
set_option maxRecDepth 100000 in
theorem padBack_walk (A : Option Addr) (n c : Nat) (l : List UInt8) (A' : Option Addr) (n' c' : Nat) (l' : List UInt8) (w : World) (hr : Rd w w.heap.size 1 A n (l.map B8)) (hc : n ≤ c) (hn : n ≤ 140737488351232)
    (hr' : Rd w w.heap.size 1 A' n' (l'.map B8)) (hc' : n' ≤ c') (hn' : n' ≤ 140737488351232) :
    Calls Try.prog 6 #[.slice A n c, .slice A' n' c'] w fun e w' => e = .returned (.bool true) ∧ Below w.heap.size w w' := by
  obtain rfl : l.length = n := by simpa using hr.len
  obtain rfl : l'.length = n' := by simpa using hr'.len
  have hst := str_toList
  go_enter Try.func6, Try.ntmps6
  go_wp2_with fail
  refine (own_any _ _ _ l _ hr (by omega)).mono ?_; rintro e w1 ⟨A1, c1, rfl, h1, hb1⟩
  have hr1 := hr.to hb1
  have hr1' := hr'.to hb1
  go_wp2_with fail
  by_cases h4 : l.length < 4096
  · refine (pad_ok _ _ _ l _ (Rd.of_own h1) h4).mono ?_; rintro e w2 ⟨A2, c2, rfl, h2, hb2⟩
    have hr2 := hr1.to hb2
    have hr2' := hr1'.to hb2
    have hc2 := own_cap h2
    have hl2 : (padL l).length ≤ 4096 := by rw [padL_len]; have := bSize_gt _ h4; omega
    go_wp2_with fail
    refine (unpad_back _ _ _ l _ (Rd.of_own h2) h4 hc2 (by omega)).mono ?_; rintro e wx ⟨A3, c3, rfl, h3, hb3⟩
    have e3 := conv (c := c3) (Rd.of_own h3)
    have e4 := conv (c := c) (hr2.to hb3)
    have hrx := hr2'.to hb3
    have hbx : Below w.heap.size w wx := hb1.trans ((hb2.trans (hb3.mono hb2.size)).mono hb1.size)
    go_wp2_with fail
    refine (own_any _ _ _ l' _ hrx (by omega)).mono ?_; rintro e w5 ⟨A5, c5, rfl, h5, hb5⟩
    have hc5 := own_cap h5
    go_wp2_with fail
    by_cases hu : unpE l' = 0
    · have hp := pad_unp l' hu
      refine (unpad_any _ _ _ l' _ (Rd.of_own h5) hc5 (by omega)).mono ?_; rintro e w6 ⟨A6, c6, rfl, h6, hb6⟩
      rw [hu]
      have Hu := Lib.hid hu
      have Hp := Lib.hid hp
      have hp2 := hp.2
      clear hu hp
      go_wp2_with fail
      refine (pad_ok _ _ _ (unpL l') _ (Rd.of_own h6) hp2).mono ?_; rintro e w7 ⟨A7, c7, rfl, h7, hb7⟩
      have e7 := conv (c := c7) (Rd.of_own h7)
      have e8 := conv (c := c') (((hrx.to hb5).to hb6).to hb7)
      rw [Hp.out.1] at e7
      rw [Hp.out.1]
      go_wp2_with fail
      refine (awake_any _).mono ?_; rintro e w8 ⟨rfl, hb8⟩
      go_wp2_with fail
      go_ret
      exact ⟨rfl, hbx.trans ((hb5.trans ((hb6.trans ((hb7.trans (hb8.mono hb7.size)).mono hb6.size)).mono hb5.size)).mono hbx.size)⟩
    · have hp := unp_no l' hu
      refine (unpad_any _ _ _ l' _ (Rd.of_own h5) hc5 (by omega)).mono ?_; rintro e w6 ⟨A6, c6, rfl, h6, hb6⟩
      rw [hp.1, hp.2]
      clear hp hu h6
      go_wp2_with fail
      refine (awake_any _).mono ?_; rintro e w8 ⟨rfl, hb8⟩
      go_wp2_with fail
      go_ret
      exact ⟨rfl, hbx.trans ((hb5.trans ((hb6.trans (hb8.mono hb6.size)).mono hb5.size)).mono hbx.size)⟩
  · refine (pad_out _ _ _ l _ (Rd.of_own h1) (by omega)).mono ?_; rintro e wx ⟨A3, c3, rfl, h3, hb3⟩
    have hl2 : padL l = [] := by unfold padL; rw [if_neg h4]
    rw [hl2]
    clear hl2 h3
    have h4' : 4096 ≤ l.length := by omega
    have h4b : decide ((l.length : Int) < 4096) = false := by simp; omega
    clear h4
    have hrx := hr1'.to hb3
    have hbx : Below w.heap.size w wx := hb1.trans (hb3.mono hb1.size)
    go_wp2_with fail
    refine (own_any _ _ _ l' _ hrx (by omega)).mono ?_; rintro e w5 ⟨A5, c5, rfl, h5, hb5⟩
    have hc5 := own_cap h5
    go_wp2_with fail
    by_cases hu : unpE l' = 0
    · have hp := pad_unp l' hu
      refine (unpad_any _ _ _ l' _ (Rd.of_own h5) hc5 (by omega)).mono ?_; rintro e w6 ⟨A6, c6, rfl, h6, hb6⟩
      rw [hu]
      have Hu := Lib.hid hu
      have Hp := Lib.hid hp
      have hp2 := hp.2
      clear hu hp
      go_wp2_with fail
      refine (pad_ok _ _ _ (unpL l') _ (Rd.of_own h6) hp2).mono ?_; rintro e w7 ⟨A7, c7, rfl, h7, hb7⟩
      have e7 := conv (c := c7) (Rd.of_own h7)
      have e8 := conv (c := c') (((hrx.to hb5).to hb6).to hb7)
      rw [Hp.out.1] at e7
      rw [Hp.out.1]
      go_wp2_with fail
      refine (awake_any _).mono ?_; rintro e w8 ⟨rfl, hb8⟩
      go_wp2_with fail
      go_ret
      exact ⟨rfl, hbx.trans ((hb5.trans ((hb6.trans ((hb7.trans (hb8.mono hb7.size)).mono hb6.size)).mono hb5.size)).mono hbx.size)⟩
    · have hp := unp_no l' hu
      refine (unpad_any _ _ _ l' _ (Rd.of_own h5) hc5 (by omega)).mono ?_; rintro e w6 ⟨A6, c6, rfl, h6, hb6⟩
      rw [hp.1, hp.2]
      clear hp hu h6
      go_wp2_with fail
      refine (awake_any _).mono ?_; rintro e w8 ⟨rfl, hb8⟩
      go_wp2_with fail
      go_ret
      exact ⟨rfl, hbx.trans ((hb5.trans ((hb6.trans (hb8.mono hb6.size)).mono hb5.size)).mono hbx.size)⟩

theorem hides (a b : List UInt8) : (((padL a).length : Int) == ((padL b).length : Int)) = (bSize a.length == bSize b.length) ∧ (((padL a).length : Int) == bSize a.length) = true := by
  have h : ∀ l : List UInt8, ((padL l).length : Int) = bSize l.length := by
    intro l
    rw [padL_len]
    have : 0 ≤ bSize (l.length : Int) := by unfold bSize; (repeat' split) <;> omega
    omega
  rw [h a, h b]
  exact ⟨rfl, by simp⟩

set_option maxHeartbeats 2000000 in
set_option maxRecDepth 100000 in
theorem padHides_walk (A : Option Addr) (n c : Nat) (l : List UInt8) (A' : Option Addr) (n' c' : Nat) (l' : List UInt8) (w : World) (hr : Rd w w.heap.size 1 A n (l.map B8)) (hc : n ≤ c) (hn : n ≤ 140737488351232)
    (hr' : Rd w w.heap.size 1 A' n' (l'.map B8)) (hc' : n' ≤ c') (hn' : n' ≤ 140737488351232) :
    Calls Try.prog 7 #[.slice A n c, .slice A' n' c'] w fun e w' => e = .returned (.bool true) ∧ Below w.heap.size w w' := by
  obtain rfl : l.length = n := by simpa using hr.len
  obtain rfl : l'.length = n' := by simpa using hr'.len
  obtain ⟨e1, e2⟩ := hides l l'
  go_enter Try.func7, Try.ntmps7
  go_wp2_with fail
  refine (own_any _ _ _ l _ hr (by omega)).mono ?_; rintro e w1 ⟨A1, c1, rfl, h1, hb1⟩
  have hr1' := hr'.to hb1
  go_wp2_with fail
  refine (pad_any _ _ _ l _ (Rd.of_own h1)).mono ?_; rintro e w2 ⟨A2, c2, rfl, h2, hb2⟩
  have hr2' := hr1'.to hb2
  go_wp2_with fail
  refine (own_any _ _ _ l' _ hr2' (by omega)).mono ?_; rintro e w3 ⟨A3, c3, rfl, h3, hb3⟩
  go_wp2_with fail
  refine (pad_any _ _ _ l' _ (Rd.of_own h3)).mono ?_; rintro e w4 ⟨A4, c4, rfl, h4, hb4⟩
  go_wp2_with fail
  refine (padBucket_any l.length _).mono ?_; rintro e w' ⟨rfl, rfl⟩
  go_wp2_with fail
  refine (padBucket_any l'.length _).mono ?_; rintro e w' ⟨rfl, rfl⟩
  rw [show bErr (l.length : Int) = padE l from rfl, show bErr (l'.length : Int) = padE l' from rfl]
  have hbx : Below w.heap.size w w4 := hb1.trans ((hb2.trans ((hb3.trans (hb4.mono hb3.size)).mono hb2.size)).mono hb1.size)
  go_wp2_with fail
  refine (awake_any _).mono ?_; rintro e w5 ⟨rfl, hb5⟩
  go_wp2_with fail
  go_ret
  exact ⟨rfl, hbx.trans (hb5.mono hbx.size)⟩
end Go.Proofs.Ytghhgjpdpmekhaa
