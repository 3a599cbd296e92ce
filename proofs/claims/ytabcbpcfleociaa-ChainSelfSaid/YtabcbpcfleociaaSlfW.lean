/- The law ChainSelf, walked. -/
import Derived.Test.YtabcbpcfleociaaSlfA
import Derived.Test.YtabcbpcfleociaaPlD
namespace Go.Proofs.Ytabcbpcfleociaa
open Go.RowKit
attribute [local go_sem ↓] Go.wp_at_zero Go.wp_at_succ
set_option linter.unusedSimpArgs false
set_option linter.unusedVariables false
set_option maxRecDepth 8000 in
set_option maxHeartbeats 4000000 in
theorem chainSelf_walk (A : Option Addr) (n c : Nat) (ls : List Dn) (w : World) (hr : RdD w w.heap.size A n ls) (hc : n ≤ c) (hq : n ≤ 140737488351232 ∧ Reaches w A n) :
    Calls Try.prog 9 #[.slice A n c] w fun e w' => e = .returned (.bool true) ∧ Below w.heap.size w w' := by
  have HR := Lib.hid hr
  have HQ := Lib.hid hq
  clear hr hq
  go_enter Try.func9, Try.ntmps9
  go_wp2_with fail
  refine (small_ A n c ls w HR.out HQ.out.1).mono ?_
  rintro e w1 ⟨⟨b, rfl, hb40⟩, b1⟩
  have B1 := Lib.hid b1
  clear b1
  rcases b with _ | _
  · clear hb40
    go_wp2_with fail
    refine (awake_ w1).mono ?_
    rintro e w2 ⟨rfl, b2⟩
    have B2 := Lib.hid b2
    clear b2
    go_wp2_with fail
    go_ret
    exact ⟨rfl, B1.out.trans (B2.out.mono B1.out.size)⟩
  · have hn := Lib.hid (hb40 rfl)
    clear hb40
    go_wp2_with fail
    refine (played_ A n c ls w1 ((HR.out.to B1.out).more B1.out.size) ((HQ.out.2).to HR.out B1.out) hn.out).mono ?_
    rintro e w2 ⟨p, S, hs, rfl, hp, hre, b2⟩
    have HP := Lib.hid hp
    have HRe := Lib.hid hre
    have B2 := Lib.hid (B1.out.trans (b2.mono B1.out.size))
    clear hp hre b2
    unfold plV
    go_wp2_with fail
    obtain ⟨U, hU⟩ : ∃ U, Hid (U = w2.alloc (.cells #[.pointer (some ⟨p.gb, 0, none⟩), .pointer (some ⟨p.gi, 0, none⟩), .slice p.A p.n p.c, .slice p.V p.vn p.vc, .int .i64 0] 35)) := ⟨_, Lib.hid rfl⟩
    obtain ⟨G, hG⟩ : ∃ g, Hid (g = w2.heap.size) := ⟨_, Lib.hid rfl⟩
    rw [← hU.out, ← hG.out]
    have BU1 : Below w2.heap.size w2 U := by rw [hU.out]; exact (Below.refl _ _).alloc (Nat.le_refl _) _
    have RU : Hid (U.heap[G]? = some (.cells (plC p).toArray 35 (0, 0))) := by unfold Hid; rw [hU.out, hG.out]; exact heap_alloc_new _ _
    have BU : Hid (Below w.heap.size w U) := B2.out.trans (BU1.mono B2.out.size)
    have HBk := Lib.hid (HP.out.pr.bk.below BU1)
    have hSok : Hid S.ok := HRe.out.ok
    have hSl : Hid (S.length ≤ 1048576) := by unfold Hid; have := HRe.out.len; have := hn.out; omega
    clear BU1 hU hG HP
    refine (vector_ p.gb S p.ob _ [] U HBk.out (fun k hk => absurd hk (by simp))).mono ?_
    rintro e w3 ⟨VA, vn, vc, rfl, hvc, hvd, b3⟩
    have B3 := Lib.hid b3
    have HV := Lib.hid hvd
    have Hb3 := Lib.hid (HBk.out.below b3)
    have R3 : Hid (w3.heap[G]? = some (.cells (plC p).toArray 35 (0, 0))) := (b3.block G (lt_of_blk RU.out)).trans RU.out
    have B3w := Lib.hid (BU.out.trans (b3.mono BU.out.size))
    have hvl : Hid ((vecL S).length = vn) := hvd.len
    have hv5 : Hid (vn ≤ 1000000) := by unfold Hid; have := vecP_len S 5; have h := hvl.out; unfold vecL at h; omega
    have c0 := cell_blk R3.out 0 rfl
    clear b3 hvd
    go_wp2_with fail
    clear c0
    refine (compare_ p.gb S p.ob _ VA vn vc (vecL S) [] w3 Hb3.out HV.out hv5.out).mono ?_
    rintro e w4 ⟨F, fm, fd, rfl, _, hfl, hfd, b4⟩
    obtain ⟨q1, q2, q3, q4⟩ := cmp_self hSok.out hSl.out
    rw [q1, q2, q4]
    rw [q3] at hfl
    obtain rfl : 0 = fm := hfl
    clear q1 q2 q3 q4
    have R4 : Hid (w4.heap[G]? = some (.cells (plC p).toArray 35 (0, 0))) := (b4.block G (lt_of_blk R3.out)).trans R3.out
    have Hb4 := Lib.hid (Hb3.out.below b4)
    have B4 := Lib.hid (B3w.out.trans (b4.mono B3w.out.size))
    obtain ⟨G6, hG6⟩ : ∃ g, Hid (g = w4.heap.size) := ⟨_, Lib.hid rfl⟩
    obtain ⟨V4, hV4⟩ : ∃ U, Hid (U = w4.alloc (.cells #[.bool false, .bool false] 81)) := ⟨_, Lib.hid rfl⟩
    have BV4 : Below w4.heap.size w4 V4 := by rw [hV4.out]; exact (Below.refl _ _).alloc (Nat.le_refl _) _
    have RV6 : Hid (V4.heap[G6]? = some (.cells #[.bool false, .bool false] 81 (0, 0))) := by unfold Hid; rw [hV4.out, hG6.out]; exact heap_alloc_new _ _
    have RV4 : Hid (V4.heap[G]? = some (.cells (plC p).toArray 35 (0, 0))) := (BV4.block G (lt_of_blk R4.out)).trans R4.out
    have HbV := Lib.hid (Hb4.out.below BV4)
    have B4w := Lib.hid (B4.out.trans (BV4.mono B4.out.size))
    have c0 := cell_blk RV4.out 0 rfl
    rw [hV4.out] at c0
    clear b4 BV4
    go_wp2_with fail
    rw [← hV4.out, ← hG6.out]
    clear c0
    refine (compare_ p.gb S p.ob _ none 0 0 [] [] V4 HbV.out (HdN.nil _ _ _) (by decide)).mono ?_
    rintro e w5 ⟨F2, fm2, fd2, rfl, _, hfl2, hfd2, b5⟩
    obtain ⟨q1, q2, q3, q4⟩ := cmp_nil S
    rw [hvl.out] at q1
    rw [q1, q2, q4]
    rw [q3] at hfl2
    obtain rfl : 0 = fm2 := hfl2
    clear q1 q2 q3 q4
    have R56 : Hid (w5.heap[G6]? = some (.cells #[.bool false, .bool false] 81 (0, 0))) := (b5.block G6 (lt_of_blk RV6.out)).trans RV6.out
    have B5 := Lib.hid (B4w.out.trans (b5.mono B4w.out.size))
    clear b5
    by_cases hv0 : 0 < vn
    · have hz : decide (0 < vn) = true := decide_eq_true hv0
      have hz2 : (0 : Int) < (vn : Int) := by omega
      rw [hz]
      have k0 : ∀ o, (w5.alloc o).cell? ⟨G6, 0, none⟩ = some (.bool false) := fun o => (World.cell?_alloc_lt w5 o _ (lt_of_blk R56.out)).trans (cell_blk R56.out 0 rfl)
      have k1 : ∀ o, (w5.alloc o).cell? ⟨G6, 1, none⟩ = some (.bool false) := fun o => (World.cell?_alloc_lt w5 o _ (lt_of_blk R56.out)).trans (cell_blk R56.out 1 rfl)
      have BX := Lib.hid (B5.out.alloc B5.out.size (.cells #[.bool true, .bool false] 81))
      go_wp2_with fail
      refine (awake_ _).mono ?_
      rintro e w6 ⟨rfl, b6⟩
      have B6 := Lib.hid (BX.out.trans (b6.mono BX.out.size))
      clear b6
      go_wp2_with fail
      go_ret
      exact ⟨rfl, B6.out⟩
    · have hz : decide (0 < vn) = false := decide_eq_false hv0
      have hz2 : ¬ (0 : Int) < (vn : Int) := by omega
      rw [hz]
      have k0 : ∀ o, (w5.alloc o).cell? ⟨G6, 0, none⟩ = some (.bool false) := fun o => (World.cell?_alloc_lt w5 o _ (lt_of_blk R56.out)).trans (cell_blk R56.out 0 rfl)
      have k1 : ∀ o, (w5.alloc o).cell? ⟨G6, 1, none⟩ = some (.bool false) := fun o => (World.cell?_alloc_lt w5 o _ (lt_of_blk R56.out)).trans (cell_blk R56.out 1 rfl)
      have BX := Lib.hid (B5.out.alloc B5.out.size (.cells #[.bool false, .bool false] 81))
      go_wp2_with fail
      refine (awake_ _).mono ?_
      rintro e w6 ⟨rfl, b6⟩
      have B6 := Lib.hid (BX.out.trans (b6.mono BX.out.size))
      clear b6
      go_wp2_with fail
      go_ret
      exact ⟨rfl, B6.out⟩
end Go.Proofs.Ytabcbpcfleociaa
