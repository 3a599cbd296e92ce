/- The walk of the law ChainNobody. -/
import Derived.Test.YtabcbpcfleociaaChL
import Derived.Test.YtabcbpcfleociaaFro
namespace Go.Proofs.Ytabcbpcfleociaa
open Go.RowKit Go.Maps
attribute [local go_sem ↓] Go.wp_at_zero Go.wp_at_succ
set_option linter.unusedSimpArgs false
set_option linter.unusedVariables false
theorem take_none (s : Value) (l : Ln) (A : Option Addr) (n c : Nat) (B : Option Addr) (m d : Nat) (w : World) :
    Calls Try.prog 21 #[.pointer none, s, lnV l A n c B m d] w fun e w' => e = .returned (.int .i64 1) ∧ Below w.heap.size w w' := by
  have hb : Below w.heap.size w (w.alloc (.cells #[.int .i64 l.au, .int .i64 l.sq, .int .i64 l.ep, .slice A n c, .slice B m d] 40)) := (Below.refl _ _).alloc (Nat.le_refl _) _
  go_enter Try.func21, Try.ntmps21
  unfold lnV
  go_wp2_with fail
  refine (check_none s l A n c B m d _).mono ?_
  rintro e w1 ⟨rfl, b1⟩
  go_wp2_with fail
  go_ret
  exact ⟨rfl, hb.trans (b1.mono hb.size)⟩
set_option maxRecDepth 4000 in
set_option maxHeartbeats 2000000 in
theorem chainNobody_walk (l : Ln) (A : Option Addr) (n c : Nat) (B : Option Addr) (m d : Nat) (V : Option Addr) (vn vc : Nat) (w : World) :
    Calls Try.prog 10 #[lnV l A n c B m d, .slice V vn vc] w fun e w' => e = .returned (.bool true) ∧ Below w.heap.size w w' := by
  obtain ⟨Y, hY⟩ : ∃ Y, Hid (Y = w.alloc (.cells #[.int .i64 l.au, .int .i64 l.sq, .int .i64 l.ep, .slice A n c, .slice B m d] 40)) := ⟨_, Lib.hid rfl⟩
  have BY : Hid (Below w.heap.size w Y) := by rw [hY.out]; exact (Below.refl _ _).alloc (Nat.le_refl _) _
  obtain ⟨G, hG⟩ : ∃ g, Hid (g = w.heap.size) := ⟨_, Lib.hid rfl⟩
  have RY : Hid (Y.rangeAt G 0 [.int .i64 l.au, .int .i64 l.sq, .int .i64 l.ep, .slice A n c, .slice B m d]) := by rw [hY.out, hG.out]; exact rangeNew w _ _
  have hGY : Hid (G < Y.heap.size) := by unfold Hid; rw [hG.out, hY.out, szAlloc]; exact Nat.lt_succ_self _
  go_enter Try.func10, Try.ntmps10
  unfold lnV
  go_wp2_with fail
  rw [← hY.out, ← hG.out]
  refine (newIdeal_ Y).mono ?_
  rintro e u ⟨gi, oi, rfl, iu, hin, bu⟩
  have IU := Lib.hid iu
  have BU := Lib.hid (BY.out.trans (bu.mono BY.out.size))
  have RU := range_keep RY.out bu hGY.out
  have hGu : Hid (G < u.heap.size) := Nat.lt_of_lt_of_le hGY.out bu.size
  have c0 := RU 0 _ rfl
  have c1 := RU 1 _ rfl
  have c2 := RU 2 _ rfl
  have c3 := RU 3 _ rfl
  have c4 := RU 4 _ rfl
  clear iu hin bu
  go_wp2_with fail
  refine (at_nil l.au l.sq u).mono ?_
  rintro e u' ⟨rfl, rfl⟩
  go_wp2_with fail
  refine (compare_nil V vn vc _).mono ?_
  rintro e u2 ⟨rfl, b2⟩
  clear c0 c1 c2 c3 c4
  have R2 := range_keep RU b2 hGu.out
  have f0 : ∀ o, (u2.alloc o).cell? ⟨G, 0, none⟩ = some (.int .i64 l.au) := fun o => (World.cell?_alloc_lt u2 o _ (Nat.lt_of_lt_of_le hGu.out b2.size)).trans (R2 0 _ rfl)
  have f1 : ∀ o, (u2.alloc o).cell? ⟨G, 1, none⟩ = some (.int .i64 l.sq) := fun o => (World.cell?_alloc_lt u2 o _ (Nat.lt_of_lt_of_le hGu.out b2.size)).trans (R2 1 _ rfl)
  have f2 : ∀ o, (u2.alloc o).cell? ⟨G, 2, none⟩ = some (.int .i64 l.ep) := fun o => (World.cell?_alloc_lt u2 o _ (Nat.lt_of_lt_of_le hGu.out b2.size)).trans (R2 2 _ rfl)
  have f3 : ∀ o, (u2.alloc o).cell? ⟨G, 3, none⟩ = some (.slice A n c) := fun o => (World.cell?_alloc_lt u2 o _ (Nat.lt_of_lt_of_le hGu.out b2.size)).trans (R2 3 _ rfl)
  have f4 : ∀ o, (u2.alloc o).cell? ⟨G, 4, none⟩ = some (.slice B m d) := fun o => (World.cell?_alloc_lt u2 o _ (Nat.lt_of_lt_of_le hGu.out b2.size)).trans (R2 4 _ rfl)
  go_wp2_with fail
  -- printed
  obtain ⟨Z, hZ⟩ : ∃ Z, Hid (Z = u2.alloc (.cells #[.bool false, .bool false] 81)) := ⟨_, Lib.hid rfl⟩
  obtain ⟨K, hK⟩ : ∃ g, Hid (g = u2.heap.size) := ⟨_, Lib.hid rfl⟩
  rw [← hZ.out, ← hK.out]
  have bz : Below u2.heap.size u2 Z := by rw [hZ.out]; exact (Below.refl _ _).alloc (Nat.le_refl _) _
  have BZ := Lib.hid (BU.out.trans ((b2.mono BU.out.size).trans (bz.mono (Nat.le_trans BU.out.size b2.size))))
  have RZ : Z.rangeAt G 0 [.int .i64 l.au, .int .i64 l.sq, .int .i64 l.ep, .slice A n c, .slice B m d] := range_keep R2 bz (Nat.lt_of_lt_of_le hGu.out b2.size)
  have KZ : Z.rangeAt K 0 [.bool false, .bool false] := by rw [hZ.out, hK.out]; exact rangeNew u2 _ _
  have hGZ : Hid (G < Z.heap.size) := Nat.lt_of_lt_of_le (Nat.lt_of_lt_of_le hGu.out b2.size) bz.size
  have hKZ : Hid (K < Z.heap.size) := by unfold Hid; rw [hK.out, hZ.out, szAlloc]; exact Nat.lt_succ_self _
  have IZ := Lib.hid (IU.out.below (b2.trans (bz.mono b2.size)))
  clear f0 f1 f2 f3 f4 hZ R2 b2 bz RU
  refine (check_none _ l A n c B m d Z).mono ?_
  rintro e z1 ⟨rfl, b⟩
  have Bz1 := Lib.hid (BZ.out.trans (b.mono BZ.out.size))
  have Rz1 := range_keep RZ b hGZ.out
  have Kz1 := range_keep KZ b hKZ.out
  have hGz1 : Hid (G < z1.heap.size) := Nat.lt_of_lt_of_le hGZ.out b.size
  have hKz1 : Hid (K < z1.heap.size) := Nat.lt_of_lt_of_le hKZ.out b.size
  have Iz1 := Lib.hid (IZ.out.below b)
  have c0 := Rz1 0 _ rfl
  have c1 := Rz1 1 _ rfl
  have c2 := Rz1 2 _ rfl
  have c3 := Rz1 3 _ rfl
  have c4 := Rz1 4 _ rfl
  clear b
  go_wp2_with fail
  clear c0 c1 c2 c3 c4
  refine (take_none _ l A n c B m d z1).mono ?_
  rintro e z2 ⟨rfl, b⟩
  have Bz2 := Lib.hid (Bz1.out.trans (b.mono Bz1.out.size))
  have Rz2 := range_keep Rz1 b hGz1.out
  have Kz2 := range_keep Kz1 b hKz1.out
  have hGz2 : Hid (G < z2.heap.size) := Nat.lt_of_lt_of_le hGz1.out b.size
  have hKz2 : Hid (K < z2.heap.size) := Nat.lt_of_lt_of_le hKz1.out b.size
  have Iz2 := Lib.hid (Iz1.out.below b)
  have c0 := Rz2 0 _ rfl
  have c1 := Rz2 1 _ rfl
  have c2 := Rz2 2 _ rfl
  have c3 := Rz2 3 _ rfl
  have c4 := Rz2 4 _ rfl
  clear b
  go_wp2_with fail
  clear c0 c1 c2 c3 c4
  refine (head_off none l.au z2 (Or.inl rfl)).mono ?_
  rintro e z3 ⟨rfl, b⟩
  have Bz3 := Lib.hid (Bz2.out.trans (b.mono Bz2.out.size))
  have Rz3 := range_keep Rz2 b hGz2.out
  have Kz3 := range_keep Kz2 b hKz2.out
  have hGz3 : Hid (G < z3.heap.size) := Nat.lt_of_lt_of_le hGz2.out b.size
  have hKz3 : Hid (K < z3.heap.size) := Nat.lt_of_lt_of_le hKz2.out b.size
  have Iz3 := Lib.hid (Iz2.out.below b)
  clear b
  go_wp2_with fail
  refine (sameHead_ 0 0 none 0 0 [] 0 0 none 0 0 [] z3 (Rd.nil _ _ _ _) (Rd.nil _ _ _ _)).mono ?_
  rintro e z4 ⟨rfl, b⟩
  rw [show decide ((0 : Int) = 0 ∧ (0 : Int) = 0 ∧ ([] : List UInt8) = []) = true from by decide]
  have Bz4 := Lib.hid (Bz3.out.trans (b.mono Bz3.out.size))
  have Rz4 := range_keep Rz3 b hGz3.out
  have Kz4 := range_keep Kz3 b hKz3.out
  have hGz4 : Hid (G < z4.heap.size) := Nat.lt_of_lt_of_le hGz3.out b.size
  have hKz4 : Hid (K < z4.heap.size) := Nat.lt_of_lt_of_le hKz3.out b.size
  have Iz4 := Lib.hid (Iz3.out.below b)
  have c0 := Rz4 0 _ rfl
  have c1 := Rz4 1 _ rfl
  have c2 := Rz4 2 _ rfl
  have c3 := Rz4 3 _ rfl
  have c4 := Rz4 4 _ rfl
  clear b
  go_wp2_with fail
  clear c0 c1 c2 c3 c4
  refine (vector_nil z4).mono ?_
  rintro e z5 ⟨rfl, b⟩
  have Bz5 := Lib.hid (Bz4.out.trans (b.mono Bz4.out.size))
  have Rz5 := range_keep Rz4 b hGz4.out
  have Kz5 := range_keep Kz4 b hKz4.out
  have hGz5 : Hid (G < z5.heap.size) := Nat.lt_of_lt_of_le hGz4.out b.size
  have hKz5 : Hid (K < z5.heap.size) := Nat.lt_of_lt_of_le hKz4.out b.size
  have Iz5 := Lib.hid (Iz4.out.below b)
  have k0 := Kz5 0 _ rfl
  have k1 := Kz5 1 _ rfl
  clear b
  go_wp2_with fail
  clear k0 k1
  obtain ⟨T, hT⟩ : ∃ T, Hid (T = z5.alloc (.cells #[.int .u8 1] 5)) := ⟨_, Lib.hid rfl⟩
  have bt : Below z5.heap.size z5 T := by rw [hT.out]; exact (Below.refl _ _).alloc (Nat.le_refl _) _
  have BT := Lib.hid (Bz5.out.trans (bt.mono Bz5.out.size))
  have IT := Lib.hid (Iz5.out.below bt)
  have hlit : Hid (Rd T T.heap.size 1 (some ⟨z5.heap.size, 0, none⟩) 1 (([1] : List UInt8).map B8)) := by rw [hT.out]; exact one_lit z5 1
  rw [← hT.out]
  clear hT bt
  refine (put_nil _ 1 1 [1] T hlit.out (by decide)).mono ?_
  rintro e z6 ⟨A', c', rfl, o, b⟩
  have Bz6 := Lib.hid (BT.out.trans (b.mono BT.out.size))
  have Iz6 := Lib.hid (IT.out.below b)
  have hcv : (convert 38 9 (.slice A' 1 c')).run Try.prog z6 = .ok (.string { data := #[1] }) z6 := conv8 z6 A' 1 c' [1] o.rd
  clear o b
  go_wp2_with fail
  clear hcv
  refine (clone_nil z6).mono ?_
  rintro e z7 ⟨rfl, rfl⟩
  go_wp2_with fail
  refine (len_ gi [] oi [] z7 Iz6.out).mono ?_
  rintro e z8 ⟨rfl, rfl⟩
  go_wp2_with fail
  refine (awake_ z8).mono ?_
  rintro e z9 ⟨rfl, b⟩
  have Bz9 := Lib.hid (Bz6.out.trans (b.mono Bz6.out.size))
  go_wp2_with fail
  go_ret
  exact ⟨rfl, Bz9.out⟩
end Go.Proofs.Ytabcbpcfleociaa
