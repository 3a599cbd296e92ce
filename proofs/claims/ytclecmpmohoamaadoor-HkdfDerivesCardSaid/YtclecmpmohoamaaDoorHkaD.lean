/- The document's Mac, Extract; the laws' own helpers of chapter 7. (Printed by gen_hka.py.) -/
import Derived.Test.YtclecmpmohoamaaDoorHkaC
import Derived.Test.YtclecmpmohoamaaDoorShaW
namespace Go.Proofs.YtclecmpmohoamaaDoor
open Go.RowKit
attribute [local go_sem ↓] Go.wp_at_zero Go.wp_at_succ
set_option linter.unusedSimpArgs false
set_option linter.unusedVariables false
theorem rMac_ (A : Option Addr) (n c : Nat) (key : List UInt8) (A' : Option Addr) (n' c' : Nat) (b : List UInt8) (w : World) (hr : Rd w w.heap.size 1 A n (key.map B8)) (hr' : Rd w w.heap.size 1 A' n' (b.map B8)) (hn : n ≤ 900000) (hn' : n' ≤ 900000) :
    Calls Tryd.prog 28 #[.slice A n c, .slice A' n' c'] w (Ret32 (hmac key b) w) := by
  have HR := Lib.hid hr
  have HR' := Lib.hid hr'
  clear hr hr'
  go_enter Tryd.func28, Tryd.ntmps28
  go_wp2_with fail
  refine (kind_32 _).mono ?_
  rintro e w1 ⟨A1, c1, A2, c2, rfl, h1, h2, hb1⟩
  have H1 := Lib.hid h1
  have H2 := Lib.hid h2
  clear h1 h2
  go_wp2_with fail
  refine (rmac_ A n c key A' n' c' b A1 A2 c1 c2 w1 H1.out H2.out (HR.out.to hb1) (HR'.out.to hb1) hn hn').mono ?_
  rintro e w2 ⟨A3, c3, rfl, h3, hb2⟩
  have H3 := Lib.hid h3
  clear h3
  go_wp2_with fail
  go_ret
  exact ⟨A3, c3, rfl, own_mono H3.out hb1.size, hb1.trans (hb2.mono hb1.size)⟩
theorem cells_zero : (madeCells #[Value.int .u8 0] (32 * 1)).toList = (List.replicate 32 (0 : UInt8)).map B8 := by
  rw [Nat.mul_one, toList_madeCells_one]
  simp only [List.map_replicate]
  rfl
theorem rExtract_ (A : Option Addr) (n c : Nat) (key : List UInt8) (A' : Option Addr) (n' c' : Nat) (b : List UInt8) (w : World) (hr : Rd w w.heap.size 1 A n (key.map B8)) (hr' : Rd w w.heap.size 1 A' n' (b.map B8)) (hn : n ≤ 900000) (hn' : n' ≤ 900000) :
    Calls Tryd.prog 30 #[.slice A n c, .slice A' n' c'] w (Ret32 (hmac key b) w) := by
  obtain rfl : key.length = n := by simpa using hr.len
  by_cases h0 : key.length = 0
  · have h0' : (key.length : Int) = 0 := by omega
    have hk : key = [] := List.eq_nil_of_length_eq_zero h0
    obtain ⟨i0, hi0, hz0, hz1, hz2⟩ := info_parts info8
    have HR' := Lib.hid hr'
    have Hk := Lib.hid hk
    clear hr hr' hk
    obtain ⟨kl, hkl⟩ : ∃ kl, Hid (kl = key.length) := ⟨_, Lib.hid rfl⟩
    have h0k : kl = 0 := by rw [hkl.out]; exact h0
    have hmk : hmac (List.replicate 32 0) b = hmac key b := by
      rw [Hk.out]
      have := hmac_zeros (key := []) (k := 32) (by decide) b
      rwa [List.nil_append] at this
    have Hmk := Lib.hid hmk
    clear hmk
    go_enter Tryd.func30, Tryd.ntmps30
    go_wp2_with (at_make
                 refine wpList_make_full _ rfl (.const (.int .i64 32)) (.const (.int .i64 32)) 22 rfl w.heap.size 5 i0 _ 1 Tryd.underlying22 hi0 hz0 hz1 _ _ _ _ 32 rfl rfl rfl rfl (by rw [hz2]; omega) (by simp only [maxLen]; omega) (Nat.le_refl _) ?_
                 intro w1 h1 hg1
                 have hb1 : Below w.heap.size w w1 := (Below.refl _ _).grown hg1 (Nat.le_refl _) (fun k hk => by cases hk)
                 have H1 : Hid (w1.ownsRow w.heap.size 5 1 (.slice (some ⟨w.heap.size, 0, none⟩) 32 32) 32 ((List.replicate 32 (0 : UInt8)).map B8)) := by rw [← cells_zero]; exact h1
                 have Hb1 := Lib.hid hb1
                 clear h1 hb1)
    refine (rMac_ (some ⟨w.heap.size, 0, none⟩) 32 32 (List.replicate 32 0) A' n' c' b w1 (Rd.of_own H1.out) (HR'.out.to Hb1.out) (by omega) hn').mono ?_
    rintro e w2 ⟨A3, c3, rfl, h3, hb2⟩
    rw [Hmk.out] at h3
    have H3 := Lib.hid h3
    clear h3
    go_wp2_with fail
    go_ret
    exact ⟨A3, c3, rfl, own_mono H3.out Hb1.out.size, Hb1.out.trans (hb2.mono Hb1.out.size)⟩
  · have h0' : ¬ (key.length : Int) = 0 := by omega
    have HR := Lib.hid hr
    have HR' := Lib.hid hr'
    clear hr hr'
    go_enter Tryd.func30, Tryd.ntmps30
    go_wp2_with fail
    refine (rMac_ A key.length c key A' n' c' b w HR.out HR'.out hn hn').mono ?_
    rintro e w2 ⟨A3, c3, rfl, h3, hb2⟩
    have H3 := Lib.hid h3
    clear h3
    go_wp2_with fail
    go_ret
    exact ⟨A3, c3, rfl, H3.out, hb2⟩
theorem own7_any (A : Option Addr) (n c : Nat) (l : List UInt8) (w : World) (hr : Rd w w.heap.size 1 A n (l.map B8)) (hn : n ≤ 140737488355328) :
    Calls Tryd.prog 26 #[.slice A n c] w fun e w' => ∃ A' c', e = .returned (.slice A' n c') ∧ w'.ownsRow w.heap.size 5 1 (.slice A' n c') n (l.map B8) ∧ Below w.heap.size w w' := by
  obtain rfl : l.length = n := by simpa using hr.len
  go_enter Tryd.func26, Tryd.ntmps26
  go_wp2_with (at_builtin; refine wpList_app rfl (.tmp 3) (.tmp 4) _ rfl w.heap.size 5 1 1 _ Tryd.underlying22 info8 rfl (by omega) (.slice (some ⟨w.heap.size, 0, none⟩) 0 0) 0 [] rfl (World.ownsRow_lit w #[] 0 (Nat.le_refl _) (by simp [maxLen]) rfl) w.heap.size A l.length c _ rfl (hr.alloc (Nat.le_refl _) _) (B8_one _) (by simp only [maxLen]; omega) (by omega) (by simp) ?_; intro A' c' w' h1 h2 h3)
  go_ret
  exact ⟨A', c', rfl, by simpa using h1, ((Below.refl _ _).alloc (Nat.le_refl _) _).grown h2 (by simp) (fun k hk => by simp [Value.ownBlock] at hk; omega)⟩
theorem own_four {w : World} {base n : Nat} {A : Option Addr} {c : Nat} {l : List UInt8} {a b a' b' : UInt8} (h : w.ownsRow base 5 1 (.slice A n c) n (l.map B8)) (hn : 4 ≤ n) (h2 : l.take 4 = [a, b, a', b']) :
    ∃ g, A = some ⟨g, 0, none⟩ ∧ n ≤ c ∧ w.cell? ⟨g, 0, none⟩ = some (.int .u8 (a.toNat : Int)) ∧ w.cell? ⟨g, 1, none⟩ = some (.int .u8 (b.toNat : Int)) ∧ w.cell? ⟨g, 2, none⟩ = some (.int .u8 (a'.toNat : Int)) ∧ w.cell? ⟨g, 3, none⟩ = some (.int .u8 (b'.toNat : Int)) := by
  obtain ⟨g, rfl, h1, h3⟩ := own_addr h (by omega)
  obtain ⟨e0, e1, e2, e3⟩ : l[0]? = some a ∧ l[1]? = some b ∧ l[2]? = some a' ∧ l[3]? = some b' := by
    match l, h2 with
    | x :: y :: z :: u :: r, h => simp at h; obtain ⟨rfl, rfl, rfl, rfl⟩ := h; exact ⟨rfl, rfl, rfl, rfl⟩
  refine ⟨g, rfl, own_cap h, ?_, ?_, ?_, ?_⟩
  · rw [h.cellAt 0 (by omega), List.getElem?_map, e0]; rfl
  · rw [h.cellAt 1 (by omega), List.getElem?_map, e1]; rfl
  · rw [h.cellAt 2 (by omega), List.getElem?_map, e2]; rfl
  · rw [h.cellAt 3 (by omega), List.getElem?_map, e3]; rfl
set_option maxRecDepth 20000 in
set_option maxHeartbeats 4000000 in
theorem awake7_any (w : World) (hL : LayS w) : Calls Tryd.prog 25 #[] w fun e w' => e = .returned (.bool true) ∧ Below w.heap.size w w' := by
  have b0 : Below w.heap.size w (w.alloc (.cells #[.int .u8 107, .int .u8 101, .int .u8 121] 5 (3, 4))) := (Below.refl _ _).alloc (Nat.le_refl _) _
  obtain ⟨W1, hW1⟩ : ∃ W1, Hid (W1 = w.alloc (.cells #[.int .u8 107, .int .u8 101, .int .u8 121] 5 (3, 4))) := ⟨_, Lib.hid rfl⟩
  have q1 : Hid (Rd W1 W1.heap.size 1 (some ⟨w.heap.size, 0, none⟩) 3 (([107, 101, 121] : List UInt8).map B8)) := by rw [hW1.out]; exact rd_lit w [107, 101, 121] 5 (3, 4) 3 rfl
  have hs1 : W1.heap.size = w.heap.size + 1 := by rw [hW1.out]; exact szAlloc _ _
  have b1 : Below W1.heap.size W1 (W1.alloc (.cells #[.int .u8 84, .int .u8 104, .int .u8 101, .int .u8 32, .int .u8 113, .int .u8 117, .int .u8 105, .int .u8 99, .int .u8 107, .int .u8 32, .int .u8 98, .int .u8 114, .int .u8 111, .int .u8 119, .int .u8 110, .int .u8 32, .int .u8 102, .int .u8 111, .int .u8 120, .int .u8 32, .int .u8 106, .int .u8 117, .int .u8 109, .int .u8 112, .int .u8 115, .int .u8 32, .int .u8 111, .int .u8 118, .int .u8 101, .int .u8 114, .int .u8 32, .int .u8 116, .int .u8 104, .int .u8 101, .int .u8 32, .int .u8 108, .int .u8 97, .int .u8 122, .int .u8 121, .int .u8 32, .int .u8 100, .int .u8 111, .int .u8 103] 5 (43, 44))) := (Below.refl _ _).alloc (Nat.le_refl _) _
  obtain ⟨W2, hW2⟩ : ∃ W2, Hid (W2 = W1.alloc (.cells #[.int .u8 84, .int .u8 104, .int .u8 101, .int .u8 32, .int .u8 113, .int .u8 117, .int .u8 105, .int .u8 99, .int .u8 107, .int .u8 32, .int .u8 98, .int .u8 114, .int .u8 111, .int .u8 119, .int .u8 110, .int .u8 32, .int .u8 102, .int .u8 111, .int .u8 120, .int .u8 32, .int .u8 106, .int .u8 117, .int .u8 109, .int .u8 112, .int .u8 115, .int .u8 32, .int .u8 111, .int .u8 118, .int .u8 101, .int .u8 114, .int .u8 32, .int .u8 116, .int .u8 104, .int .u8 101, .int .u8 32, .int .u8 108, .int .u8 97, .int .u8 122, .int .u8 121, .int .u8 32, .int .u8 100, .int .u8 111, .int .u8 103] 5 (43, 44))) := ⟨_, Lib.hid rfl⟩
  have q2 : Hid (Rd W2 W2.heap.size 1 (some ⟨w.heap.size + 1, 0, none⟩) 43 (fox.map B8)) := by rw [hW2.out, ← hs1]; exact rd_lit W1 fox 5 (43, 44) 43 rfl
  rw [← hW1.out] at b0
  rw [← hW2.out] at b1
  have hb02 : Below w.heap.size w W2 := b0.trans (b1.mono (by omega))
  have q3 := Lib.hid (q1.out.to b1)
  have HL := Lib.hid (hL.go' hb02)
  have Hb02 := Lib.hid hb02
  have hv1 : (convert 22 22 (.slice (some ⟨w.heap.size, 0, none⟩) 3 3)).run Tryd.prog (w.alloc (.cells #[.int .u8 107, .int .u8 101, .int .u8 121] 5)) = .ok (.slice (some ⟨w.heap.size, 0, none⟩) 3 3) W1 := by
    rw [hW1.out]; exact Go.Joins.run_convert_bytes_const_at w _ _ _ 3 3 _ rfl Tryd.underlying22 Tryd.underlying5
  have hv2 : (convert 22 22 (.slice (some ⟨W1.heap.size, 0, none⟩) 43 43)).run Tryd.prog (W1.alloc (.cells #[.int .u8 84, .int .u8 104, .int .u8 101, .int .u8 32, .int .u8 113, .int .u8 117, .int .u8 105, .int .u8 99, .int .u8 107, .int .u8 32, .int .u8 98, .int .u8 114, .int .u8 111, .int .u8 119, .int .u8 110, .int .u8 32, .int .u8 102, .int .u8 111, .int .u8 120, .int .u8 32, .int .u8 106, .int .u8 117, .int .u8 109, .int .u8 112, .int .u8 115, .int .u8 32, .int .u8 111, .int .u8 118, .int .u8 101, .int .u8 114, .int .u8 32, .int .u8 116, .int .u8 104, .int .u8 101, .int .u8 32, .int .u8 108, .int .u8 97, .int .u8 122, .int .u8 121, .int .u8 32, .int .u8 100, .int .u8 111, .int .u8 103] 5)) = .ok (.slice (some ⟨W1.heap.size, 0, none⟩) 43 43) W2 := by
    rw [hW2.out]; exact Go.Joins.run_convert_bytes_const_at W1 _ _ _ 43 43 _ rfl Tryd.underlying22 Tryd.underlying5
  rw [← hs1] at q2
  clear hL b0 b1 hb02 q1 hs1
  go_enter Tryd.func25, Tryd.ntmps25
  go_wp2_with fail
  refine (pMac_ _ 3 3 [107, 101, 121] _ 43 43 fox W2 q3.out (by decide) q2.out (by decide) (by decide) HL.out).mono ?_
  rintro e w3 ⟨A3, c3, rfl, h3, hb3⟩
  obtain ⟨g, rfl, hc, k0, k1, k2, k3⟩ := own_four h3 (by decide) fox_mac
  have m0 : w3.cell? ⟨g, 0, none⟩ = some (.int .u8 247) := k0
  have m1 : w3.cell? ⟨g, 1, none⟩ = some (.int .u8 188) := k1
  have m2 : w3.cell? ⟨g, 2, none⟩ = some (.int .u8 131) := k2
  have m3 : w3.cell? ⟨g, 3, none⟩ = some (.int .u8 244) := k3
  clear h3 k0 k1 k2 k3
  go_wp2_with fail
  go_ret
  exact ⟨rfl, Hb02.out.trans (hb3.mono Hb02.out.size)⟩
end Go.Proofs.YtclecmpmohoamaaDoor
