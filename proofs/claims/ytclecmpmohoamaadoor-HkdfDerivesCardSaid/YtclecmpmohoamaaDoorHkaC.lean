/- The document's Join, mac, Mac, Extract. (Printed by gen_hka.py.) -/
import Derived.Test.YtclecmpmohoamaaDoorHkaB
import Derived.Test.YtclecmpmohoamaaDoorShaG
import Derived.Test.YtclecmpmohoamaaDoorSlt
import Derived.Test.YtclecmpmohoamaaDoorReg
namespace Go.Proofs.YtclecmpmohoamaaDoor
open Go.RowKit
attribute [local go_sem ↓] Go.wp_at_zero Go.wp_at_succ
set_option linter.unusedSimpArgs false
set_option linter.unusedVariables false
theorem rJoin_ (A : Option Addr) (n c : Nat) (a : List UInt8) (A' : Option Addr) (n' c' : Nat) (b : List UInt8) (w : World) (hr : Rd w w.heap.size 1 A n (a.map B8)) (hr' : Rd w w.heap.size 1 A' n' (b.map B8)) (hn : n ≤ 1000000) (hn' : n' ≤ 1000000) :
    Calls Tryd.prog 49 #[.slice A n c, .slice A' n' c'] w fun e w' => ∃ A2 c2 m, Hid (m = n + n') ∧ e = .returned (.slice A2 m c2) ∧ OwnS w' w.heap.size A2 m c2 ((a ++ b).map B8) ∧ Below w.heap.size w w' := by
  obtain rfl : a.length = n := by simpa using hr.len
  obtain rfl : b.length = n' := by simpa using hr'.len
  have hb0 : Below w.heap.size w (w.alloc (.cells #[] 5)) := (Below.refl _ _).alloc (Nat.le_refl _) _
  have HR := Lib.hid (hr.to hb0)
  have HR' := Lib.hid hr'
  have hoa := Lib.hid (oneB a)
  have hob := Lib.hid (oneB b)
  have Hb0 := Lib.hid hb0
  clear hr hr' hb0
  go_enter Tryd.func49, Tryd.ntmps49
  go_wp2_with (first
    | (at_builtin
       refine wpList_apT rfl (.tmp 5) (.tmp 6) 22 rfl w.heap.size 5 1 (.int .u8 0) Tryd.underlying22 infoB rfl (some ⟨w.heap.size, 0, none⟩) 0 0 [] rfl (OwnS.nil _ _ _) _ A a.length c (a.map B8) rfl HR.out hoa.out (by simp only [maxLen]; omega) (by omega) (by simp) ?_
       intro A5 c5 w5 o5 b5 _ _ _
       rw [List.nil_append, Nat.zero_add] at o5
       rw [Nat.zero_add]
       have Ho5 := Lib.hid o5
       have Hb5 := Lib.hid (Hb0.out.trans b5)
       have HR5 := Lib.hid (HR'.out.to Hb5.out)
       have hs5 := Hb5.out.size
       clear o5 b5)
    | (at_builtin
       refine wpList_apT rfl (.tmp 7) (.tmp 8) 22 rfl w.heap.size 5 1 (.int .u8 0) Tryd.underlying22 infoB rfl A5 a.length c5 (a.map B8) rfl Ho5.out _ A' b.length c' (b.map B8) rfl HR5.out hob.out (by simp only [maxLen]; omega) (by omega) hs5 ?_
       intro A6 c6 w6 o6 b6 _ _ _
       rw [← List.map_append] at o6
       have Ho6 := Lib.hid o6
       have Hb6 := Lib.hid (Hb5.out.trans b6)
       clear o6 b6))
  go_ret
  exact ⟨A6, c6, a.length + b.length, rfl, rfl, Ho6.out, Hb6.out⟩
theorem rsum_m (A : Option Addr) (n c : Nat) (l : List UInt8) (A1 A2 : Option Addr) (c1 c2 : Nat) (w : World) (h1 : Rd w w.heap.size 1 A1 64 (K32.key.map U)) (h2 : Rd w w.heap.size 1 A2 8 (F32.l.map U)) (hr : Rd w w.heap.size 1 A n (l.map B8)) (hn : n ≤ 1000000) :
    Calls Tryd.prog 36 #[.agg #[.int .i64 32, .int .i64 64, .int .i64 2, .int .i64 13, .int .i64 22, .int .i64 6, .int .i64 11, .int .i64 25, .int .i64 7, .int .i64 18, .int .i64 3, .int .i64 17, .int .i64 19, .int .i64 10, .slice A1 64 c1, .slice A2 8 c2], .slice A n c] w fun e w' => ∃ A' c' m, Hid (m = 32) ∧ e = .returned (.slice A' m c') ∧ w'.ownsRow w.heap.size 5 1 (.slice A' m c') m ((sumOf K32 F32 l).map B8) ∧ Below w.heap.size w w' :=
  (rsum_32 A n c l A1 A2 c1 c2 w h1 h2 hr hn).mono fun _ _ ⟨A', c', he, ho, hb⟩ => ⟨A', c', 32, rfl, he, ho, hb⟩
/-- The i-th byte of a key of 64, as the document reads it. -/
theorem hk64_at (k : List UInt8) (hk : k.length ≤ 64) (i : Nat) (hi : i < 64) : (k ++ List.replicate (64 - k.length) 0)[i]? = some (k.getD i 0) := by
  rcases Nat.lt_or_ge i k.length with h | h
  · rw [List.getElem?_append_left h, List.getD_eq_getElem?_getD, List.getElem?_eq_getElem h]; rfl
  · rw [List.getElem?_append_right h, List.getD_eq_getElem?_getD, List.getElem?_eq_none h, List.getElem?_replicate, if_pos (by omega)]; rfl
theorem hxor_snoc (y x : UInt8) (l : List UInt8) (i : Nat) (h : l[i]? = some x) : hxor y (l.take i) ++ [x ^^^ y] = hxor y (l.take (i + 1)) := by
  unfold hxor
  rw [List.take_add_one, h]
  simp
theorem one_lit (w : World) (z : UInt8) : Rd (w.alloc (.cells #[.int .u8 (z.toNat : Int)] 5)) (w.alloc (.cells #[.int .u8 (z.toNat : Int)] 5)).heap.size 1 (some ⟨w.heap.size, 0, none⟩) 1 (([z] : List UInt8).map B8) := by
  refine ⟨rfl, fun _ => ⟨w.heap.size, 0, rfl, by simp, fun j u hu => cell_blk (heap_alloc_new w _) _ ?_⟩⟩
  rw [Nat.zero_add, ← hu]
  rcases j with _ | j <;> rfl
/-- Two slices of one's own that lie apart. -/
structure Two (w : World) (base : Nat) (A : Option Addr) (n c : Nat) (l : List UInt8) (A' : Option Addr) (n' c' : Nat) (l' : List UInt8) : Prop where
  a : OwnS w base A n c (l.map B8)
  b : OwnS w base A' n' c' (l'.map B8)
  al : ∀ g o, A = some ⟨g, o, none⟩ → g < w.heap.size
  bl : ∀ g o, A' = some ⟨g, o, none⟩ → g < w.heap.size
  ne : ∀ g o g' o', A = some ⟨g, o, none⟩ → A' = some ⟨g', o', none⟩ → g ≠ g'
theorem Two.swap {w : World} {base n c n' c' : Nat} {A A' : Option Addr} {l l' : List UInt8} (h : Two w base A n c l A' n' c' l') : Two w base A' n' c' l' A n c l := ⟨h.b, h.a, h.bl, h.al, fun g o g' o' h1 h2 e => h.ne g' o' g o h2 h1 e.symm⟩
theorem Two.to {w w' : World} {base n c n' c' : Nat} {A A' : Option Addr} {l l' : List UInt8} (h : Two w base A n c l A' n' c' l') (hb : Below w.heap.size w w') : Two w' base A n c l A' n' c' l' := ⟨h.a.to hb, h.b.to hb, fun g o e => Nat.lt_of_lt_of_le (h.al g o e) hb.size, fun g o e => Nat.lt_of_lt_of_le (h.bl g o e) hb.size, h.ne⟩
/-- The first of two is appended to. -/
theorem Two.app {w w' : World} {base n c n' c' m c2 : Nat} {A A' A2 : Option Addr} {l l' l2 : List UInt8} (h : Two w base A n c l A' n' c' l') (o : OwnS w' base A2 m c2 (l2.map B8)) (hs : w.heap.size ≤ w'.heap.size)
    (k : ∀ k, k < w.heap.size → (∀ g o, A = some ⟨g, o, none⟩ → k ≠ g) → w'.heap[k]? = w.heap[k]?) (e : A2 = A ∨ A2 = some ⟨w.heap.size, 0, none⟩ ∧ w.heap.size < w'.heap.size) : Two w' base A2 m c2 l2 A' n' c' l' := by
  refine ⟨o, h.b.same fun b o' e' hb => k b hb (fun g o e2 e3 => h.ne g o b o' e2 e' e3.symm), ?_, fun g o e => Nat.lt_of_lt_of_le (h.bl g o e) hs, ?_⟩
  · intro g o e1
    rcases e with rfl | ⟨rfl, h6⟩
    · exact Nat.lt_of_lt_of_le (h.al g o e1) hs
    · injection e1 with e1; injection e1 with e2; subst e2; exact h6
  · intro g o g' o' e1 e2
    rcases e with rfl | ⟨rfl, h6⟩
    · exact h.ne g o g' o' e1 e2
    · injection e1 with e1; injection e1 with e3; subst e3; exact fun e4 => by have := h.bl g' o' e2; omega
set_option maxRecDepth 20000 in
set_option maxHeartbeats 8000000 in
theorem rmac_ (A : Option Addr) (n c : Nat) (key : List UInt8) (A' : Option Addr) (n' c' : Nat) (b : List UInt8) (A1 A2 : Option Addr) (c1 c2 : Nat) (w : World) (h1 : Rd w w.heap.size 1 A1 64 (K32.key.map U)) (h2 : Rd w w.heap.size 1 A2 8 (F32.l.map U))
    (hr : Rd w w.heap.size 1 A n (key.map B8)) (hr' : Rd w w.heap.size 1 A' n' (b.map B8)) (hn : n ≤ 900000) (hn' : n' ≤ 900000) :
    Calls Tryd.prog 48 #[.agg #[.int .i64 32, .int .i64 64, .int .i64 2, .int .i64 13, .int .i64 22, .int .i64 6, .int .i64 11, .int .i64 25, .int .i64 7, .int .i64 18, .int .i64 3, .int .i64 17, .int .i64 19, .int .i64 10, .slice A1 64 c1, .slice A2 8 c2], .slice A n c, .slice A' n' c'] w (Ret32 (hmac key b) w) := by
  obtain rfl : key.length = n := by simpa using hr.len
  obtain rfl : b.length = n' := by simpa using hr'.len
  obtain ⟨W, hW⟩ : ∃ W, W = w.alloc (.cells #[.int .i64 32, .int .i64 64, .int .i64 2, .int .i64 13, .int .i64 22, .int .i64 6, .int .i64 11, .int .i64 25, .int .i64 7, .int .i64 18, .int .i64 3, .int .i64 17, .int .i64 19, .int .i64 10, .slice A1 64 c1, .slice A2 8 c2] 50) := ⟨_, rfl⟩
  have hb0 : Below w.heap.size w W := by rw [hW]; exact (Below.refl _ _).alloc (Nat.le_refl _) _
  have hK : Hid (W.heap[w.heap.size]? = some (.cells #[.int .i64 32, .int .i64 64, .int .i64 2, .int .i64 13, .int .i64 22, .int .i64 6, .int .i64 11, .int .i64 25, .int .i64 7, .int .i64 18, .int .i64 3, .int .i64 17, .int .i64 19, .int .i64 10, .slice A1 64 c1, .slice A2 8 c2] 50 (0, 0))) := by rw [hW]; exact heap_alloc_new w _
  have Hs1 := Lib.hid (h1.to hb0)
  have Hs2 := Lib.hid (h2.to hb0)
  have HR := Lib.hid (hr.to hb0)
  have HR' := Lib.hid (hr'.to hb0)
  have Hb0 := Lib.hid hb0
  have hgl : w.heap.size < W.heap.size := by rw [hW]; simp
  have HW := Lib.hid hW
  clear h1 h2 hr hr' hb0 hW
  by_cases h64 : 64 < key.length
  · have h64' : (64 : Int) < key.length := by omega
    have hrK : Hid (W.rangeAt w.heap.size 0 [.int .i64 32, .int .i64 64, .int .i64 2, .int .i64 13, .int .i64 22, .int .i64 6, .int .i64 11, .int .i64 25, .int .i64 7, .int .i64 18, .int .i64 3, .int .i64 17, .int .i64 19, .int .i64 10, .slice A1 64 c1, .slice A2 8 c2]) := range_of hK.out
    go_enter Tryd.func48, Tryd.ntmps48
    have hrK' := hrK.out
    rw [HW.out] at hrK'
    go_wp2_with (refine wpList_load_mid rfl 50 (.tmp 3) rfl w.heap.size 0 rfl [.int .i64 32, .int .i64 64, .int .i64 2, .int .i64 13, .int .i64 22, .int .i64 6, .int .i64 11, .int .i64 25, .int .i64 7, .int .i64 18, .int .i64 3, .int .i64 17, .int .i64 19, .int .i64 10, .slice A1 64 c1, .slice A2 8 c2] _ hrK' Tryd.underlying50 rfl (by kernel_rfl) ?_)
    rw [← HW.out]
    refine (rsum_m A _ c key A1 A2 c1 c2 W Hs1.out Hs2.out HR.out (by omega)).mono ?_
    rintro e wk ⟨Ak, ck, nk, hnk, rfl, hk, hbk⟩
    have hrk := Lib.hid (Rd.of_own hk)
    obtain ⟨lk, hlk⟩ : ∃ l, Hid (l = sumOf K32 F32 key) := ⟨_, Lib.hid rfl⟩
    rw [← hlk.out] at hrk
    have hlen : Hid (lk.length = nk) := by unfold Hid; rw [hlk.out, sumOf_len32, hnk.out]
    have hnkb : nk ≤ 64 := by rw [hnk.out]; decide
    have hkey : Hid (hkey key = lk) := by unfold Hid hkey; rw [if_pos h64, hlk.out]
    have Hbk := Lib.hid hbk
    clear hk hbk hrK'
    go_wp2_with fail
    have hsk := Hbk.out.size
    have hT0 : Hid (Two wk wk.heap.size none 0 0 (hxor 54 ((hk64 key).take 0)) none 0 0 (hxor 92 ((hk64 key).take 0))) := by
      refine ⟨OwnS.nil _ _ _, OwnS.nil _ _ _, (fun _ _ e => by cases e), (fun _ _ e => by cases e), (fun _ _ _ _ e => by cases e)⟩
    go_wp2_with fail
    go_loopw [7, 8, 9, 10] (fun x7 x8 x9 _ wr => ∃ (i : Nat) (Ai : Option Addr) (ci : Nat) (Ao : Option Addr) (co : Nat), x7 = .slice Ai i ci ∧ x8 = .slice Ao i co ∧ x9 = .int .i64 i ∧ i ≤ 64 ∧ Hid (Two wr wk.heap.size Ai i ci (hxor 54 ((hk64 key).take i)) Ao i co (hxor 92 ((hk64 key).take i))) ∧ Hid (Below wk.heap.size wk wr)) (fun _ _ x9 _ _ => 64 - (intOf x9).toNat)
    case atStart => exact ⟨0, none, 0, none, 0, rfl, rfl, rfl, by omega, hT0, Below.refl _ _⟩
    case round =>
      obtain ⟨i, Ai, ci, Ao, co, rfl, rfl, rfl, hi, hT, hb⟩ := hrel
      by_cases hi64 : i < 64
      · have hi1 : (i : Int) < 64 := by omega
        have hi0 : (0 : Int) ≤ (i : Int) := by omega
        obtain ⟨x, hx'⟩ : ∃ x, Hid (lk.getD i 0 = x) := ⟨_, Lib.hid rfl⟩
        have hat : Hid ((hk64 key)[i]? = some x) := by
          unfold Hid hk64
          rw [hkey.out, hk64_at lk (by rw [hlen.out]; exact hnkb) i hi64, hx'.out]
        obtain ⟨z, hz⟩ : ∃ z, Hid (x ^^^ 54 = z) := ⟨_, Lib.hid rfl⟩
        obtain ⟨y, hy⟩ : ∃ z, Hid (x ^^^ 92 = z) := ⟨_, Lib.hid rfl⟩
        have fz : bits .xor .u8 (x.toNat : Int) 54 = (z.toNat : Int) := by
          rw [show (54 : Int) = ((54 : Nat) : Int) from rfl, u8_xor_nat _ _ x.toNat_lt (by decide), ← hz.out, UInt8.toNat_xor]; rfl
        have fy : bits .xor .u8 (x.toNat : Int) 92 = (y.toNat : Int) := by
          rw [show (92 : Int) = ((92 : Nat) : Int) from rfl, u8_xor_nat _ _ x.toNat_lt (by decide), ← hy.out, UInt8.toNat_xor]; rfl
        have hsn := Lib.hid (hxor_snoc 54 x (hk64 key) i hat.out)
        have hso := Lib.hid (hxor_snoc 92 x (hk64 key) i hat.out)
        rw [hz.out] at hsn
        rw [hy.out] at hso
        have e8 : IntKind.i64.wrap ((i : Int) + 1) = ((i + 1 : Nat) : Int) := by rw [IntWalk.i64_in _ (by omega)]; omega
        have hT1 := Lib.hid (hT.out.to ((Below.refl wr.heap.size wr).alloc (Nat.le_refl _) (.cells #[.int .u8 (z.toNat : Int)] 5)))
        have hb1 := Lib.hid (hb.out.trans ((Below.refl wk.heap.size wr).alloc hb.out.size (.cells #[.int .u8 (z.toNat : Int)] 5)))
        have hl1 := Lib.hid (one_lit wr z)
        have hoz := Lib.hid (oneB [z])
        have hoy := Lib.hid (oneB [y])
        have hin := hb.out.size
        by_cases hik : i < nk
        · have hik' : (i : Int) < nk := by omega
          obtain ⟨bp, op, y', hAk, hbp, hy', hcp⟩ := (hrk.out.below hb.out).at8 (k := i) hik
          subst hAk
          obtain rfl : x = y' := by rw [← hx'.out, List.getD_eq_getElem?_getD, hy']; rfl
          go_wp2_with (first
            | (at_builtin
               refine wpList_apT rfl (.tmp 29) (.tmp 32) 22 rfl wk.heap.size 5 1 (.int .u8 0) Tryd.underlying22 infoB rfl Ai i ci _ rfl hT1.out.a _ (some ⟨wr.heap.size, 0, none⟩) 1 1 (([z] : List UInt8).map B8) rfl hl1.out hoz.out (by simp only [maxLen]; omega) (by omega) hb1.out.size ?_
               intro A3 c3 w3 o3 b3 _ k3 a3
               rw [← List.map_append, hsn.out] at o3
               have T3 := Lib.hid (hT1.out.app o3 b3.size k3 a3)
               have B3 := Lib.hid (hb1.out.trans b3)
               have T4 := Lib.hid (T3.out.to ((Below.refl w3.heap.size w3).alloc (Nat.le_refl _) (.cells #[.int .u8 (y.toNat : Int)] 5)))
               have B4 := Lib.hid (B3.out.trans ((Below.refl wk.heap.size w3).alloc B3.out.size (.cells #[.int .u8 (y.toNat : Int)] 5)))
               have hl4 := Lib.hid (one_lit w3 y)
               clear o3 b3 k3 a3)
            | (at_builtin
               refine wpList_apT rfl (.tmp 34) (.tmp 37) 22 rfl wk.heap.size 5 1 (.int .u8 0) Tryd.underlying22 infoB rfl Ao i co _ rfl T4.out.b _ (some ⟨w3.heap.size, 0, none⟩) 1 1 (([y] : List UInt8).map B8) rfl hl4.out hoy.out (by simp only [maxLen]; omega) (by omega) B4.out.size ?_
               intro A5 c5 w5 o5 b5 _ k5 a5
               rw [← List.map_append, hso.out] at o5
               have T5 := Lib.hid ((T4.out.swap.app o5 b5.size k5 a5).swap)
               have B5 := Lib.hid (B4.out.trans b5)
               clear o5 b5 k5 a5))
          exact ⟨⟨i + 1, A3, c3, A5, c5, rfl, rfl, by go_num, by omega, T5, B5⟩, by simp only [intOf]; omega⟩
        · have hik' : ¬ (i : Int) < nk := by omega
          obtain rfl : x = 0 := by rw [← hx'.out, List.getD_eq_getElem?_getD, List.getElem?_eq_none (by rw [hlen.out]; omega)]; rfl
          have fz' : bits .xor .u8 (0 : Int) 54 = (z.toNat : Int) := fz
          have fy' : bits .xor .u8 (0 : Int) 92 = (y.toNat : Int) := fy
          go_wp2_with (first
            | (at_builtin
               refine wpList_apT rfl (.tmp 29) (.tmp 32) 22 rfl wk.heap.size 5 1 (.int .u8 0) Tryd.underlying22 infoB rfl Ai i ci _ rfl hT1.out.a _ (some ⟨wr.heap.size, 0, none⟩) 1 1 (([z] : List UInt8).map B8) rfl hl1.out hoz.out (by simp only [maxLen]; omega) (by omega) hb1.out.size ?_
               intro A3 c3 w3 o3 b3 _ k3 a3
               rw [← List.map_append, hsn.out] at o3
               have T3 := Lib.hid (hT1.out.app o3 b3.size k3 a3)
               have B3 := Lib.hid (hb1.out.trans b3)
               have T4 := Lib.hid (T3.out.to ((Below.refl w3.heap.size w3).alloc (Nat.le_refl _) (.cells #[.int .u8 (y.toNat : Int)] 5)))
               have B4 := Lib.hid (B3.out.trans ((Below.refl wk.heap.size w3).alloc B3.out.size (.cells #[.int .u8 (y.toNat : Int)] 5)))
               have hl4 := Lib.hid (one_lit w3 y)
               clear o3 b3 k3 a3)
            | (at_builtin
               refine wpList_apT rfl (.tmp 34) (.tmp 37) 22 rfl wk.heap.size 5 1 (.int .u8 0) Tryd.underlying22 infoB rfl Ao i co _ rfl T4.out.b _ (some ⟨w3.heap.size, 0, none⟩) 1 1 (([y] : List UInt8).map B8) rfl hl4.out hoy.out (by simp only [maxLen]; omega) (by omega) B4.out.size ?_
               intro A5 c5 w5 o5 b5 _ k5 a5
               rw [← List.map_append, hso.out] at o5
               have T5 := Lib.hid ((T4.out.swap.app o5 b5.size k5 a5).swap)
               have B5 := Lib.hid (B4.out.trans b5)
               clear o5 b5 k5 a5))
          exact ⟨⟨i + 1, A3, c3, A5, c5, rfl, rfl, by go_num, by omega, T5, B5⟩, by simp only [intOf]; omega⟩
      · have hiS : Hid (i = 64) := (by omega : i = 64)
        have hi1 : ¬ (i : Int) < 64 := by omega
        have hte : Hid ((hk64 key).take i = hk64 key) := by unfold Hid; rw [List.take_of_length_le (by rw [hk64_len]; omega)]
        rw [hte.out] at hT
        obtain ⟨kI, hkI⟩ : ∃ k, Hid (hxor 54 (hk64 key) = k) := ⟨_, Lib.hid rfl⟩
        obtain ⟨kO, hkO⟩ : ∃ k, Hid (hxor 92 (hk64 key) = k) := ⟨_, Lib.hid rfl⟩
        rw [hkI.out, hkO.out] at hT
        have hkIl : kI.length = 64 := by rw [← hkI.out, hxor_len, hk64_len]
        have hkOl : kO.length = 64 := by rw [← hkO.out, hxor_len, hk64_len]
        obtain ⟨wq, hwq⟩ : ∃ wq, wq = wr := ⟨wr, rfl⟩
        subst hwq
        go_wp2_with fail
        obtain ⟨X, hX⟩ : ∃ W, Hid (W = wq.drew) := ⟨_, Lib.hid rfl⟩
        have dX : Below wq.heap.size wq X := by rw [hX.out]; exact below_drew (Below.refl _ _)
        have hBX : Below W.heap.size W X := (Hbk.out.trans (hb.out.mono hsk)).trans (dX.mono (Nat.le_trans hsk hb.out.size))
        have hKq : Hid (∀ w', Below X.heap.size X w' → w'.heap[w.heap.size]? = some (.cells #[.int .i64 32, .int .i64 64, .int .i64 2, .int .i64 13, .int .i64 22, .int .i64 6, .int .i64 11, .int .i64 25, .int .i64 7, .int .i64 18, .int .i64 3, .int .i64 17, .int .i64 19, .int .i64 10, .slice A1 64 c1, .slice A2 8 c2] 50 (0, 0))) := fun w' h => (h.block w.heap.size (Nat.lt_of_lt_of_le hgl hBX.size)).trans ((hBX.block w.heap.size hgl).trans hK.out)
        have S1 := Lib.hid (Hs1.out.to hBX)
        have S2 := Lib.hid (Hs2.out.to hBX)
        have q1 := Lib.hid (hT.out.a.rd.to dX)
        have q3 := Lib.hid (hT.out.b.rd.to dX)
        have q2 := Lib.hid (HR'.out.to hBX)
        have hB := Lib.hid hBX
        refine wp_region_noPanic ?_
        refine wp_region_held_drew (S := fun w' => Below X.heap.size X w') (by kernel_rfl) (by rw [hX.out]; exact Below.refl _ _) (fun hS => ?_)
        rw [← hX.out]
        clear hS
        have hS : Below X.heap.size X X := Below.refl _ _
        refine wpAnyH_take (i := 0) (v := _) rfl (by kernel_rfl) (by kernel_rfl) (by kernel_rfl) (fun _ _ _ h => h) (yields_load (by rfl) (.tmp 3) (by rfl) (by rfl) (fun w' hSw => load_blk (hKq.out w' hSw) Tryd.underlying50 rfl (by kernel_rfl))) hS ?rest0
        try simp only [Act.put, List.getElem_toArray, List.getElem_cons_zero, List.getElem_cons_succ, List.setIfInBounds_toArray, List.set_cons_zero, List.set_cons_succ]
        refine wpAnyH_take (i := 1) (v := ?v1) rfl (by kernel_rfl) (by kernel_rfl) (by kernel_rfl) (fun _ _ _ h => h) (Or.inl ⟨by rfl, ?hy1⟩) hS ?rest1
        case hy1 => (intro w hSw; go_simp; first | done | with_reducible rfl)
        try simp only [Act.put, List.getElem_toArray, List.getElem_cons_zero, List.getElem_cons_succ, List.setIfInBounds_toArray, List.set_cons_zero, List.set_cons_succ]
        refine wpAnyH_take (i := 2) (v := _) rfl (by kernel_rfl) (by kernel_rfl) (by kernel_rfl) (fun _ _ _ h => h) (yields_load (by rfl) (.tmp 3) (by rfl) (by rfl) (fun w' hSw => load_blk (hKq.out w' hSw) Tryd.underlying50 rfl (by kernel_rfl))) hS ?rest2
        try simp only [Act.put, List.getElem_toArray, List.getElem_cons_zero, List.getElem_cons_succ, List.setIfInBounds_toArray, List.set_cons_zero, List.set_cons_succ]
        refine wpAnyH_take (i := 3) (v := ?v3) rfl (by kernel_rfl) (by kernel_rfl) (by kernel_rfl) (fun _ _ _ h => h) (Or.inl ⟨by rfl, ?hy3⟩) hS ?rest3
        case hy3 => (intro w hSw; go_simp; first | done | with_reducible rfl)
        try simp only [Act.put, List.getElem_toArray, List.getElem_cons_zero, List.getElem_cons_succ, List.setIfInBounds_toArray, List.set_cons_zero, List.set_cons_succ]
        refine wpAnyH_take (i := 4) (v := ?v4) rfl (by kernel_rfl) (by kernel_rfl) (by kernel_rfl) (fun _ _ _ h => h) (Or.inl ⟨by rfl, ?hy4⟩) hS ?rest4
        case hy4 => (intro w hSw; go_simp; first | done | with_reducible rfl)
        try simp only [Act.put, List.getElem_toArray, List.getElem_cons_zero, List.getElem_cons_succ, List.setIfInBounds_toArray, List.set_cons_zero, List.set_cons_succ]
        refine wpAnyH_ready (rs := [5]) (by kernel_rfl) (by simp) ?_
        refine AllReadyH.cons rfl (fun K hK => ?_) AllReadyH.nil
        go_simp
        refine (rJoin_ Ai i ci kI A' _ c' b _ q1.out q2.out (by omega) (by omega)).mono ?_
        rintro e u14 ⟨A14, c14, m14, hm14, rfl, h14, p14⟩
        have q4 := Lib.hid h14.rd
        clear h14
        replace q3 := Lib.hid (q3.out.to p14)
        replace S1 := Lib.hid (S1.out.to p14)
        replace S2 := Lib.hid (S2.out.to p14)
        replace hB := Lib.hid (hB.out.trans (p14.mono hB.out.size))
        go_wp2_with fail
        refine hK.out _ _ p14 ?_
        intro hS
        clear hK K
        try simp only [Act.put, List.getElem_toArray, List.getElem_cons_zero, List.getElem_cons_succ, List.setIfInBounds_toArray, List.set_cons_zero, List.set_cons_succ]
        refine wpAnyH_strong (S2 := fun w' => Below u14.heap.size u14 w') (fun w' h' => p14.trans (h'.mono p14.size)) _ _ _ _ ?_
        clear hS
        have hS : Below u14.heap.size u14 u14 := Below.refl _ _
        refine wpAnyH_ready (rs := [6]) (by kernel_rfl) (by simp) ?_
        refine AllReadyH.cons rfl (fun K hK => ?_) AllReadyH.nil
        go_simp
        refine (rsum_32 A14 m14 c14 (kI ++ b) A1 A2 c1 c2 _ S1.out S2.out q4.out (by have := hm14.out; omega)).mono ?_
        rintro e u15 ⟨A15, c15, rfl, h15, p15⟩
        have q5 := Lib.hid (Rd.of_own h15)
        clear h15
        replace q3 := Lib.hid (q3.out.to p15)
        replace S1 := Lib.hid (S1.out.to p15)
        replace S2 := Lib.hid (S2.out.to p15)
        replace hB := Lib.hid (hB.out.trans (p15.mono hB.out.size))
        go_wp2_with fail
        refine hK.out _ _ p15 ?_
        intro hS
        clear hK K
        try simp only [Act.put, List.getElem_toArray, List.getElem_cons_zero, List.getElem_cons_succ, List.setIfInBounds_toArray, List.set_cons_zero, List.set_cons_succ]
        refine wpAnyH_strong (S2 := fun w' => Below u15.heap.size u15 w') (fun w' h' => p15.trans (h'.mono p15.size)) _ _ _ _ ?_
        clear hS
        have hS : Below u15.heap.size u15 u15 := Below.refl _ _
        refine wpAnyH_ready (rs := [7]) (by kernel_rfl) (by simp) ?_
        refine AllReadyH.cons rfl (fun K hK => ?_) AllReadyH.nil
        go_simp
        refine (rJoin_ Ao i co kO A15 32 c15 (sumOf K32 F32 (kI ++ b)) _ q3.out q5.out (by omega) (by omega)).mono ?_
        rintro e u16 ⟨A16, c16, m16, hm16, rfl, h16, p16⟩
        have q6 := Lib.hid h16.rd
        have hs16 : Hid (W.heap.size ≤ u16.heap.size) := Nat.le_trans hB.out.size p16.size
        clear h16
        replace S1 := Lib.hid (S1.out.to p16)
        replace S2 := Lib.hid (S2.out.to p16)
        replace hB := Lib.hid (hB.out.trans (p16.mono hB.out.size))
        go_wp2_with fail
        refine hK.out _ _ p16 ?_
        intro hS
        clear hK K
        try simp only [Act.put, List.getElem_toArray, List.getElem_cons_zero, List.getElem_cons_succ, List.setIfInBounds_toArray, List.set_cons_zero, List.set_cons_succ]
        refine wpAnyH_strong (S2 := fun w' => Below u16.heap.size u16 w') (fun w' h' => p16.trans (h'.mono p16.size)) _ _ _ _ ?_
        clear hS
        have hS : Below u16.heap.size u16 u16 := Below.refl _ _
        refine wpAnyH_ready (rs := [8]) (by kernel_rfl) (by simp) ?_
        refine AllReadyH.cons rfl (fun K hK => ?_) AllReadyH.nil
        go_simp
        refine (rsum_32 A16 m16 c16 (kO ++ sumOf K32 F32 (kI ++ b)) A1 A2 c1 c2 _ S1.out S2.out q6.out (by have := hm16.out; omega)).mono ?_
        rintro e u17 ⟨A17, c17, rfl, h17, p17⟩
        have q7 := Lib.hid h17
        clear h17
        replace hB := Lib.hid (hB.out.trans (p17.mono hB.out.size))
        go_wp2_with fail
        refine hK.out _ _ p17 ?_
        intro hS
        clear hK K
        try simp only [Act.put, List.getElem_toArray, List.getElem_cons_zero, List.getElem_cons_succ, List.setIfInBounds_toArray, List.set_cons_zero, List.set_cons_succ]
        refine wpAnyH_take (i := 9) (v := ?v9) rfl (by kernel_rfl) (by kernel_rfl) (by kernel_rfl) (fun _ _ _ h => h) (Or.inl ⟨by rfl, ?hy9⟩) hS ?rest9
        case hy9 => (intro w hSw; go_simp; first | done | with_reducible rfl)
        try simp only [Act.put, List.getElem_toArray, List.getElem_cons_zero, List.getElem_cons_succ, List.setIfInBounds_toArray, List.set_cons_zero, List.set_cons_succ]
        refine wpAnyH_done (by kernel_rfl) (NoPanic.normal ?_) _
        go_wp2_with fail
        go_ret
        have he : sumOf K32 F32 (kO ++ sumOf K32 F32 (kI ++ b)) = hmac key b := by rw [← hkI.out, ← hkO.out]; rfl
        have ho := q7.out
        rw [he] at ho
        have hsB := hB.out.size
        exact ⟨A17, c17, rfl, own_mono ho (by have := hs16.out; omega), Hb0.out.trans (hB.out.mono (by omega))⟩
  · have h64' : ¬ (64 : Int) < key.length := by omega
    obtain ⟨wk, hwk⟩ : ∃ wk, Hid (wk = W) := ⟨_, Lib.hid rfl⟩
    obtain ⟨Ak, ck, lk, nk, hall⟩ : ∃ Ak ck lk nk, Hid (Ak = A ∧ ck = c ∧ lk = key ∧ nk = key.length) := ⟨_, _, _, _, ⟨rfl, rfl, rfl, rfl⟩⟩
    have hrk : Hid (Rd wk wk.heap.size 1 Ak nk (lk.map B8)) := by obtain ⟨rfl, rfl, rfl, rfl⟩ := hall.out; rw [hwk.out]; exact HR
    have hlen : Hid (lk.length = nk) := by obtain ⟨rfl, rfl, rfl, rfl⟩ := hall.out; exact rfl
    have hnkb : nk ≤ 64 := by obtain ⟨rfl, rfl, rfl, rfl⟩ := hall.out; omega
    have hkey : Hid (hkey key = lk) := by obtain ⟨rfl, rfl, rfl, rfl⟩ := hall.out; unfold Hid hkey; rw [if_neg h64]
    have Hbk : Hid (Below W.heap.size W wk) := by rw [hwk.out]; exact Below.refl _ _
    go_enter Tryd.func48, Tryd.ntmps48
    go_wp2_with fail
    rw [← HW.out]
    have ha := hall.out
    rw [← ha.1, ← ha.2.1, ← ha.2.2.2, ← hwk.out]
    clear ha
    have hsk := Hbk.out.size
    have hT0 : Hid (Two wk wk.heap.size none 0 0 (hxor 54 ((hk64 key).take 0)) none 0 0 (hxor 92 ((hk64 key).take 0))) := by
      refine ⟨OwnS.nil _ _ _, OwnS.nil _ _ _, (fun _ _ e => by cases e), (fun _ _ e => by cases e), (fun _ _ _ _ e => by cases e)⟩
    go_wp2_with fail
    go_loopw [7, 8, 9, 10] (fun x7 x8 x9 _ wr => ∃ (i : Nat) (Ai : Option Addr) (ci : Nat) (Ao : Option Addr) (co : Nat), x7 = .slice Ai i ci ∧ x8 = .slice Ao i co ∧ x9 = .int .i64 i ∧ i ≤ 64 ∧ Hid (Two wr wk.heap.size Ai i ci (hxor 54 ((hk64 key).take i)) Ao i co (hxor 92 ((hk64 key).take i))) ∧ Hid (Below wk.heap.size wk wr)) (fun _ _ x9 _ _ => 64 - (intOf x9).toNat)
    case atStart => exact ⟨0, none, 0, none, 0, rfl, rfl, rfl, by omega, hT0, Below.refl _ _⟩
    case round =>
      obtain ⟨i, Ai, ci, Ao, co, rfl, rfl, rfl, hi, hT, hb⟩ := hrel
      by_cases hi64 : i < 64
      · have hi1 : (i : Int) < 64 := by omega
        have hi0 : (0 : Int) ≤ (i : Int) := by omega
        obtain ⟨x, hx'⟩ : ∃ x, Hid (lk.getD i 0 = x) := ⟨_, Lib.hid rfl⟩
        have hat : Hid ((hk64 key)[i]? = some x) := by
          unfold Hid hk64
          rw [hkey.out, hk64_at lk (by rw [hlen.out]; exact hnkb) i hi64, hx'.out]
        obtain ⟨z, hz⟩ : ∃ z, Hid (x ^^^ 54 = z) := ⟨_, Lib.hid rfl⟩
        obtain ⟨y, hy⟩ : ∃ z, Hid (x ^^^ 92 = z) := ⟨_, Lib.hid rfl⟩
        have fz : bits .xor .u8 (x.toNat : Int) 54 = (z.toNat : Int) := by
          rw [show (54 : Int) = ((54 : Nat) : Int) from rfl, u8_xor_nat _ _ x.toNat_lt (by decide), ← hz.out, UInt8.toNat_xor]; rfl
        have fy : bits .xor .u8 (x.toNat : Int) 92 = (y.toNat : Int) := by
          rw [show (92 : Int) = ((92 : Nat) : Int) from rfl, u8_xor_nat _ _ x.toNat_lt (by decide), ← hy.out, UInt8.toNat_xor]; rfl
        have hsn := Lib.hid (hxor_snoc 54 x (hk64 key) i hat.out)
        have hso := Lib.hid (hxor_snoc 92 x (hk64 key) i hat.out)
        rw [hz.out] at hsn
        rw [hy.out] at hso
        have e8 : IntKind.i64.wrap ((i : Int) + 1) = ((i + 1 : Nat) : Int) := by rw [IntWalk.i64_in _ (by omega)]; omega
        have hT1 := Lib.hid (hT.out.to ((Below.refl wr.heap.size wr).alloc (Nat.le_refl _) (.cells #[.int .u8 (z.toNat : Int)] 5)))
        have hb1 := Lib.hid (hb.out.trans ((Below.refl wk.heap.size wr).alloc hb.out.size (.cells #[.int .u8 (z.toNat : Int)] 5)))
        have hl1 := Lib.hid (one_lit wr z)
        have hoz := Lib.hid (oneB [z])
        have hoy := Lib.hid (oneB [y])
        have hin := hb.out.size
        by_cases hik : i < nk
        · have hik' : (i : Int) < nk := by omega
          obtain ⟨bp, op, y', hAk, hbp, hy', hcp⟩ := (hrk.out.below hb.out).at8 (k := i) hik
          subst hAk
          obtain rfl : x = y' := by rw [← hx'.out, List.getD_eq_getElem?_getD, hy']; rfl
          go_wp2_with (first
            | (at_builtin
               refine wpList_apT rfl (.tmp 29) (.tmp 32) 22 rfl wk.heap.size 5 1 (.int .u8 0) Tryd.underlying22 infoB rfl Ai i ci _ rfl hT1.out.a _ (some ⟨wr.heap.size, 0, none⟩) 1 1 (([z] : List UInt8).map B8) rfl hl1.out hoz.out (by simp only [maxLen]; omega) (by omega) hb1.out.size ?_
               intro A3 c3 w3 o3 b3 _ k3 a3
               rw [← List.map_append, hsn.out] at o3
               have T3 := Lib.hid (hT1.out.app o3 b3.size k3 a3)
               have B3 := Lib.hid (hb1.out.trans b3)
               have T4 := Lib.hid (T3.out.to ((Below.refl w3.heap.size w3).alloc (Nat.le_refl _) (.cells #[.int .u8 (y.toNat : Int)] 5)))
               have B4 := Lib.hid (B3.out.trans ((Below.refl wk.heap.size w3).alloc B3.out.size (.cells #[.int .u8 (y.toNat : Int)] 5)))
               have hl4 := Lib.hid (one_lit w3 y)
               clear o3 b3 k3 a3)
            | (at_builtin
               refine wpList_apT rfl (.tmp 34) (.tmp 37) 22 rfl wk.heap.size 5 1 (.int .u8 0) Tryd.underlying22 infoB rfl Ao i co _ rfl T4.out.b _ (some ⟨w3.heap.size, 0, none⟩) 1 1 (([y] : List UInt8).map B8) rfl hl4.out hoy.out (by simp only [maxLen]; omega) (by omega) B4.out.size ?_
               intro A5 c5 w5 o5 b5 _ k5 a5
               rw [← List.map_append, hso.out] at o5
               have T5 := Lib.hid ((T4.out.swap.app o5 b5.size k5 a5).swap)
               have B5 := Lib.hid (B4.out.trans b5)
               clear o5 b5 k5 a5))
          exact ⟨⟨i + 1, A3, c3, A5, c5, rfl, rfl, by go_num, by omega, T5, B5⟩, by simp only [intOf]; omega⟩
        · have hik' : ¬ (i : Int) < nk := by omega
          obtain rfl : x = 0 := by rw [← hx'.out, List.getD_eq_getElem?_getD, List.getElem?_eq_none (by rw [hlen.out]; omega)]; rfl
          have fz' : bits .xor .u8 (0 : Int) 54 = (z.toNat : Int) := fz
          have fy' : bits .xor .u8 (0 : Int) 92 = (y.toNat : Int) := fy
          go_wp2_with (first
            | (at_builtin
               refine wpList_apT rfl (.tmp 29) (.tmp 32) 22 rfl wk.heap.size 5 1 (.int .u8 0) Tryd.underlying22 infoB rfl Ai i ci _ rfl hT1.out.a _ (some ⟨wr.heap.size, 0, none⟩) 1 1 (([z] : List UInt8).map B8) rfl hl1.out hoz.out (by simp only [maxLen]; omega) (by omega) hb1.out.size ?_
               intro A3 c3 w3 o3 b3 _ k3 a3
               rw [← List.map_append, hsn.out] at o3
               have T3 := Lib.hid (hT1.out.app o3 b3.size k3 a3)
               have B3 := Lib.hid (hb1.out.trans b3)
               have T4 := Lib.hid (T3.out.to ((Below.refl w3.heap.size w3).alloc (Nat.le_refl _) (.cells #[.int .u8 (y.toNat : Int)] 5)))
               have B4 := Lib.hid (B3.out.trans ((Below.refl wk.heap.size w3).alloc B3.out.size (.cells #[.int .u8 (y.toNat : Int)] 5)))
               have hl4 := Lib.hid (one_lit w3 y)
               clear o3 b3 k3 a3)
            | (at_builtin
               refine wpList_apT rfl (.tmp 34) (.tmp 37) 22 rfl wk.heap.size 5 1 (.int .u8 0) Tryd.underlying22 infoB rfl Ao i co _ rfl T4.out.b _ (some ⟨w3.heap.size, 0, none⟩) 1 1 (([y] : List UInt8).map B8) rfl hl4.out hoy.out (by simp only [maxLen]; omega) (by omega) B4.out.size ?_
               intro A5 c5 w5 o5 b5 _ k5 a5
               rw [← List.map_append, hso.out] at o5
               have T5 := Lib.hid ((T4.out.swap.app o5 b5.size k5 a5).swap)
               have B5 := Lib.hid (B4.out.trans b5)
               clear o5 b5 k5 a5))
          exact ⟨⟨i + 1, A3, c3, A5, c5, rfl, rfl, by go_num, by omega, T5, B5⟩, by simp only [intOf]; omega⟩
      · have hiS : Hid (i = 64) := (by omega : i = 64)
        have hi1 : ¬ (i : Int) < 64 := by omega
        have hte : Hid ((hk64 key).take i = hk64 key) := by unfold Hid; rw [List.take_of_length_le (by rw [hk64_len]; omega)]
        rw [hte.out] at hT
        obtain ⟨kI, hkI⟩ : ∃ k, Hid (hxor 54 (hk64 key) = k) := ⟨_, Lib.hid rfl⟩
        obtain ⟨kO, hkO⟩ : ∃ k, Hid (hxor 92 (hk64 key) = k) := ⟨_, Lib.hid rfl⟩
        rw [hkI.out, hkO.out] at hT
        have hkIl : kI.length = 64 := by rw [← hkI.out, hxor_len, hk64_len]
        have hkOl : kO.length = 64 := by rw [← hkO.out, hxor_len, hk64_len]
        obtain ⟨wq, hwq⟩ : ∃ wq, wq = wr := ⟨wr, rfl⟩
        subst hwq
        go_wp2_with fail
        obtain ⟨X, hX⟩ : ∃ W, Hid (W = wq.drew) := ⟨_, Lib.hid rfl⟩
        have dX : Below wq.heap.size wq X := by rw [hX.out]; exact below_drew (Below.refl _ _)
        have hBX : Below W.heap.size W X := (Hbk.out.trans (hb.out.mono hsk)).trans (dX.mono (Nat.le_trans hsk hb.out.size))
        have hKq : Hid (∀ w', Below X.heap.size X w' → w'.heap[w.heap.size]? = some (.cells #[.int .i64 32, .int .i64 64, .int .i64 2, .int .i64 13, .int .i64 22, .int .i64 6, .int .i64 11, .int .i64 25, .int .i64 7, .int .i64 18, .int .i64 3, .int .i64 17, .int .i64 19, .int .i64 10, .slice A1 64 c1, .slice A2 8 c2] 50 (0, 0))) := fun w' h => (h.block w.heap.size (Nat.lt_of_lt_of_le hgl hBX.size)).trans ((hBX.block w.heap.size hgl).trans hK.out)
        have S1 := Lib.hid (Hs1.out.to hBX)
        have S2 := Lib.hid (Hs2.out.to hBX)
        have q1 := Lib.hid (hT.out.a.rd.to dX)
        have q3 := Lib.hid (hT.out.b.rd.to dX)
        have q2 := Lib.hid (HR'.out.to hBX)
        have hB := Lib.hid hBX
        refine wp_region_noPanic ?_
        refine wp_region_held_drew (S := fun w' => Below X.heap.size X w') (by kernel_rfl) (by rw [hX.out]; exact Below.refl _ _) (fun hS => ?_)
        rw [← hX.out]
        clear hS
        have hS : Below X.heap.size X X := Below.refl _ _
        refine wpAnyH_take (i := 0) (v := _) rfl (by kernel_rfl) (by kernel_rfl) (by kernel_rfl) (fun _ _ _ h => h) (yields_load (by rfl) (.tmp 3) (by rfl) (by rfl) (fun w' hSw => load_blk (hKq.out w' hSw) Tryd.underlying50 rfl (by kernel_rfl))) hS ?restb0
        try simp only [Act.put, List.getElem_toArray, List.getElem_cons_zero, List.getElem_cons_succ, List.setIfInBounds_toArray, List.set_cons_zero, List.set_cons_succ]
        refine wpAnyH_take (i := 1) (v := ?vb1) rfl (by kernel_rfl) (by kernel_rfl) (by kernel_rfl) (fun _ _ _ h => h) (Or.inl ⟨by rfl, ?hyb1⟩) hS ?restb1
        case hyb1 => (intro w hSw; go_simp; first | done | with_reducible rfl)
        try simp only [Act.put, List.getElem_toArray, List.getElem_cons_zero, List.getElem_cons_succ, List.setIfInBounds_toArray, List.set_cons_zero, List.set_cons_succ]
        refine wpAnyH_take (i := 2) (v := _) rfl (by kernel_rfl) (by kernel_rfl) (by kernel_rfl) (fun _ _ _ h => h) (yields_load (by rfl) (.tmp 3) (by rfl) (by rfl) (fun w' hSw => load_blk (hKq.out w' hSw) Tryd.underlying50 rfl (by kernel_rfl))) hS ?restb2
        try simp only [Act.put, List.getElem_toArray, List.getElem_cons_zero, List.getElem_cons_succ, List.setIfInBounds_toArray, List.set_cons_zero, List.set_cons_succ]
        refine wpAnyH_take (i := 3) (v := ?vb3) rfl (by kernel_rfl) (by kernel_rfl) (by kernel_rfl) (fun _ _ _ h => h) (Or.inl ⟨by rfl, ?hyb3⟩) hS ?restb3
        case hyb3 => (intro w hSw; go_simp; first | done | with_reducible rfl)
        try simp only [Act.put, List.getElem_toArray, List.getElem_cons_zero, List.getElem_cons_succ, List.setIfInBounds_toArray, List.set_cons_zero, List.set_cons_succ]
        refine wpAnyH_take (i := 4) (v := ?vb4) rfl (by kernel_rfl) (by kernel_rfl) (by kernel_rfl) (fun _ _ _ h => h) (Or.inl ⟨by rfl, ?hyb4⟩) hS ?restb4
        case hyb4 => (intro w hSw; go_simp; first | done | with_reducible rfl)
        try simp only [Act.put, List.getElem_toArray, List.getElem_cons_zero, List.getElem_cons_succ, List.setIfInBounds_toArray, List.set_cons_zero, List.set_cons_succ]
        refine wpAnyH_ready (rs := [5]) (by kernel_rfl) (by simp) ?_
        refine AllReadyH.cons rfl (fun K hK => ?_) AllReadyH.nil
        go_simp
        refine (rJoin_ Ai i ci kI A' _ c' b _ q1.out q2.out (by omega) (by omega)).mono ?_
        rintro e u14 ⟨A14, c14, m14, hm14, rfl, h14, p14⟩
        have q4 := Lib.hid h14.rd
        clear h14
        replace q3 := Lib.hid (q3.out.to p14)
        replace S1 := Lib.hid (S1.out.to p14)
        replace S2 := Lib.hid (S2.out.to p14)
        replace hB := Lib.hid (hB.out.trans (p14.mono hB.out.size))
        go_wp2_with fail
        refine hK.out _ _ p14 ?_
        intro hS
        clear hK K
        try simp only [Act.put, List.getElem_toArray, List.getElem_cons_zero, List.getElem_cons_succ, List.setIfInBounds_toArray, List.set_cons_zero, List.set_cons_succ]
        refine wpAnyH_strong (S2 := fun w' => Below u14.heap.size u14 w') (fun w' h' => p14.trans (h'.mono p14.size)) _ _ _ _ ?_
        clear hS
        have hS : Below u14.heap.size u14 u14 := Below.refl _ _
        refine wpAnyH_ready (rs := [6]) (by kernel_rfl) (by simp) ?_
        refine AllReadyH.cons rfl (fun K hK => ?_) AllReadyH.nil
        go_simp
        refine (rsum_32 A14 m14 c14 (kI ++ b) A1 A2 c1 c2 _ S1.out S2.out q4.out (by have := hm14.out; omega)).mono ?_
        rintro e u15 ⟨A15, c15, rfl, h15, p15⟩
        have q5 := Lib.hid (Rd.of_own h15)
        clear h15
        replace q3 := Lib.hid (q3.out.to p15)
        replace S1 := Lib.hid (S1.out.to p15)
        replace S2 := Lib.hid (S2.out.to p15)
        replace hB := Lib.hid (hB.out.trans (p15.mono hB.out.size))
        go_wp2_with fail
        refine hK.out _ _ p15 ?_
        intro hS
        clear hK K
        try simp only [Act.put, List.getElem_toArray, List.getElem_cons_zero, List.getElem_cons_succ, List.setIfInBounds_toArray, List.set_cons_zero, List.set_cons_succ]
        refine wpAnyH_strong (S2 := fun w' => Below u15.heap.size u15 w') (fun w' h' => p15.trans (h'.mono p15.size)) _ _ _ _ ?_
        clear hS
        have hS : Below u15.heap.size u15 u15 := Below.refl _ _
        refine wpAnyH_ready (rs := [7]) (by kernel_rfl) (by simp) ?_
        refine AllReadyH.cons rfl (fun K hK => ?_) AllReadyH.nil
        go_simp
        refine (rJoin_ Ao i co kO A15 32 c15 (sumOf K32 F32 (kI ++ b)) _ q3.out q5.out (by omega) (by omega)).mono ?_
        rintro e u16 ⟨A16, c16, m16, hm16, rfl, h16, p16⟩
        have q6 := Lib.hid h16.rd
        have hs16 : Hid (W.heap.size ≤ u16.heap.size) := Nat.le_trans hB.out.size p16.size
        clear h16
        replace S1 := Lib.hid (S1.out.to p16)
        replace S2 := Lib.hid (S2.out.to p16)
        replace hB := Lib.hid (hB.out.trans (p16.mono hB.out.size))
        go_wp2_with fail
        refine hK.out _ _ p16 ?_
        intro hS
        clear hK K
        try simp only [Act.put, List.getElem_toArray, List.getElem_cons_zero, List.getElem_cons_succ, List.setIfInBounds_toArray, List.set_cons_zero, List.set_cons_succ]
        refine wpAnyH_strong (S2 := fun w' => Below u16.heap.size u16 w') (fun w' h' => p16.trans (h'.mono p16.size)) _ _ _ _ ?_
        clear hS
        have hS : Below u16.heap.size u16 u16 := Below.refl _ _
        refine wpAnyH_ready (rs := [8]) (by kernel_rfl) (by simp) ?_
        refine AllReadyH.cons rfl (fun K hK => ?_) AllReadyH.nil
        go_simp
        refine (rsum_32 A16 m16 c16 (kO ++ sumOf K32 F32 (kI ++ b)) A1 A2 c1 c2 _ S1.out S2.out q6.out (by have := hm16.out; omega)).mono ?_
        rintro e u17 ⟨A17, c17, rfl, h17, p17⟩
        have q7 := Lib.hid h17
        clear h17
        replace hB := Lib.hid (hB.out.trans (p17.mono hB.out.size))
        go_wp2_with fail
        refine hK.out _ _ p17 ?_
        intro hS
        clear hK K
        try simp only [Act.put, List.getElem_toArray, List.getElem_cons_zero, List.getElem_cons_succ, List.setIfInBounds_toArray, List.set_cons_zero, List.set_cons_succ]
        refine wpAnyH_take (i := 9) (v := ?vb9) rfl (by kernel_rfl) (by kernel_rfl) (by kernel_rfl) (fun _ _ _ h => h) (Or.inl ⟨by rfl, ?hyb9⟩) hS ?restb9
        case hyb9 => (intro w hSw; go_simp; first | done | with_reducible rfl)
        try simp only [Act.put, List.getElem_toArray, List.getElem_cons_zero, List.getElem_cons_succ, List.setIfInBounds_toArray, List.set_cons_zero, List.set_cons_succ]
        refine wpAnyH_done (by kernel_rfl) (NoPanic.normal ?_) _
        go_wp2_with fail
        go_ret
        have he : sumOf K32 F32 (kO ++ sumOf K32 F32 (kI ++ b)) = hmac key b := by rw [← hkI.out, ← hkO.out]; rfl
        have ho := q7.out
        rw [he] at ho
        have hsB := hB.out.size
        exact ⟨A17, c17, rfl, own_mono ho (by have := hs16.out; omega), Hb0.out.trans (hB.out.mono (by omega))⟩
end Go.Proofs.YtclecmpmohoamaaDoor
