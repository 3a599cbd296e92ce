/- The program's mac, Mac, Extract. (Printed by gen_hka.py.) -/
import Derived.Test.YtclecmpmohoamaaDoorHkaA
namespace Go.Proofs.YtclecmpmohoamaaDoor
open Go.RowKit
set_option linter.unusedSimpArgs false
set_option linter.unusedVariables false
/-- Slices of bytes one behind the other. -/
def RdL (w : World) (B : Nat) (A : Option Addr) (n : Nat) (ls : List (List UInt8)) : Prop :=
  ls.length = n ∧ ∀ i l, ls[i]? = some l → ∃ b o Ai ci, A = some ⟨b, o, none⟩ ∧ b < B ∧ w.cell? ⟨b, o + i, none⟩ = some (.slice Ai l.length ci) ∧ Rd w B 1 Ai l.length (l.map B8) ∧ l.length ≤ ci
theorem RdL.to {w w' : World} {B n : Nat} {A : Option Addr} {ls : List (List UInt8)} (h : RdL w B A n ls) (hb : Below B w w') : RdL w' B A n ls := by
  refine ⟨h.1, fun i l hl => ?_⟩
  obtain ⟨b, o, Ai, ci, e, hbB, hc, hr, hci⟩ := h.2 i l hl
  exact ⟨b, o, Ai, ci, e, hbB, (World.cell?_of_block (a := ⟨b, o + i, none⟩) (hb.block b hbB)).trans hc, hr.below hb, hci⟩
theorem own_ne' {w : World} {base n : Nat} {A : Option Addr} {c : Nat} {xs : List Value} (h : w.ownsRow base 5 1 (.slice A n c) n xs) {g : Nat} (hg : g < base) : 0 < n → ∀ b o, A = some ⟨b, o, none⟩ → b ≠ g := by
  intro h0 b o e
  have hs := OwnS.of_own h
  obtain ⟨g', o', e', hb, _⟩ := hs.mem (Nat.lt_of_lt_of_le h0 hs.le)
  rw [e] at e'
  injection e' with e'
  injection e' with e1
  omega
theorem Rd.ne {w : World} {B n : Nat} {A : Option Addr} {xs : List Value} (h : Rd w B 1 A n xs) {g : Nat} (hg : B ≤ g) : 0 < n → ∀ b o, A = some ⟨b, o, none⟩ → b ≠ g := by
  intro h0 b o e
  obtain ⟨b', o', e', hb, _⟩ := h.2 h0
  rw [e] at e'
  injection e' with e'
  injection e' with e1
  omega
set_option maxRecDepth 20000 in
set_option maxHeartbeats 4000000 in
theorem mac_ (A : Option Addr) (n c : Nat) (key : List UInt8) (P : Option Addr) (pn pc : Nat) (ls : List (List UInt8)) (w : World) (hr : Rd w w.heap.size 1 A n (key.map B8)) (hn : n ≤ 1000000) (hp : RdL w w.heap.size P pn ls) (hpn : pn ≤ 1000) (hl : ls.flatten.length ≤ 900000) (hL : LayS w) :
    Calls Tryd.prog 47 #[.slice A n c, .slice P pn pc] w (Ret32 (hmac key ls.flatten) w) := by
  have h44 := hL.size
  have HL0 := Lib.hid hL
  have HR := Lib.hid hr
  have HP := Lib.hid hp
  clear hL hr hp
  go_enter Tryd.func47, Tryd.ntmps47
  go_wp2_with fail
  refine (new_ w).mono ?_
  rintro e w1 ⟨g, hg, rfl, hh1, hb1⟩
  have Hh1 := Lib.hid hh1
  have hs1 := hb1.size
  have hgl1 := hh1.lt
  clear hh1
  go_wp2_with fail
  refine (whole_ A n c key 54 54 w1 rfl (HR.out.to hb1) hn (HL0.out.go' hb1)).mono ?_
  rintro e w2 ⟨A2, c2, rfl, h2, hb2⟩
  have Ho2 := Lib.hid h2
  have hs2 := hb2.size
  have hB2 : Hid (Below w.heap.size w w2) := hb1.trans (hb2.mono hs1)
  clear h2
  go_wp2_with fail
  obtain ⟨k1, hk1⟩ : ∃ k, Hid (k = hxor 54 (hk64 key)) := ⟨_, Lib.hid rfl⟩
  rw [← hk1.out] at Ho2
  have hk1l : k1.length = 64 := by rw [hk1.out, hxor_len, hk64_len]
  refine (write_ w.heap.size g g [] k1 A2 64 c2 w2 (Hh1.out.to hb2) (Rd.of_own Ho2.out) (own_ne' Ho2.out hgl1) (by simp [hk1l]) (HL0.out.to h44 hB2.out) h44 (by omega)).mono ?_
  rintro e w3 ⟨r3, rfl, hr3, hh3, hw3⟩
  rw [List.nil_append] at hh3
  have Hh3 : Hid (Ha w3 w.heap.size g r3 (k1 ++ (ls.take 0).flatten)) := by rw [List.take_zero, List.flatten_nil, List.append_nil]; exact hh3
  have hB3 : Hid (Below w.heap.size w w3) := hB2.out.trans (hw3.below hg hg (by omega))
  clear hh3 hw3 hB2 hb1 hb2 Ho2 Hh1
  have hs3 := hB3.out.size
  go_wp2_with fail
  go_loopw [7, 16] (fun _ x16 wr => ∃ (i r : Nat), x16 = .int .i64 i ∧ i ≤ pn ∧ Hid (Ha wr w.heap.size g r (k1 ++ (ls.take i).flatten)) ∧ Hid (Below w.heap.size w wr)) (fun _ x16 _ => pn - (intOf x16).toNat)
  case atStart => exact ⟨0, r3, rfl, by omega, Hh3, hB3⟩
  case round =>
    obtain ⟨i, r, rfl, hi, hh, hb⟩ := hrel
    have hsr := hb.out.size
    by_cases hip : i < pn
    · have hip' : (i : Int) < pn := by omega
      have hi0 : (0 : Int) ≤ (i : Int) := by omega
      obtain ⟨l, hli⟩ : ∃ l, Hid (ls[i]? = some l) := ⟨ls[i]'(by rw [HP.out.1]; exact hip), Lib.hid (List.getElem?_eq_getElem _)⟩
      have hll : Hid ((ls.take i).flatten.length + l.length + 64 ≤ 1000000) := by
        have h1 : (ls.take (i + 1)).flatten.length ≤ ls.flatten.length := by
          conv => rhs; rw [← List.take_append_drop (i + 1) ls, List.flatten_append, List.length_append]
          omega
        rw [List.take_add_one, hli.out, List.flatten_append, List.length_append] at h1
        have h2 : (some l).toList.flatten.length = l.length := by simp
        rw [h2] at h1
        unfold Hid
        omega
      have hnx : Hid (k1 ++ (ls.take i).flatten ++ l = k1 ++ (ls.take (i + 1)).flatten) := by
        unfold Hid
        rw [List.take_add_one, hli.out, List.flatten_append, List.append_assoc]
        simp
      obtain ⟨b, o, Ai, ci, hPe, hbB, hc, hrl, hci⟩ := (HP.out.to hb.out).2 i l hli.out
      subst hPe
      have hrl' := Lib.hid (hrl.more hsr)
      have hnel := Lib.hid (hrl.ne hg)
      have e8 : IntKind.i64.wrap ((i : Int) + 1) = ((i + 1 : Nat) : Int) := by rw [IntWalk.i64_in _ (by omega)]; omega
      clear hrl
      go_wp2_with fail
      refine (write_ w.heap.size g r (k1 ++ (ls.take i).flatten) l Ai l.length ci wr hh.out hrl'.out hnel.out (by rw [List.length_append, hk1l]; have := hll.out; omega) (HL0.out.to h44 hb.out) h44 hsr).mono ?_
      rintro e w4 ⟨r4, rfl, hr4, hh4, hw4⟩
      rw [hnx.out] at hh4
      have Hh4 := Lib.hid hh4
      have hB4 : Hid (Below w.heap.size w w4) := hb.out.trans (hw4.below hg hh.out.lor hsr)
      clear hh4 hw4
      go_wp2_with fail
      go_roundw
      case rel => exact ⟨i + 1, r4, by go_num, hip, Hh4, hB4⟩
      case measure => simp only [intOf]; omega
    · have hip' : ¬ (i : Int) < pn := by omega
      have hie : Hid ((ls.take i).flatten = ls.flatten) := by unfold Hid; rw [List.take_of_length_le (by rw [HP.out.1]; omega)]
      rw [hie.out] at hh
      obtain ⟨wq, hwq⟩ : ∃ wq, wq = wr := ⟨wr, rfl⟩
      subst hwq
      obtain ⟨bs, hbs⟩ : ∃ b, Hid (b = ls.flatten) := ⟨_, Lib.hid rfl⟩
      rw [← hbs.out] at hh
      have hbsl : bs.length ≤ 900000 := by rw [hbs.out]; exact hl
      have hgl : g < wq.heap.size := hh.out.lt
      go_wp2_with fail
      refine (new_ wq).mono ?_
      rintro e w5 ⟨g5, hg5, rfl, hh5, hb5⟩
      have Hh5 := Lib.hid hh5
      have hs5 := hb5.size
      have hg5l := hh5.lt
      have hin5 := Lib.hid (hh.out.to hb5)
      have hB5 : Hid (Below w.heap.size w w5) := hb.out.trans (hb5.mono hsr)
      clear hh5
      go_wp2_with fail
      refine (whole_ A n c key 92 92 w5 rfl ((HR.out.below hB5.out).more (by omega)) hn (HL0.out.go' hB5.out)).mono ?_
      rintro e w6 ⟨A6, c6, rfl, h6, hb6⟩
      have Ho6 := Lib.hid h6
      have hs6 := hb6.size
      have hin6 := Lib.hid (hin5.out.to hb6)
      have hB6 : Hid (Below w.heap.size w w6) := hB5.out.trans (hb6.mono (by omega))
      clear h6
      go_wp2_with fail
      obtain ⟨k2, hk2⟩ : ∃ k, Hid (k = hxor 92 (hk64 key)) := ⟨_, Lib.hid rfl⟩
      rw [← hk2.out] at Ho6
      have hk2l : k2.length = 64 := by rw [hk2.out, hxor_len, hk64_len]
      refine (write_ wq.heap.size g5 g5 [] k2 A6 64 c6 w6 (Hh5.out.to hb6) (Rd.of_own Ho6.out) (own_ne' Ho6.out hg5l) (by simp [hk2l]) (HL0.out.to h44 hB6.out) (by omega) (by omega)).mono ?_
      rintro e w7 ⟨r7, rfl, hr7, hh7, hw7⟩
      rw [List.nil_append] at hh7
      have Hh7 := Lib.hid hh7
      have hb67 : Hid (Below wq.heap.size w6 w7) := hw7.below hg5 hg5 (by omega)
      have hq7 : Hid (Below wq.heap.size wq w7) := hb5.trans ((hb6.mono hs5).trans hb67.out)
      have hin7 := Lib.hid (hh.out.to hq7.out)
      have hB7 : Hid (Below w.heap.size w w7) := hb.out.trans (hq7.out.mono hsr)
      have hs7 := hq7.out.size
      clear hh7 hw7 hin5 hin6
      go_wp2_with fail
      refine (hsum_ w.heap.size g r (k1 ++ bs) w7 hin7.out (by rw [List.length_append, hk1l]; omega) (HL0.out.to h44 hB7.out) (by omega)).mono ?_
      rintro e w8 ⟨A8, c8, rfl, h8, hb8⟩
      have Ho8 := Lib.hid h8
      have hs8 := hb8.size
      have Hh8 := Lib.hid (Hh7.out.to hb8)
      have hB8 : Hid (Below w.heap.size w w8) := hB7.out.trans (hb8.mono (by omega))
      have hg7l := Hh7.out.lt
      clear h8
      go_wp2_with fail
      obtain ⟨s1, hs1'⟩ : ∃ k, Hid (k = sumOf K32 F32 (k1 ++ bs)) := ⟨_, Lib.hid rfl⟩
      rw [← hs1'.out] at Ho8
      have hs1l : s1.length = 32 := by rw [hs1'.out, sumOf_len32]
      refine (write_ wq.heap.size g5 r7 k2 s1 A8 32 c8 w8 Hh8.out (Rd.of_own Ho8.out) (own_ne' Ho8.out hg7l) (by omega) (HL0.out.to h44 hB8.out) (by omega) (by omega)).mono ?_
      rintro e w9 ⟨r9, rfl, hr9, hh9, hw9⟩
      have Hh9 := Lib.hid hh9
      have hq9 : Hid (Below wq.heap.size wq w9) := hq7.out.trans ((hb8.mono hs7).trans (hw9.below hg5 Hh7.out.lor (by omega)))
      have hB9 : Hid (Below w.heap.size w w9) := hb.out.trans (hq9.out.mono hsr)
      have hs9 := hq9.out.size
      clear hh9 hw9
      go_wp2_with fail
      refine (hsum_ wq.heap.size g5 r9 (k2 ++ s1) w9 Hh9.out (by rw [List.length_append]; omega) (HL0.out.to h44 hB9.out) (by omega)).mono ?_
      rintro e w10 ⟨A10, c10, rfl, h10, hb10⟩
      have Ho10 := Lib.hid h10
      clear h10
      go_wp2_with fail
      go_ret
      have he : sumOf K32 F32 (k2 ++ s1) = hmac key ls.flatten := by
        rw [hs1'.out, hk2.out, hk1.out, hbs.out]; rfl
      have ho := Ho10.out
      rw [he] at ho
      exact ⟨A10, c10, rfl, own_mono ho (by omega), hB9.out.trans (hb10.mono (by omega))⟩
theorem rdl_lit (w : World) (vs : List (Option Addr × List UInt8 × Nat)) (t : TypeId) (h : ∀ (i : Nat) (A : Option Addr) (l : List UInt8) (c : Nat), vs[i]? = some (A, l, c) → Rd w w.heap.size 1 A l.length (l.map B8) ∧ l.length ≤ c) (n : Nat) (hn : vs.length = n) :
    RdL (w.alloc (.cells (vs.map fun v => Value.slice v.1 v.2.1.length v.2.2).toArray t)) (w.alloc (.cells (vs.map fun v => Value.slice v.1 v.2.1.length v.2.2).toArray t)).heap.size (some ⟨w.heap.size, 0, none⟩) n (vs.map fun v => v.2.1) := by
  refine ⟨by simpa using hn, fun i l hl => ?_⟩
  rw [List.getElem?_map] at hl
  obtain ⟨⟨A, l', c⟩, hv, rfl⟩ := Option.map_eq_some_iff.1 hl
  obtain ⟨h1, h2⟩ := h i A l' c hv
  refine ⟨w.heap.size, 0, A, c, rfl, by simp, ?_, h1.to ((Below.refl _ _).alloc (Nat.le_refl _) _), h2⟩
  rw [Nat.zero_add]
  refine cell_blk (heap_alloc_new w _) i ?_
  simp [hv]
theorem pMac_ (A : Option Addr) (n c : Nat) (key : List UInt8) (A' : Option Addr) (n' c' : Nat) (b : List UInt8) (w : World) (hr : Rd w w.heap.size 1 A n (key.map B8)) (hn : n ≤ 1000000) (hr' : Rd w w.heap.size 1 A' n' (b.map B8)) (hc' : n' ≤ c') (hn' : n' ≤ 900000) (hL : LayS w) :
    Calls Tryd.prog 27 #[.slice A n c, .slice A' n' c'] w (Ret32 (hmac key b) w) := by
  obtain rfl : b.length = n' := by simpa using hr'.len
  have hb0 : Below w.heap.size w (w.alloc (.cells #[.slice A' b.length c'] 22)) := (Below.refl _ _).alloc (Nat.le_refl _) _
  have HR := Lib.hid (hr.to hb0)
  have HL := Lib.hid (hL.go' hb0)
  have HP : Hid (RdL (w.alloc (.cells #[.slice A' b.length c'] 22)) (w.alloc (.cells #[.slice A' b.length c'] 22)).heap.size (some ⟨w.heap.size, 0, none⟩) 1 [b]) :=
    rdl_lit w [(A', b, c')] 22 (by intro i A l c h; rcases i with _ | i; (simp at h; obtain ⟨rfl, rfl, rfl⟩ := h; exact ⟨hr', hc'⟩); simp at h) 1 rfl
  have Hb0 := Lib.hid hb0
  clear hr hr' hL hb0
  go_enter Tryd.func27, Tryd.ntmps27
  go_wp2_with fail
  refine (mac_ A n c key _ 1 1 [b] _ HR.out hn HP.out (by decide) (by simpa using hn') HL.out).mono ?_
  rintro e w1 ⟨A1, c1, rfl, h1, hb1⟩
  have H1 := Lib.hid h1
  clear h1
  go_wp2_with fail
  go_ret
  have ho := H1.out
  rw [show ([b] : List (List UInt8)).flatten = b by simp] at ho
  exact ⟨A1, c1, rfl, own_mono ho Hb0.out.size, Hb0.out.trans (hb1.mono Hb0.out.size)⟩
theorem pExtract_ (A : Option Addr) (n c : Nat) (key : List UInt8) (A' : Option Addr) (n' c' : Nat) (b : List UInt8) (w : World) (hr : Rd w w.heap.size 1 A n (key.map B8)) (hn : n ≤ 1000000) (hr' : Rd w w.heap.size 1 A' n' (b.map B8)) (hc' : n' ≤ c') (hn' : n' ≤ 900000) (hL : LayS w) :
    Calls Tryd.prog 29 #[.slice A n c, .slice A' n' c'] w (Ret32 (hmac key b) w) := by
  go_enter Tryd.func29, Tryd.ntmps29
  go_wp2_with fail
  refine (pMac_ A n c key A' n' c' b w hr hn hr' hc' hn' hL).mono ?_
  rintro e w1 ⟨A1, c1, rfl, h1, hb1⟩
  have H1 := Lib.hid h1
  clear h1
  go_wp2_with fail
  go_ret
  exact ⟨A1, c1, rfl, H1.out, hb1⟩
end Go.Proofs.YtclecmpmohoamaaDoor
