/- May heads be a vector? A book's Compare, plain. -/
import Derived.Test.YtabcbpcfleociaaHdA
namespace Go.Proofs.Ytabcbpcfleociaa
open Go.RowKit
attribute [local go_sem ↓] Go.wp_at_zero Go.wp_at_succ
set_option linter.unusedSimpArgs false
set_option linter.unusedVariables false
def badH (last : Int) (h : Hd) : Prop := h.au ≤ last ∨ 5 ≤ h.au ∨ h.sq < 1 ∨ 1048576 < h.sq ∨ h.dg.length ≠ 32
instance (last : Int) (h : Hd) : Decidable (badH last h) := by unfold badH; infer_instance
def validP (last : Int) : List Hd → Bool
  | [] => true
  | h :: t => if badH last h then false else validP h.au t
def validV (Hs : List Hd) : Bool := validP (-1) Hs
theorem validP_at {last : Int} {Hs : List Hd} {i : Nat} {h : Hd} (hi : Hs[i]? = some h) : validP last (Hs.drop i) = if badH last h then false else validP h.au (Hs.drop (i + 1)) := by
  have hl : i < Hs.length := by
    rcases Nat.lt_or_ge i Hs.length with h | h
    · exact h
    · rw [List.getElem?_eq_none h] at hi; cases hi
  rw [List.drop_eq_getElem_cons hl]
  have e : Hs[i] = h := by rw [List.getElem?_eq_getElem hl] at hi; injection hi
  rw [e]
  rfl
set_option maxRecDepth 4000 in
set_option maxHeartbeats 2000000 in
theorem vec_ (A : Option Addr) (n c : Nat) (Hs : List Hd) (no : List Nat) (w : World) (hv : HdN no w A n Hs) (hn : n ≤ 1000000) :
    Calls Try.prog 66 #[.slice A n c] w fun e w' => e = .returned (.bool (validV Hs)) ∧ Below w.heap.size w w' := by
  have HV := Lib.hid hv
  have HN := Lib.hid hn
  have hlen : Hid (Hs.length = n) := hv.len
  clear hv
  go_enter Try.func66, Try.ntmps66
  go_wp2_with fail
  go_loopw [3, 8] (fun x3 x8 wr => ∃ (i : Nat) (last : Int), x3 = .int .i64 last ∧ x8 = .int .i64 i ∧ i ≤ n ∧ Hid (validV Hs = validP last (Hs.drop i)) ∧ Hid (Below w.heap.size w wr)) (fun _ x8 _ => n - (intOf x8).toNat)
  case atStart => exact ⟨0, -1, rfl, rfl, by omega, rfl, Below.refl _ _⟩
  case round =>
    obtain ⟨i, last, rfl, rfl, hi, hvp, hb⟩ := hrel
    by_cases hin : i < n
    · have hin' : (i : Int) < (n : Int) := by omega
      have hi0 : (0 : Int) ≤ (i : Int) := by omega
      have e8 : IntKind.i64.wrap ((i : Int) + 1) = ((i + 1 : Nat) : Int) := by rw [IntWalk.i64_in _ (by omega)]; omega
      obtain ⟨x, hx⟩ : ∃ x, Hs[i]? = some x := ⟨_, List.getElem?_eq_getElem (by rw [hlen.out]; exact hin)⟩
      obtain ⟨b, o, q, rfl, hbb, _, hrb, hqx⟩ := (HV.out).at_ hx
      have HVA := Lib.hid (validP_at (last := last) hx)
      obtain ⟨⟨au, sq, D, m, dc⟩, rfl⟩ : ∃ q', q' = q := ⟨q, rfl⟩
      have hau : au = x.au := hqx.au
      have hsq : sq = x.sq := hqx.sq
      have hm : m = x.dg.length := hqx.len
      have HB := Lib.hid (show badH last x ↔ (au ≤ last ∨ 5 ≤ au ∨ sq < 1 ∨ 1048576 < sq ∨ m ≠ 32) by rw [hau, hsq, hm]; exact Iff.rfl)
      have HAU := Lib.hid hau
      clear hau hsq hm hqx hx
      have c0 : wr.cell? ⟨b, o + i * 3, none⟩ = some (.int .i64 au) := (World.cell?_of_block (a := ⟨b, o + i * 3 + 0, none⟩) (hb.out.block b hbb)).trans (hrb 0 _ rfl)
      have c1 : wr.cell? ⟨b, o + i * 3 + 1, none⟩ = some (.int .i64 sq) := (World.cell?_of_block (a := ⟨b, o + i * 3 + 1, none⟩) (hb.out.block b hbb)).trans (hrb 1 _ rfl)
      have c2 : wr.cell? ⟨b, o + i * 3 + 2, none⟩ = some (.slice D m dc) := (World.cell?_of_block (a := ⟨b, o + i * 3 + 2, none⟩) (hb.out.block b hbb)).trans (hrb 2 _ rfl)
      have hb2 := Lib.hid (hb.out.alloc hb.out.size (.cells #[.int .i64 au, .int .i64 sq, .slice D m dc] 45))
      clear hrb hbb
      by_cases h1 : au ≤ last
      · have hbad := HB.out.2 (Or.inl h1)
        go_wp2_with fail
        go_ret
        exact ⟨by rw [hvp.out, HVA.out, if_pos hbad]; rfl, hb2.out⟩
      · by_cases h2 : 5 ≤ au
        · have hbad := HB.out.2 (Or.inr (Or.inl h2))
          go_wp2_with fail
          go_ret
          exact ⟨by rw [hvp.out, HVA.out, if_pos hbad]; rfl, hb2.out⟩
        · by_cases h3 : sq < 1
          · have hbad := HB.out.2 (Or.inr (Or.inr (Or.inl h3)))
            go_wp2_with fail
            go_ret
            exact ⟨by rw [hvp.out, HVA.out, if_pos hbad]; rfl, hb2.out⟩
          · by_cases h4 : 1048576 < sq
            · have hbad := HB.out.2 (Or.inr (Or.inr (Or.inr (Or.inl h4))))
              go_wp2_with fail
              go_ret
              exact ⟨by rw [hvp.out, HVA.out, if_pos hbad]; rfl, hb2.out⟩
            · by_cases h5 : m = 32
              · have hok : Hid (¬ badH last x) := fun hbx => by
                  rcases HB.out.1 hbx with h | h | h | h | h
                  · exact h1 h
                  · exact h2 h
                  · exact h3 h
                  · exact h4 h
                  · exact h h5
                subst h5
                go_wp2_with fail
                go_roundw
                case rel => exact ⟨i + 1, au, rfl, by go_num, hin, by rw [hvp.out, HVA.out, if_neg hok.out, HAU.out]; rfl, hb2⟩
                case measure => simp only [intOf]; omega
              · have hbad := HB.out.2 (Or.inr (Or.inr (Or.inr (Or.inr h5))))
                have h5' : ¬ (m : Int) = 32 := by omega
                go_wp2_with fail
                go_ret
                exact ⟨by rw [hvp.out, HVA.out, if_pos hbad]; rfl, hb2.out⟩
    · have hiS : Hid (i = n) := (by omega : i = n)
      have hin' : ¬ (i : Int) < (n : Int) := by omega
      go_wp2_with fail
      go_ret
      exact ⟨by rw [hvp.out, List.drop_of_length_le (by rw [hlen.out, hiS.out]; exact Nat.le_refl _)]; rfl, hb.out⟩
end Go.Proofs.Ytabcbpcfleociaa
