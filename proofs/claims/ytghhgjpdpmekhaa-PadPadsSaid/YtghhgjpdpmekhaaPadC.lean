/- The contracts of Unpad, the program's and the document's. -/
import Derived.Test.YtghhgjpdpmekhaaPadB
namespace Go.Proofs.Ytghhgjpdpmekhaa
open Go.RowKit

theorem padBucket_neg (w : World) : Calls Try.prog 13 #[.int .i64 (-1)] w fun e w' => e = .returned (.tuple #[.int .i64 0, .int .i64 1]) ∧ w = w' := padBucket_any (-1) w
set_option maxHeartbeats 1000000 in
theorem unpad_any (A : Option Addr) (n c : Nat) (l : List UInt8) (w : World) (hr : Rd w w.heap.size 1 A n (l.map B8)) (hnc : n ≤ c) (hn : n ≤ 140737488355328) :
    Calls Try.prog 19 #[.slice A n c] w (RetBE w.heap.size (unpL l) (unpE l) w) := by
  obtain rfl : l.length = n := by simpa using hr.len
  go_enter Try.func19, Try.ntmps19
  go_wp2
  go_step3
  go_wp2
  go_step3
  go_wp2_with fail
  go_loop [4] (fun i => ∃ x : Int, -1 ≤ x ∧ x < l.length ∧ i = .int .i64 x ∧ Hid (∀ j : Nat, x < j → j < l.length → l[j]? = some 0)) (fun i => (intOf i + 1).toNat)
  case atStart => exact ⟨_, by omega, by omega, rfl, fun j h1 h2 => by omega⟩
  case round =>
    obtain ⟨x, hx1, hx2, rfl, hz⟩ := hrel
    by_cases h0 : 0 ≤ x
    · obtain ⟨q, rfl⟩ := Int.eq_ofNat_of_zero_le h0
      obtain ⟨b, o, y, rfl, hb, hy, hc⟩ := hr.at8 (k := q) (by omega)
      have hy1 := byte_lt y
      by_cases hy0 : (y.toNat : Int) = 0
      · have ht : ((y.toNat : Int) == 0) = true := by simpa using hy0
        clear hy0
        go_wp2
        go_round
        case rel =>
          refine ⟨(q : Int) - 1, by omega, by omega, rfl, fun j h1 h2 => ?_⟩
          rcases Nat.eq_or_lt_of_le (show q ≤ j by omega) with h | h
          · subst h; rw [hy.out, (byte_eq y 0).1 ht]
          · exact hz.out j (by omega) h2
        case measure => simp only [intOf]; omega
      · have ht : ((y.toNat : Int) == 0) = false := by simpa using hy0
        have hne : ∀ z, l[q]? = some z → z ≠ 0 := by
          intro z h1 e; subst e; have h2 := hy.out.symm.trans h1; injection h2 with h2; exact hy0 (by rw [h2]; rfl)
        have Hne := Lib.hid hne
        clear hne
        clear hy0
        by_cases hy2 : (y.toNat : Int) = 128
        · have ht2 : ((y.toNat : Int) == 128) = true := by simpa using hy2
          have e1 : y = 128 := (byte_eq y 128).1 ht2
          have Hy : Hid (l[q]? = some 128) := by rw [← e1]; exact hy.out
          clear e1 hy2
          by_cases hq : q < 4096
          · obtain ⟨k, hk⟩ : ∃ k : Nat, bSize q = k := ⟨(bSize q).toNat, by have := bSize_gt q hq; omega⟩
            have Hk := Lib.hid hk
            clear hk
            by_cases hkl : k = l.length
            · subst hkl
              have Hu := Lib.hid (unpN_some l q (by omega) hq (pad_from l q (by omega) hq Hy.out (fun j a b => hz.out j (by omega) b) Hk.out))
              go_wp2_with (first
                | (go_at_call 13; refine (padBucket_ok q l.length _ hq Hk.out).mono ?_; rintro e w' ⟨rfl, rfl⟩)
                | (at_builtin
                   refine wpList_app rfl (.tmp 35) (.tmp 38) _ rfl w.heap.size 5 1 1 _ Try.underlying27 info8 rfl (by omega) (.slice (some ⟨w.heap.size, 0, none⟩) 0 0) 0 [] rfl (World.ownsRow_lit w #[] 0 (Nat.le_refl _) (by simp [maxLen]) rfl) w.heap.size _ q _ _ rfl ((hr.take (k := q) (by omega)).alloc (Nat.le_refl _) _) (by rw [← List.map_take]; exact B8_one _) (by simp only [maxLen]; omega) (by omega) (by simp) ?_
                   intro A1 c1 w1 h1 hg1 _))
              rw [Exit.noGoto_ret]
              go_ret2
              refine RetBE.mk (A := A1) (n := q) (c := c1) ?_ (by unfold unpE; rw [Hu.out]; rfl) ?_ ?_
              · unfold unpL; rw [Hu.out]; simp; omega
              · unfold unpL; rw [Hu.out]; simpa using h1
              · exact ((Below.refl _ _).alloc (Nat.le_refl _) _).grown hg1 (by simp) (fun k hk => by simp [Value.ownBlock] at hk; omega)
            · have Hu := Lib.hid (unpN_not l q (by omega) (fun j a b => hz.out j (by omega) b) Hne.out (fun h => hkl (by have := Hk.out; omega)))
              have hkl' : ((k : Int) != (l.length : Int)) = true := by rw [bne_iff_ne]; omega
              clear hkl
              go_wp2_with (go_at_call 13; refine (padBucket_ok q k _ hq Hk.out).mono ?_; rintro e w' ⟨rfl, rfl⟩)
              rw [Exit.noGoto_ret]
              go_ret2
              exact RetBE.mk (n := 0) (by unfold unpL; rw [Hu.out]; rfl) (by unfold unpE; rw [Hu.out]; rfl) (by unfold unpL; rw [Hu.out]; exact World.ownsRow_nil _ _ _ _) (Below.refl _ _)
          · have Hu := Lib.hid (unpN_not l q (by omega) (fun j a b => hz.out j (by omega) b) Hne.out (fun h => hq h.2.1))
            go_wp2_with (go_at_call 13; refine (padBucket_out q _ (by omega)).mono ?_; rintro e w' ⟨rfl, rfl⟩)
            rw [Exit.noGoto_ret]
            go_ret2
            exact RetBE.mk (n := 0) (by unfold unpL; rw [Hu.out]; rfl) (by unfold unpE; rw [Hu.out]; rfl) (by unfold unpL; rw [Hu.out]; exact World.ownsRow_nil _ _ _ _) (Below.refl _ _)
        · have ht2 : ((y.toNat : Int) == 128) = false := by simpa using hy2
          have Hu := Lib.hid (unpN_not l q (by omega) (fun j a b => hz.out j (by omega) b) Hne.out (fun h => hy2 (by have h2 := hy.out.symm.trans h.1; injection h2 with h2; rw [h2]; rfl)))
          clear hy2
          go_wp2
          go_ret2
          exact RetBE.mk (n := 0) (by unfold unpL; rw [Hu.out]; rfl) (by unfold unpE; rw [Hu.out]; rfl) (by unfold unpL; rw [Hu.out]; exact World.ownsRow_nil _ _ _ _) (Below.refl _ _)
    · have Hu := Lib.hid (unpN_zeros l (fun j a => hz.out j (by omega) a))
      obtain rfl : x = -1 := by omega
      go_wp2_with (go_at_call 13; refine (padBucket_neg _).mono ?_; rintro e w' ⟨rfl, rfl⟩)
      rw [Exit.noGoto_ret]
      go_ret2
      exact RetBE.mk (n := 0) (by unfold unpL; rw [Hu.out]; rfl) (by unfold unpE; rw [Hu.out]; rfl) (by unfold unpL; rw [Hu.out]; exact World.ownsRow_nil _ _ _ _) (Below.refl _ _)

/-- What comes back is a slice that reads as l (it may lie in what came in). -/
def RetRE (l : List UInt8) (x : Int) (w : World) (e : Ending) (w' : World) : Prop :=
  ∃ A c, e = .returned (.tuple #[.slice A l.length c, .int .i64 x]) ∧ Rd w' w'.heap.size 1 A l.length (l.map B8) ∧ l.length ≤ c ∧ Below w.heap.size w w'
theorem RetRE.mk {l : List UInt8} {x : Int} {w w' : World} {e : Ending} {A : Option Addr} {n c : Nat} (hn : l.length = n) (he : e = .returned (.tuple #[.slice A n c, .int .i64 x])) (ho : Rd w' w'.heap.size 1 A n (l.map B8)) (hc : n ≤ c) (hb : Below w.heap.size w w') : RetRE l x w e w' := by
  subst hn; exact ⟨A, c, he, ho, hc, hb⟩

set_option maxHeartbeats 1000000 in
theorem refUnpad_any (A : Option Addr) (n c : Nat) (l : List UInt8) (w : World) (hr : Rd w w.heap.size 1 A n (l.map B8)) (hnc : n ≤ c) (hn : n ≤ 140737488355328) :
    Calls Try.prog 20 #[.slice A n c] w (RetRE (unpL l) (unpE l) w) := by
  obtain rfl : l.length = n := by simpa using hr.len
  by_cases hbig : 4096 < l.length
  · have hu : unpN l = none := by
      refine unpN_none l fun k hk hk4 hp => ?_
      have h1 := padL_len (l.take k)
      have hl : (l.take k).length = k := by simp; omega
      have h2 := bSize_gt k hk4
      rw [hp, hl] at h1
      omega
    have Hu := Lib.hid hu
    clear hu
    go_enter Try.func20, Try.ntmps20
    go_wp2
    go_ret2
    exact RetRE.mk (n := 0) (by unfold unpL; rw [Hu.out]; rfl) (by unfold unpE; rw [Hu.out]; rfl) (by unfold unpL; rw [Hu.out]; exact Rd.nil _ _ _ _) (Nat.zero_le _) (Below.refl _ _)
  · go_enter Try.func20, Try.ntmps20
    go_wp2
    go_slots
    go_loopw [4] (fun i wr => ∃ q : Nat, q ≤ l.length ∧ i = .int .i64 q ∧ Below w.heap.size w wr ∧ Hid (∀ j : Nat, j < q → j < 4096 → padL (l.take j) ≠ l)) (fun i _ => (l.length - intOf i).toNat)
    case atStart => exact ⟨0, by omega, rfl, Below.refl _ _, fun j h1 => by omega⟩
    case round =>
      obtain ⟨q, hq1, rfl, hb, hz⟩ := hrel
      by_cases h0 : q < l.length
      · have hr1 := hr.below hb
        have hrt := (hr1.more hb.size).take (k := q) (by omega)
        obtain ⟨b, o, y, rfl, hb2, hy, hc⟩ := hr1.at8 (k := q) (by omega)
        have hy1 := byte_lt y
        rw [← List.map_take] at hrt
        by_cases hy0 : (y.toNat : Int) = 128
        · have ht : ((y.toNat : Int) != 128) = false := by simpa using hy0
          clear hy0
          have hst := str_toList
          by_cases hpe : padL (l.take q) = l
          · have hpb : (padL (l.take q) == l) = true := by rw [beq_iff_eq]; exact hpe
            have Hu := Lib.hid (unpN_some l q h0 (by omega) hpe)
            clear hpe
            go_wp2_with (first
              | (go_at_call 18; refine (refPad_ok _ q _ (l.take q) _ hrt (by simp; omega)).mono ?_; rintro e w1 ⟨A1, c1, rfl, h1, hb1⟩
                 have hcv1 := run_convert_rd (P := Try.prog) 27 5 9 Try.underlying27 Try.underlying5 Try.underlying9 (c := c1) (Rd.of_own h1)
                 have hcv2 := run_convert_rd (P := Try.prog) 27 5 9 Try.underlying27 Try.underlying5 Try.underlying9 (c := c) ((hr1.more hb.size).below hb1)))
            go_ret2
            exact RetRE.mk (n := q) (by unfold unpL; rw [Hu.out]; simp; omega) (by unfold unpE; rw [Hu.out]; rfl) (by unfold unpL; rw [Hu.out]; exact (hrt.below hb1).more hb1.size) (by omega) (hb.trans (hb1.mono hb.size))
          · have hpb : (padL (l.take q) == l) = false := by rw [beq_eq_false_iff_ne]; exact hpe
            have Hpe := Lib.hid hpe
            clear hpe
            go_wp2_with (first
              | (go_at_call 18; refine (refPad_ok _ q _ (l.take q) _ hrt (by simp; omega)).mono ?_; rintro e w1 ⟨A1, c1, rfl, h1, hb1⟩
                 have hcv1 := run_convert_rd (P := Try.prog) 27 5 9 Try.underlying27 Try.underlying5 Try.underlying9 (c := c1) (Rd.of_own h1)
                 have hcv2 := run_convert_rd (P := Try.prog) 27 5 9 Try.underlying27 Try.underlying5 Try.underlying9 (c := c) ((hr1.more hb.size).below hb1)))
            go_roundw
            case rel =>
              refine ⟨q + 1, by omega, by go_num, hb.trans (hb1.mono hb.size), fun j h1 h2 => ?_⟩
              rcases Nat.eq_or_lt_of_le (show j ≤ q by omega) with h | h
              · subst h; exact Hpe.out
              · exact hz.out j h h2
            case measure => simp only [intOf]; omega
        · have ht : ((y.toNat : Int) != 128) = true := by simpa using hy0
          go_wp2
          go_roundw
          case rel =>
            refine ⟨q + 1, by omega, by go_num, hb, fun j h1 h2 => ?_⟩
            rcases Nat.eq_or_lt_of_le (show j ≤ q by omega) with h | h
            · subst h
              intro hp
              have hl : (l.take j).length = j := by simp; omega
              obtain ⟨_, p1, _, _⟩ := padL_at _ _ (by omega) hp
              rw [hl] at p1
              have h2 := hy.out.symm.trans p1; injection h2 with h2; exact hy0 (by rw [h2]; rfl)
            · exact hz.out j h h2
          case measure => simp only [intOf]; omega
      · have Hu := Lib.hid (unpN_none l (fun j h1 h2 => hz.out j (by omega) h2))
        go_wp2
        go_ret2
        exact RetRE.mk (n := 0) (by unfold unpL; rw [Hu.out]; rfl) (by unfold unpE; rw [Hu.out]; rfl) (by unfold unpL; rw [Hu.out]; exact Rd.nil _ _ _ _) (Nat.zero_le _) hb
end Go.Proofs.Ytghhgjpdpmekhaa
