/- The walks of the laws CaretWidths, CaretPlaces, CaretOrder and CaretBack. -/
import Derived.Test.YtghhgjpdpmekhaaCarD
import Derived.Deep.RegionHeld3
import Derived.Deep.DeepCutAuto
import Derived.Deep.QuietTactic
import Derived.BigQuiet
namespace Go.Proofs.Ytghhgjpdpmekhaa
open Go.RowKit

theorem caretWidths_walk (c : Int) (w : World) (_ : (Lit.int .i32 c).wf = true) : Calls Try.prog 9 #[.int .i32 c] w fun e w' => e = .returned (.bool true) ∧ Below w.heap.size w w' := by
  go_enter Try.func9, Try.ntmps9
  go_wp2_with fail
  refine (width_any c _).mono ?_; rintro e w1 ⟨rfl, rfl⟩
  go_wp2_with fail
  refine (refWidth_any c _).mono ?_; rintro e w1 ⟨rfl, rfl⟩
  go_wp2_with fail
  refine (awake17 _).mono ?_; rintro e w2 ⟨rfl, hb2⟩
  go_wp2_with fail
  go_ret
  exact ⟨rfl, hb2⟩

theorem is_any (x y : Int) (w : World) (hx : -1125899906842624 < x ∧ x < 1125899906842624) (hy : -1125899906842624 < y ∧ y < 1125899906842624) :
    Calls Try.prog 23 #[.complex .f64 (fl x) (fl y), .agg #[.int .i64 x, .int .i64 y]] w fun e w' => e = .returned (.bool true) ∧ w.alloc (.cells #[.int .i64 x, .int .i64 y] 42) = w' := by
  have hfl : ∀ z, floatOfInt .f64 z = fl z := fun _ => rfl
  have h1 := feq x x hx hx
  have h2 := feq y y hy hy
  rw [decide_eq_true rfl] at h1 h2
  go_enter Try.func23, Try.ntmps23
  go_wp2
  go_ret
  exact ⟨rfl, rfl⟩

/-- The spot at place k of a slice that reads as spots. -/
theorem Rd.atS {w : World} {B n k : Nat} {A : Option Addr} {L : List Pen} (h : Rd w B 2 A n (L.flatMap S2)) (hl : L.length = n) (hk : k < n) :
    ∃ b o p, A = some ⟨b, o, none⟩ ∧ b < B ∧ Hid (L[k]? = some p) ∧ w.cell? ⟨b, o + k * 2, none⟩ = some (.int .i64 p.1) ∧ w.cell? ⟨b, o + k * 2 + 1, none⟩ = some (.int .i64 p.2) := by
  obtain ⟨b, o, rfl, hb, hc⟩ := h.2 (by omega)
  have key : ∀ (L : List Pen) (k : Nat) (p : Pen), L[k]? = some p → (L.flatMap S2)[k * 2]? = some (.int .i64 p.1) ∧ (L.flatMap S2)[k * 2 + 1]? = some (.int .i64 p.2) := by
    intro L
    induction L with
    | nil => intro k p h; simp at h
    | cons q L ih =>
      intro k p h
      cases k with
      | zero => simp at h; subst h; simp [S2]
      | succ k =>
        simp only [List.getElem?_cons_succ] at h
        have := ih k p h
        simp only [List.flatMap_cons, S2, List.cons_append, List.nil_append, Nat.add_mul]
        exact this
  have hp : L[k]? = some (L[k]'(by omega)) := List.getElem?_eq_getElem _
  obtain ⟨h1, h2⟩ := key L k _ hp
  exact ⟨b, o, _, rfl, hb, hp, hc _ _ h1, by rw [Nat.add_assoc]; exact hc _ _ h2⟩

set_option maxHeartbeats 2000000 in
theorem caretPlaces_walk (s : ByteArray) (cols : Int) (w : World) (hs : s.size ≤ 1048576) : Calls Try.prog 8 #[.string s, .int .i64 cols] w fun e w' => e = .returned (.bool true) ∧ Below w.heap.size w w' := by
  by_cases hc : 2 ≤ cols ∧ cols ≤ 200
  · obtain ⟨h1, h2⟩ := hc
    have hL := Lib.hid (carets_bd s cols h1 h2 hs)
    have hlen := carets_le s cols
    go_enter Try.func8, Try.ntmps8
    go_wp2_with fail
    refine (places_any s cols _ h1 h2 hs).mono ?_; rintro e w1 ⟨A1, c1, rfl, ho1, hb1⟩
    go_wp2_with fail
    refine (refPlaces_any s cols _ h1 h2 hs).mono ?_; rintro e w2 ⟨A2, c2, rfl, ho2, hb2⟩
    have hr1 := (Rd.of_own ho1).to hb2
    have hr2 := Rd.of_own ho2
    have hb12 : Below w.heap.size w w2 := hb1.trans (hb2.mono hb1.size)
    clear ho1 ho2 hb1 hb2
    go_wp2_with fail
    go_loopw [34] (fun i wr => ∃ k : Nat, i = .int .i64 k ∧ k ≤ (carets s cols).length ∧ Below w2.heap.size w2 wr) (fun i _ => (carets s cols).length - (intOf i).toNat)
    case atStart => exact ⟨0, rfl, Nat.zero_le _, Below.refl _ _⟩
    case round =>
      obtain ⟨k, rfl, hk, hb⟩ := hrel
      by_cases hlt : k < (carets s cols).length
      · obtain ⟨b1, o1, p, rfl, hb1, hp, hcp⟩ := (hr1.below hb).atC hlt
        obtain ⟨b2, o2, q, rfl, hb2, hq, hcq1, hcq2⟩ := (hr2.below hb).atS rfl hlt
        obtain rfl : p = q := by have h3 := hp.out.symm.trans hq.out; injection h3
        have hpb := hL.out p (List.mem_of_getElem? hp.out)
        go_wp2_with fail
        go_region_held3 (fun w' => w'.cell? ⟨b1, o1 + k, none⟩ = some (.complex .f64 (fl p.1) (fl p.2)) ∧ w'.cell? ⟨b2, o2 + k * 2, none⟩ = some (.int .i64 p.1) ∧ w'.cell? ⟨b2, o2 + k * 2 + 1, none⟩ = some (.int .i64 p.2)) (go_keep)
          (first | (go_at_call 23; refine (is_any p.1 p.2 _ (by omega) (by omega)).mono ?_; rintro e w3 ⟨rfl, rfl⟩))
        go_wp2_with fail
        go_roundw
        case rel => exact ⟨k + 1, by go_num, by omega, (hb.alloc hb.size _).drew⟩
        case measure => simp only [intOf]; omega
      · go_wp2_with fail
        refine (awake17 _).mono ?_; rintro e w5 ⟨rfl, hb5⟩
        go_wp2_with fail
        go_ret
        exact ⟨rfl, hb12.trans ((hb.trans (hb5.mono hb.size)).mono hb12.size)⟩
  · have hno : cols < 2 ∨ 200 < cols := by omega
    go_enter Try.func8, Try.ntmps8
    go_wp2_with fail
    refine (places_no s cols _ hno).mono ?_; rintro e w1 ⟨rfl, rfl⟩
    go_wp2_with fail
    refine (refPlaces_no s cols _ hno).mono ?_; rintro e w1 ⟨rfl, rfl⟩
    go_wp2_with fail
    refine wp_loop_rounds 1 ?_
    rw [rounds_succ]
    go_wp2_with fail
    refine (awake17 _).mono ?_; rintro e w5 ⟨rfl, hb5⟩
    go_wp2_with fail
    go_ret
    exact ⟨rfl, hb5⟩

theorem csub {P : Program} (t : TypeId) (x y a b : Int) (hx : -1125899906842624 < x ∧ x < 1125899906842624) (hy : -1125899906842624 < y ∧ y < 1125899906842624) (ha : -1125899906842624 < a ∧ a < 1125899906842624) (hb : -1125899906842624 < b ∧ b < 1125899906842624) (W : World) :
    (binOp .sub t (.complex .f64 (fl x) (fl y)) (.complex .f64 (fl a) (fl b))).run P W = .ok (.complex .f64 (fl (x - a)) (fl (y - b))) W := by
  refine run_complex_sum W .sub (.inr rfl) t .f64 _ _ _ _ _ _ ?_
  unfold cSumBits
  rw [show floatBits .sub .f64 (fl x) (fl a) = some (fl (x - a)) from fl_sub x a (by omega) (by omega) (by omega) (by omega) (by omega) (by omega),
    show floatBits .sub .f64 (fl y) (fl b) = some (fl (y - b)) from fl_sub y b (by omega) (by omega) (by omega) (by omega) (by omega) (by omega)]
  rfl
theorem ford01 : FloatKind.f64.format.order 0 4607182418800017408 = some .lt := by decide +kernel
theorem ford10 : FloatKind.f64.format.order 4607182418800017408 0 = some .gt := by decide +kernel
theorem flt0 (a : Int) (ha : -1125899906842624 < a ∧ a < 1125899906842624) : (FloatKind.f64.format.order (fl a) 0 == some .lt) = decide (a < 0) := by
  have := flt a 0 ha (by omega); rwa [fl_zero] at this
theorem feq0 (a : Int) (ha : -1125899906842624 < a ∧ a < 1125899906842624) : (FloatKind.f64.format.order (fl a) 0 == some .eq) = decide (a = 0) := by
  have := feq a 0 ha (by omega); rwa [fl_zero] at this

set_option maxHeartbeats 4000000 in
theorem caretOrder_walk (s : ByteArray) (cols : Int) (w : World) (hs : s.size ≤ 1048576) : Calls Try.prog 10 #[.string s, .int .i64 cols] w fun e w' => e = .returned (.bool true) ∧ Below w.heap.size w w' := by
  by_cases hc : 2 ≤ cols ∧ cols ≤ 200
  · obtain ⟨h1, h2⟩ := hc
    have hL := Lib.hid (carets_bd s cols h1 h2 hs)
    have hOk := Lib.hid (carets_ok s cols h1)
    have hNx := Lib.hid (carets_nx s cols h1)
    have hfst := Lib.hid (carets_first s cols h1)
    have hlen := carets_le s cols
    have hl1 := Lib.hid (carets_len s cols)
    have h00 := ford00
    go_enter Try.func10, Try.ntmps10
    go_wp2_with fail
    refine (places_any s cols _ h1 h2 hs).mono ?_; rintro e w1 ⟨A1, c1, rfl, ho1, hb1⟩
    have hr1 := (Rd.of_own ho1)
    clear ho1
    have hn1 : 0 < (carets s cols).length := by rw [hl1.out]; omega
    go_wp2_with fail
    go_loopw [7] (fun n wr => ∃ (pos m : Nat), n = .int .i64 m ∧ Hid (m + (runes s pos).length = (carets s cols).length) ∧ m ≤ 1048577 ∧ wr.heap[w1.heap.size]? = some (.stringIter s pos) ∧ Below w1.heap.size w1 wr) (fun _ wr => s.size - wr.iterPos w1.heap.size)
    case atStart => exact ⟨0, 1, rfl, by rw [hl1.out]; exact Nat.add_comm _ _, by omega, World.iter_heap _ _ _, (Below.refl _ _).alloc (Nat.le_refl _) _⟩
    case round =>
      obtain ⟨pos, m, rfl, hm, hm2, hit, hb⟩ := hrel
      by_cases hp : pos < s.size
      · have hnx := fun ty => Lib.run_next_any_at (P := Try.prog) wr _ s pos ty hit hp
        have hit1 := Lib.iterAt_heap wr _ s pos (pos + (Utf8.decode s pos).2) hit
        have hb1 := Lib.below_iterAt hb (Nat.le_refl _) s (pos + (Utf8.decode s pos).2)
        have hadv := adv s pos hp
        have hm3 := hm.out
        rw [runes_next s pos hp] at hm3
        simp only [List.length_cons] at hm3
        have hm4 : m + 1 + (runes s (pos + (Utf8.decode s pos).2)).length = (carets s cols).length := by omega
        have hm5 : m + 1 ≤ 1048577 := by omega
        have Hm := Lib.hid hm4
        have Hip := Lib.hid (iterPos_of hit)
        clear hm3 hm4
        go_wp2_with fail
        go_roundw
        case rel => exact ⟨_, m + 1, by go_num, Hm.out, hm5, hit1, hb1⟩
        case measure => rw [Hip.out, iterPos_of hit1]; omega
      · have hnx := fun ty => Lib.run_next_end_at (P := Try.prog) wr _ s pos ty hit hp
        have hm3 := hm.out
        rw [runes_end s pos hp] at hm3
        obtain rfl : m = (carets s cols).length := by simpa using hm3
        clear hm3 hm
        obtain ⟨b1, o1, p, rfl, hbl1, hp0, hcp⟩ := (hr1.below hb).atC (k := 0) (by omega)
        obtain rfl : p = (0, 0) := by have h3 := hfst.out.symm.trans hp0.out; injection h3 with h3; exact h3.symm
        simp only [fl_zero, Nat.add_zero] at hcp
        have hwx : ∃ wx : World, wx = wr := ⟨_, rfl⟩
        obtain ⟨wx, rfl⟩ := hwx
        go_wp2_with fail
        have hbx : Below w.heap.size w wx := hb1.trans (hb.mono hb1.size)
        have hrx := (hr1.below hb)
        clear hit hnx hcp hb hr1
        go_loop [42] (fun i => ∃ k : Nat, i = .int .i64 k ∧ k ≤ (carets s cols).length) (fun i => (carets s cols).length - (intOf i).toNat)
        case atStart => exact ⟨0, rfl, Nat.zero_le _⟩
        case round =>
          obtain ⟨k, rfl, hk⟩ := hrel
          have h01 := ford01
          have h10 := ford10
          by_cases hlt : k < (carets s cols).length
          · obtain ⟨b2, o2, p, hA2, hbl2, hp, hcp⟩ := hrx.atC hlt
            obtain ⟨rfl, rfl⟩ : b1 = b2 ∧ o1 = o2 := by injection hA2 with hA3; injection hA3 with e1 e2; exact ⟨e1, e2⟩
            have hpb := hL.out p (List.mem_of_getElem? hp.out)
            have hok := hOk.out p (List.mem_of_getElem? hp.out)
            obtain ⟨hok1, hok2, hok3⟩ := hok
            have hf1 := flt0 p.1 (by omega)
            rw [decide_eq_false (by omega)] at hf1
            have hf2 := fgt p.1 cols (by omega) (by omega)
            rw [decide_eq_false (by omega)] at hf2
            have hfl : ∀ z, floatOfInt .f64 z = fl z := fun _ => rfl
            by_cases hk0 : k = 0
            · subst hk0
              simp only [Nat.add_zero] at hcp
              go_wp2_with fail
              go_round
              case rel => exact ⟨1, rfl, by omega⟩
              case measure => simp only [intOf]; omega
            · obtain ⟨j, rfl⟩ : ∃ j, k = j + 1 := ⟨k - 1, by omega⟩
              have hkb : (((j + 1 : Nat) : Int) == 0) = false := by rw [beq_eq_false_iff_ne]; omega
              obtain ⟨b3, o3, q, hA3, hbl3, hq, hcq⟩ := hrx.atC (k := j) (by omega)
              obtain ⟨rfl, rfl⟩ : b1 = b3 ∧ o1 = o3 := by injection hA3 with hA3; injection hA3 with e1 e2; exact ⟨e1, e2⟩
              have hqb := hL.out q (List.mem_of_getElem? hq.out)
              have hnx := hNx.out j q p hq.out hp.out
              have hsb := csub (P := Try.prog) 40 p.1 p.2 q.1 q.2 (by omega) (by omega) (by omega) (by omega) wx
              rcases hnx with ⟨e1, e2⟩ | ⟨e1, e2⟩
              · rw [show p.2 - q.2 = 0 by omega, fl_zero] at hsb
                have hf3 := flt0 (p.1 - q.1) (by omega)
                rw [decide_eq_false (by omega)] at hf3
                clear e1
                go_wp2_with fail
                go_round
                case rel => exact ⟨j + 1 + 1, by go_num, by omega⟩
                case measure => simp only [intOf]; omega
              · rw [show p.2 - q.2 = 1 by omega, fl_one] at hsb
                have hf3 := feq0 p.1 (by omega)
                rw [decide_eq_true e2] at hf3
                have hf4 : (FloatKind.f64.format.order (fl p.1) 0 != some .eq) = false := by
                  have h5 : FloatKind.f64.format.order (fl p.1) 0 = some .eq := by simpa using hf3
                  rw [h5]; rfl
                clear e1 e2
                go_wp2_with fail
                go_round
                case rel => exact ⟨j + 1 + 1, by go_num, by omega⟩
                case measure => simp only [intOf]; omega
          · go_wp2_with fail
            refine (awake17 _).mono ?_; rintro e w5 ⟨rfl, hb5⟩
            go_wp2_with fail
            go_ret
            exact ⟨rfl, hbx.trans (hb5.mono hbx.size)⟩
  · have hno : cols < 2 ∨ 200 < cols := by omega
    go_enter Try.func10, Try.ntmps10
    go_wp2_with fail
    refine (places_no s cols _ hno).mono ?_; rintro e w1 ⟨rfl, rfl⟩
    go_wp2_with fail
    refine (awake17 _).mono ?_; rintro e w5 ⟨rfl, hb5⟩
    go_wp2_with fail
    go_ret
    exact ⟨rfl, hb5⟩

set_option maxHeartbeats 4000000 in
set_option maxRecDepth 100000 in
theorem caretBack_walk (s : ByteArray) (cols : Int) (w : World) (hs : s.size ≤ 1048576) : Calls Try.prog 11 #[.string s, .int .i64 cols] w fun e w' => e = .returned (.bool true) ∧ Below w.heap.size w w' := by
  by_cases hc : 2 ≤ cols ∧ cols ≤ 200
  · obtain ⟨h1, h2⟩ := hc
    have hL := Lib.hid (carets_bd s cols h1 h2 hs)
    have hM := Lib.hid (mono_of_nx (carets_nx s cols h1))
    have hlen := carets_le s cols
    go_enter Try.func11, Try.ntmps11
    go_wp2_with fail
    refine (places_any s cols _ h1 h2 hs).mono ?_; rintro e w1 ⟨A1, c1, rfl, ho1, hb1⟩
    have hr1 := (Rd.of_own ho1)
    clear ho1
    by_cases h300 : 300 < (carets s cols).length
    · go_wp2_with fail
      go_loopw [33] (fun i wr => ∃ k : Nat, i = .int .i64 k ∧ k ≤ 300 ∧ Below w1.heap.size w1 wr) (fun i _ => 300 - (intOf i).toNat)
      case atStart => exact ⟨0, rfl, Nat.zero_le _, Below.refl _ _⟩
      case round =>
        obtain ⟨k, rfl, hk, hb⟩ := hrel
        have hml : 300 ≤ (carets s cols).length := by omega
        by_cases hlt : k < 300
        · obtain ⟨b, o, p, rfl, hbl, hp, hcp⟩ := (hr1.below hb).atC (k := k) (by omega)
          have hpb := hL.out p (List.mem_of_getElem? hp.out)
          obtain ⟨j, hj, hkj, hjl, hpj, hlast⟩ := near_at hM.out (fun q hq => (hL.out q hq).2.1) hp.out
          have hat := fun W => at_any s cols p.1 p.2 W h1 h2 hs (by omega) (by omega)
          have hmv := fun W => move_any s cols k p W h1 h2 hs hp.out
          simp only [hj] at hat hmv
          have Hat := Lib.hid hat
          have Hmv := Lib.hid hmv
          have Hpj := Lib.hid hpj
          have Hlast := Lib.hid hlast
          clear hat hmv hj hpj hlast
          go_wp2_with fail
          refine (Hat.out _).mono ?_; rintro e w2 ⟨rfl, hb2⟩
          have hrx := (hr1.below hb).below (hb2.mono hb.size)
          obtain ⟨b2, o2, p2, hA2, _, hp2, hcj⟩ := hrx.atC (k := j) hjl
          obtain ⟨rfl, rfl⟩ : b = b2 ∧ o = o2 := by injection hA2 with hA3; injection hA3 with e1 e2; exact ⟨e1, e2⟩
          obtain rfl : p = p2 := by have h3 := Hpj.out.symm.trans hp2.out; injection h3
          obtain ⟨b2, o2, p2, hA3, _, hp3, hck⟩ := hrx.atC (k := k) (by omega)
          obtain ⟨rfl, rfl⟩ : b = b2 ∧ o = o2 := by injection hA3 with hA4; injection hA4 with e1 e2; exact ⟨e1, e2⟩
          obtain rfl : p = p2 := by have h3 := hp.out.symm.trans hp3.out; injection h3
          have hf1 := feq p.1 p.1 (by omega) (by omega)
          have hf2 := feq p.2 p.2 (by omega) (by omega)
          rw [decide_eq_true rfl] at hf1 hf2
          clear hcp
          have hki : (k : Int) < ((carets s cols).length : Int) := by omega
          have hji : (j : Int) < ((carets s cols).length : Int) := by omega
          have ht1 : decide (j < k) = false := by simp; omega
          have ht2 : decide ((carets s cols).length ≤ j) = false := by simp; omega
          have hwj : IntKind.i64.wrap ((j : Int) + 1) = (j : Int) + 1 := IntWalk.i64_in _ (by omega)
          by_cases hjn : j + 1 < (carets s cols).length
          · obtain ⟨b2, o2, q, hA4, _, hq, hcq⟩ := hrx.atC (k := j + 1) hjn
            obtain ⟨rfl, rfl⟩ : b = b2 ∧ o = o2 := by injection hA4 with hA5; injection hA5 with e1 e2; exact ⟨e1, e2⟩
            have hqb := hL.out q (List.mem_of_getElem? hq.out)
            have hne : q ≠ p := fun e => Hlast.out (j + 1) (Nat.lt_succ_self j) hjn (by rw [← e]; exact hq.out)
            have hf3 := feq q.1 p.1 (by omega) (by omega)
            have hf4 := feq q.2 p.2 (by omega) (by omega)
            have ht3 : decide ((j : Int) + 1 < ((carets s cols).length : Int)) = true := by simp; omega
            have hff : (decide (q.1 = p.1) && decide (q.2 = p.2)) = false := by
              rw [Bool.and_eq_false_iff, decide_eq_false_iff_not, decide_eq_false_iff_not]
              by_cases h5 : q.1 = p.1
              · right; intro h6; exact hne (Prod.ext h5 h6)
              · left; exact h5
            rw [← hf3, ← hf4] at hff
            have hjj : (j : Int) + 1 < ((carets s cols).length : Int) := by omega
            have hjk : 0 ≤ (j : Int) + 1 := by omega
            have hjt : ((j : Int) + 1).toNat = j + 1 := by omega
            clear hne hf3 hf4
            go_wp2_with fail
            go_quiet (fail)
            go_wp2_with fail
            refine (Hmv.out _).mono ?_; rintro e w3 ⟨rfl, hb3⟩
            have hb4 : Below w1.heap.size w1 w3 := (below_drewN (hb.trans (hb2.mono hb.size)) _).trans (hb3.mono (hb.trans (hb2.mono hb.size)).size)
            go_wp2_with fail
            go_roundw
            case rel => exact ⟨k + 1, by go_num, by omega, hb4⟩
            case measure => simp only [intOf]; omega
          · have ht3 : decide ((j : Int) + 1 < ((carets s cols).length : Int)) = false := by simp; omega
            go_wp2_with fail
            go_quiet (fail)
            go_wp2_with fail
            refine (Hmv.out _).mono ?_; rintro e w3 ⟨rfl, hb3⟩
            have hb4 : Below w1.heap.size w1 w3 := (below_drewN (hb.trans (hb2.mono hb.size)) _).trans (hb3.mono (hb.trans (hb2.mono hb.size)).size)
            go_wp2_with fail
            go_roundw
            case rel => exact ⟨k + 1, by go_num, by omega, hb4⟩
            case measure => simp only [intOf]; omega
        · go_wp2_with fail
          refine (awake17 _).mono ?_; rintro e w5 ⟨rfl, hb5⟩
          go_wp2_with fail
          go_ret
          exact ⟨rfl, hb1.trans ((hb.trans (hb5.mono hb.size)).mono hb1.size)⟩
    · go_wp2_with fail
      go_loopw [33] (fun i wr => ∃ k : Nat, i = .int .i64 k ∧ k ≤ (carets s cols).length ∧ Below w1.heap.size w1 wr) (fun i _ => (carets s cols).length - (intOf i).toNat)
      case atStart => exact ⟨0, rfl, Nat.zero_le _, Below.refl _ _⟩
      case round =>
        obtain ⟨k, rfl, hk, hb⟩ := hrel
        have hml : (carets s cols).length ≤ (carets s cols).length := by omega
        by_cases hlt : k < (carets s cols).length
        · obtain ⟨b, o, p, rfl, hbl, hp, hcp⟩ := (hr1.below hb).atC (k := k) (by omega)
          have hpb := hL.out p (List.mem_of_getElem? hp.out)
          obtain ⟨j, hj, hkj, hjl, hpj, hlast⟩ := near_at hM.out (fun q hq => (hL.out q hq).2.1) hp.out
          have hat := fun W => at_any s cols p.1 p.2 W h1 h2 hs (by omega) (by omega)
          have hmv := fun W => move_any s cols k p W h1 h2 hs hp.out
          simp only [hj] at hat hmv
          have Hat := Lib.hid hat
          have Hmv := Lib.hid hmv
          have Hpj := Lib.hid hpj
          have Hlast := Lib.hid hlast
          clear hat hmv hj hpj hlast
          go_wp2_with fail
          refine (Hat.out _).mono ?_; rintro e w2 ⟨rfl, hb2⟩
          have hrx := (hr1.below hb).below (hb2.mono hb.size)
          obtain ⟨b2, o2, p2, hA2, _, hp2, hcj⟩ := hrx.atC (k := j) hjl
          obtain ⟨rfl, rfl⟩ : b = b2 ∧ o = o2 := by injection hA2 with hA3; injection hA3 with e1 e2; exact ⟨e1, e2⟩
          obtain rfl : p = p2 := by have h3 := Hpj.out.symm.trans hp2.out; injection h3
          obtain ⟨b2, o2, p2, hA3, _, hp3, hck⟩ := hrx.atC (k := k) (by omega)
          obtain ⟨rfl, rfl⟩ : b = b2 ∧ o = o2 := by injection hA3 with hA4; injection hA4 with e1 e2; exact ⟨e1, e2⟩
          obtain rfl : p = p2 := by have h3 := hp.out.symm.trans hp3.out; injection h3
          have hf1 := feq p.1 p.1 (by omega) (by omega)
          have hf2 := feq p.2 p.2 (by omega) (by omega)
          rw [decide_eq_true rfl] at hf1 hf2
          clear hcp
          have hki : (k : Int) < ((carets s cols).length : Int) := by omega
          have hji : (j : Int) < ((carets s cols).length : Int) := by omega
          have ht1 : decide (j < k) = false := by simp; omega
          have ht2 : decide ((carets s cols).length ≤ j) = false := by simp; omega
          have hwj : IntKind.i64.wrap ((j : Int) + 1) = (j : Int) + 1 := IntWalk.i64_in _ (by omega)
          by_cases hjn : j + 1 < (carets s cols).length
          · obtain ⟨b2, o2, q, hA4, _, hq, hcq⟩ := hrx.atC (k := j + 1) hjn
            obtain ⟨rfl, rfl⟩ : b = b2 ∧ o = o2 := by injection hA4 with hA5; injection hA5 with e1 e2; exact ⟨e1, e2⟩
            have hqb := hL.out q (List.mem_of_getElem? hq.out)
            have hne : q ≠ p := fun e => Hlast.out (j + 1) (Nat.lt_succ_self j) hjn (by rw [← e]; exact hq.out)
            have hf3 := feq q.1 p.1 (by omega) (by omega)
            have hf4 := feq q.2 p.2 (by omega) (by omega)
            have ht3 : decide ((j : Int) + 1 < ((carets s cols).length : Int)) = true := by simp; omega
            have hff : (decide (q.1 = p.1) && decide (q.2 = p.2)) = false := by
              rw [Bool.and_eq_false_iff, decide_eq_false_iff_not, decide_eq_false_iff_not]
              by_cases h5 : q.1 = p.1
              · right; intro h6; exact hne (Prod.ext h5 h6)
              · left; exact h5
            rw [← hf3, ← hf4] at hff
            have hjj : (j : Int) + 1 < ((carets s cols).length : Int) := by omega
            have hjk : 0 ≤ (j : Int) + 1 := by omega
            have hjt : ((j : Int) + 1).toNat = j + 1 := by omega
            clear hne hf3 hf4
            go_wp2_with fail
            go_quiet (fail)
            go_wp2_with fail
            refine (Hmv.out _).mono ?_; rintro e w3 ⟨rfl, hb3⟩
            have hb4 : Below w1.heap.size w1 w3 := (below_drewN (hb.trans (hb2.mono hb.size)) _).trans (hb3.mono (hb.trans (hb2.mono hb.size)).size)
            go_wp2_with fail
            go_roundw
            case rel => exact ⟨k + 1, by go_num, by omega, hb4⟩
            case measure => simp only [intOf]; omega
          · have ht3 : decide ((j : Int) + 1 < ((carets s cols).length : Int)) = false := by simp; omega
            go_wp2_with fail
            go_quiet (fail)
            go_wp2_with fail
            refine (Hmv.out _).mono ?_; rintro e w3 ⟨rfl, hb3⟩
            have hb4 : Below w1.heap.size w1 w3 := (below_drewN (hb.trans (hb2.mono hb.size)) _).trans (hb3.mono (hb.trans (hb2.mono hb.size)).size)
            go_wp2_with fail
            go_roundw
            case rel => exact ⟨k + 1, by go_num, by omega, hb4⟩
            case measure => simp only [intOf]; omega
        · go_wp2_with fail
          refine (awake17 _).mono ?_; rintro e w5 ⟨rfl, hb5⟩
          go_wp2_with fail
          go_ret
          exact ⟨rfl, hb1.trans ((hb.trans (hb5.mono hb.size)).mono hb1.size)⟩
  · have hno : cols < 2 ∨ 200 < cols := by omega
    go_enter Try.func11, Try.ntmps11
    go_wp2_with fail
    refine (places_no s cols _ hno).mono ?_; rintro e w1 ⟨rfl, rfl⟩
    go_wp2_with fail
    refine (awake17 _).mono ?_; rintro e w5 ⟨rfl, hb5⟩
    go_wp2_with fail
    go_ret
    exact ⟨rfl, hb5⟩
end Go.Proofs.Ytghhgjpdpmekhaa
