/- The contracts of finite, nearest, At and Move (by nought). -/
import Derived.Test.YtghhgjpdpmekhaaCarC
import Derived.Test.YtghhgjpdpmekhaaCarN
namespace Go.Proofs.Ytghhgjpdpmekhaa
open Go.RowKit

theorem fsub0 {P : Program} (t : TypeId) (x : Int) (hx : -1125899906842624 < x ∧ x < 1125899906842624) (W : World) :
    (binOp .sub t (.float .f64 (fl x)) (.float .f64 (fl x))).run P W = .ok (.float .f64 0) W := by
  have h := run_float_arith (P := P) W .sub t .f64 (fl x) (fl x) (fl (x - x)) (fl_sub x x (by omega) (by omega) (by omega) (by omega) (by omega) (by omega))
  rwa [Int.sub_self, fl_zero] at h
theorem ford00 : FloatKind.f64.format.order 0 0 = some .eq := by decide

theorem finite_any (x y : Int) (w : World) (hx : -1125899906842624 < x ∧ x < 1125899906842624) (hy : -1125899906842624 < y ∧ y < 1125899906842624) :
    Calls Try.prog 32 #[.complex .f64 (fl x) (fl y)] w fun e w' => e = .returned (.bool true) ∧ w = w' := by
  have h1 := fsub0 (P := Try.prog) 46 x hx w
  have h2 := fsub0 (P := Try.prog) 46 y hy w
  have h3 := ford00
  go_enter Try.func32, Try.ntmps32
  go_wp2
  go_ret
  exact ⟨rfl, rfl⟩

theorem feq (a b : Int) (ha : -1125899906842624 < a ∧ a < 1125899906842624) (hb : -1125899906842624 < b ∧ b < 1125899906842624) : (FloatKind.f64.format.order (fl a) (fl b) == some .eq) = decide (a = b) := by
  rw [ford a b ha hb]
  rcases Int.lt_trichotomy a b with h | h | h
  · rw [Int.compare_eq_lt.2 h, decide_eq_false (by omega)]; rfl
  · subst h; rw [Int.compare_eq_eq.2 rfl, decide_eq_true rfl]; rfl
  · rw [Int.compare_eq_gt.2 h, decide_eq_false (by omega)]; rfl
theorem flt (a b : Int) (ha : -1125899906842624 < a ∧ a < 1125899906842624) (hb : -1125899906842624 < b ∧ b < 1125899906842624) : (FloatKind.f64.format.order (fl a) (fl b) == some .lt) = decide (a < b) := by
  rw [ford a b ha hb]
  rcases Int.lt_trichotomy a b with h | h | h
  · rw [Int.compare_eq_lt.2 h, decide_eq_true h]; rfl
  · subst h; rw [Int.compare_eq_eq.2 rfl, decide_eq_false (by omega)]; rfl
  · rw [Int.compare_eq_gt.2 h, decide_eq_false (by omega)]; rfl
theorem fle (a b : Int) (ha : -1125899906842624 < a ∧ a < 1125899906842624) (hb : -1125899906842624 < b ∧ b < 1125899906842624) : (FloatKind.f64.format.order (fl a) (fl b) == some .lt || FloatKind.f64.format.order (fl a) (fl b) == some .eq) = decide (a ≤ b) := by
  rw [flt a b ha hb, feq a b ha hb, Bool.eq_iff_iff]
  simp; omega

/-- The caret at place k of a slice that reads as carets. -/
theorem Rd.atC {w : World} {B n k : Nat} {A : Option Addr} {L : List Pen} (h : Rd w B 1 A n (L.map C2)) (hk : k < n) :
    ∃ b o p, A = some ⟨b, o, none⟩ ∧ b < B ∧ Hid (L[k]? = some p) ∧ w.cell? ⟨b, o + k, none⟩ = some (.complex .f64 (fl p.1) (fl p.2)) := by
  obtain ⟨b, o, u, rfl, hb, hu, hc⟩ := h.at_ hk
  obtain ⟨y, hy, rfl⟩ : ∃ y, L[k]? = some y ∧ C2 y = u := by simpa using hu
  exact ⟨b, o, y, rfl, hb, hy, hc⟩

set_option maxHeartbeats 1000000 in
theorem nearest_any (A : Option Addr) (n c : Nat) (L : List Pen) (x y : Int) (w : World) (hr : Rd w w.heap.size 1 A n (L.map C2)) (hn : n ≤ 1048577)
    (hL : ∀ q ∈ L, (0 ≤ q.1 ∧ q.1 ≤ 200) ∧ (0 ≤ q.2 ∧ q.2 ≤ 1048576)) (hx : 0 ≤ x ∧ x ≤ 1048576) (hy : 0 ≤ y ∧ y ≤ 1048576) :
    Calls Try.prog 33 #[.slice A n c, .complex .f64 (fl x) (fl y)] w fun e w' => e = .returned (.int .i64 (nearI L x y)) ∧ w = w' := by
  obtain rfl : L.length = n := by simpa using hr.len
  have HL := Lib.hid hL
  have hz := fl_zero
  go_enter Try.func33, Try.ntmps33
  go_wp2
  clear hL
  go_loop [13, 5] (fun i ln => ∃ k : Nat, k ≤ L.length ∧ i = .int .i64 k ∧ ln = .float .f64 (fl (lineTo L y k))) (fun i _ => L.length - (intOf i).toNat)
  case atStart => exact ⟨0, Nat.zero_le _, rfl, by simp only [lineTo]; rw [hz]⟩
  case round =>
    obtain ⟨k, hk, rfl, rfl⟩ := hrel
    by_cases hlt : k < L.length
    · obtain ⟨b, o, p, rfl, hb, hp, hc⟩ := hr.atC hlt
      have hpb := HL.out p (List.mem_of_getElem? hp.out)
      have hle := fle p.2 y (by omega) (by omega)
      by_cases h : p.2 ≤ y
      · rw [decide_eq_true h] at hle
        go_wp2
        go_round
        case rel => exact ⟨k + 1, by omega, by go_num, by rw [lineTo_step hp.out, if_pos h]⟩
        case measure => simp only [intOf]; omega
      · rw [decide_eq_false h] at hle
        go_wp2
        go_round
        case rel => exact ⟨k + 1, by omega, by go_num, by rw [lineTo_step hp.out, if_neg (by omega)]⟩
        case measure => simp only [intOf]; omega
    · obtain rfl : k = L.length := by omega
      have hlb := lineTo_bd L y 1048576 (by omega) (fun q hq => (HL.out q hq).2) L.length
      generalize hln : lineTo L y L.length = ln at *
      have Hln := Lib.hid hln
      clear hln
      go_wp2
      go_loop [27, 8] (fun i bst => ∃ k : Nat, k ≤ L.length ∧ i = .int .i64 k ∧ bst = .int .i64 (bestTo L ln x k)) (fun i _ => L.length - (intOf i).toNat)
      case atStart => exact ⟨0, Nat.zero_le _, rfl, rfl⟩
      case round =>
        obtain ⟨k, hk, rfl, rfl⟩ := hrel
        by_cases hlt : k < L.length
        · obtain ⟨b, o, p, rfl, hb, hp, hc⟩ := hr.atC hlt
          have hpb := HL.out p (List.mem_of_getElem? hp.out)
          have heq := feq p.2 ln (by omega) (by omega)
          have hle := fle p.1 x (by omega) (by omega)
          have hst := bestTo_step (ln := ln) (x := x) hp.out
          have Hst := Lib.hid hst
          clear hst
          generalize hbb : bestTo L ln x k = bb at *
          clear hbb
          by_cases h1 : p.2 = ln
          · rw [decide_eq_true h1] at heq
            by_cases h2 : bb < 0
            · have H1 := Lib.hid h1
              clear h1
              go_wp2
              go_round
              case rel => exact ⟨k + 1, by omega, by go_num, by rw [Hst.out, if_pos ⟨H1.out, .inl h2⟩]⟩
              case measure => simp only [intOf]; omega
            · have H1 := Lib.hid h1
              clear h1
              by_cases h3 : p.1 ≤ x
              · rw [decide_eq_true h3] at hle
                go_wp2
                go_round
                case rel => exact ⟨k + 1, by omega, by go_num, by rw [Hst.out, if_pos ⟨H1.out, .inr h3⟩]⟩
                case measure => simp only [intOf]; omega
              · rw [decide_eq_false h3] at hle
                go_wp2
                go_round
                case rel => exact ⟨k + 1, by omega, by go_num, by rw [Hst.out, if_neg (fun h => by have := h.2; omega)]⟩
                case measure => simp only [intOf]; omega
          · rw [decide_eq_false h1] at heq
            have H1 := Lib.hid h1
            clear h1
            go_wp2
            go_round
            case rel => exact ⟨k + 1, by omega, by go_num, by rw [Hst.out, if_neg (fun h => H1.out h.1)]⟩
            case measure => simp only [intOf]; omega
        · obtain rfl : k = L.length := by omega
          go_wp2
          go_ret
          exact ⟨by unfold nearI; rw [Hln.out]; rfl, rfl⟩

set_option maxHeartbeats 1000000 in
theorem at_any (s : ByteArray) (cols x y : Int) (w : World) (h1 : 2 ≤ cols) (h2 : cols ≤ 200) (hs : s.size ≤ 1048576) (hx : 0 ≤ x ∧ x ≤ 1048576) (hy : 0 ≤ y ∧ y ≤ 1048576) :
    Calls Try.prog 27 #[.string s, .int .i64 cols, .complex .f64 (fl x) (fl y)] w fun e w' => e = .returned (.tuple #[.int .i64 (nearI (carets s cols) x y), .int .i64 0]) ∧ Below w.heap.size w w' := by
  have hl := carets_le s cols
  have hL := Lib.hid (carets_bd s cols h1 h2 hs)
  go_enter Try.func27, Try.ntmps27
  go_wp2_with fail
  refine (places_any s cols _ h1 h2 hs).mono ?_; rintro e w1 ⟨A1, c1, rfl, ho1, hb1⟩
  go_wp2_with fail
  refine (finite_any x y _ (by omega) (by omega)).mono ?_; rintro e w2 ⟨rfl, rfl⟩
  go_wp2_with fail
  refine (nearest_any A1 _ c1 (carets s cols) x y _ (Rd.of_own ho1) (by omega) hL.out hx hy).mono ?_; rintro e w2 ⟨rfl, rfl⟩
  go_wp2_with fail
  go_ret2
  exact ⟨rfl, hb1⟩

set_option maxHeartbeats 1000000 in
theorem move_any (s : ByteArray) (cols : Int) (i : Nat) (p : Pen) (w : World) (h1 : 2 ≤ cols) (h2 : cols ≤ 200) (hs : s.size ≤ 1048576) (hi : (carets s cols)[i]? = some p) :
    Calls Try.prog 28 #[.string s, .int .i64 cols, .int .i64 i, .complex .f64 0 0] w fun e w' => e = .returned (.tuple #[.int .i64 (nearI (carets s cols) p.1 p.2), .int .i64 0]) ∧ Below w.heap.size w w' := by
  have hl := carets_le s cols
  have hL := Lib.hid (carets_bd s cols h1 h2 hs)
  have hlt : i < (carets s cols).length := by
    rcases Nat.lt_or_ge i (carets s cols).length with h' | h'
    · exact h'
    · rw [List.getElem?_eq_none h'] at hi; cases hi
  have hpb := carets_bd s cols h1 h2 hs p (List.mem_of_getElem? hi)
  have Hi := Lib.hid hi
  have hca := fun W' => cadd (P := Try.prog) 40 p.1 p.2 0 0 (by omega) (by omega) (by omega) (by omega) W'
  simp only [Int.add_zero, fl_zero] at hca
  clear hi
  go_enter Try.func28, Try.ntmps28
  go_wp2_with fail
  refine (places_any s cols _ h1 h2 hs).mono ?_; rintro e w1 ⟨A1, c1, rfl, ho1, hb1⟩
  obtain ⟨b, o, q, rfl, hb, hq, hc⟩ := (Rd.of_own ho1).atC hlt
  obtain rfl : p = q := by have h3 := Hi.out.symm.trans hq.out; injection h3
  go_wp2_with fail
  refine (finite_any p.1 p.2 _ (by omega) (by omega)).mono ?_; rintro e w2 ⟨rfl, rfl⟩
  go_wp2_with fail
  refine (nearest_any _ _ c1 (carets s cols) p.1 p.2 _ (Rd.of_own ho1) (by omega) hL.out (by omega) hpb.2).mono ?_; rintro e w2 ⟨rfl, rfl⟩
  go_wp2_with fail
  go_ret2
  exact ⟨rfl, hb1⟩

def abc : ByteArray := ⟨#[97, 98, 99]⟩
theorem abc_carets : carets abc 2 = [(0, 0), (1, 0), (0, 1), (1, 1)] := by decide +kernel
theorem fl_nine : fl 9 = 4621256167635550208 := by decide +kernel
theorem awake_places (w : World) : Calls Try.prog 21 #[.string ⟨#[97, 98, 99]⟩, .int .i64 2] w fun e w' => ∃ g c, e = .returned (.tuple #[.slice (some ⟨g, 0, none⟩) 4 c, .int .i64 0]) ∧ g < w'.heap.size ∧
    w'.cell? ⟨g, 2, none⟩ = some (.complex .f64 0 4607182418800017408) ∧ w'.cell? ⟨g, 3, none⟩ = some (.complex .f64 4607182418800017408 4607182418800017408) ∧ Below w.heap.size w w' := by
  refine (places_any abc 2 w (by omega) (by omega) (by decide)).mono ?_
  rintro e w' ⟨A, c, rfl, ho, hb⟩
  rw [abc_carets] at ho ⊢
  have hg : ∃ g, A = some ⟨g, 0, none⟩ ∧ g < w'.heap.size := by
    rcases ho.2 with ⟨hv, h0⟩ | ⟨g, cap, cur, hv, _⟩
    · simp at h0
    · have hA : A = some ⟨g, 0, none⟩ := by injection hv
      subst hA
      exact ⟨g, rfl, (ho.lt g rfl).2⟩
  obtain ⟨g, rfl, hlt⟩ := hg
  refine ⟨g, c, rfl, hlt, ?_, ?_, hb⟩
  · rw [ho.cellAt 2 (by simp)]
    simp only [List.map_cons, List.map_nil, C2, fl_zero, fl_one]; rfl
  · rw [ho.cellAt 3 (by simp)]
    simp only [List.map_cons, List.map_nil, C2, fl_zero, fl_one]; rfl
theorem awake_at (w : World) : Calls Try.prog 27 #[.string ⟨#[97, 98, 99]⟩, .int .i64 2, .complex .f64 4621256167635550208 0] w fun e w' => e = .returned (.tuple #[.int .i64 1, .int .i64 0]) ∧ Below w.heap.size w w' := by
  have h := at_any abc 2 9 0 w (by omega) (by omega) (by decide) (by omega) (by omega)
  rw [fl_nine, fl_zero, abc_carets] at h
  exact h
theorem ford11 : FloatKind.f64.format.order 4607182418800017408 4607182418800017408 = some .eq := by decide +kernel
theorem width_4352 (w : World) : Calls Try.prog 25 #[.int .i32 4352] w fun e w' => e = .returned (.int .i64 2) ∧ w = w' := width_any 4352 w

set_option maxHeartbeats 1000000 in
theorem awake17 (w : World) : Calls Try.prog 24 #[] w fun e w' => e = .returned (.bool true) ∧ Below w.heap.size w w' := by
  have h00 := ford00
  have h11 := ford11
  go_enter Try.func24, Try.ntmps24
  go_wp2_with fail
  refine (awake_places _).mono ?_; rintro e w1 ⟨g, c, rfl, hlt, hc2, hc3, hb1⟩
  go_wp2_with fail
  refine (awake_at _).mono ?_; rintro e w2 ⟨rfl, hb2⟩
  have hd2 := (hb2.cell (p := ⟨g, 2, none⟩) hlt).trans hc2
  have hd3 := (hb2.cell (p := ⟨g, 3, none⟩) hlt).trans hc3
  clear hc2 hc3
  go_wp2_with fail
  refine (width_4352 _).mono ?_; rintro e w3 ⟨rfl, rfl⟩
  go_wp2_with fail
  go_ret
  exact ⟨rfl, hb1.trans (hb2.mono hb1.size)⟩
end Go.Proofs.Ytghhgjpdpmekhaa
