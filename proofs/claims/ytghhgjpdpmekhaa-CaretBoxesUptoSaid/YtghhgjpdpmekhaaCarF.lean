/- The contract of Box, the program's. -/
import Derived.Test.YtghhgjpdpmekhaaCarE
import Derived.Lib.MinMax
namespace Go.Proofs.Ytghhgjpdpmekhaa
open Go.RowKit

theorem own_room {w : World} {base e size n c : Nat} {A : Option Addr} {xs : List Value} (h : w.ownsRow base e size (.slice A n c) n xs) : n ≤ c := by
  rcases h.2 with ⟨hv, h0⟩ | ⟨g, cap, cur, hv, _, _, hnc, _⟩
  · omega
  · injection hv with _ _ h3; omega
/-- A whole number that a float holds. -/
def FlB (z : Int) : Prop := -1125899906842624 < z ∧ z < 1125899906842624
@[go_sem high] theorem run_min_fl {P : Program} (w : World) (ts : Array TypeId) (t : TypeId) (a b : Int) (ha : FlB a) (hb : FlB b) :
    (Builtin.min_ ts t #[.float .f64 (fl a), .float .f64 (fl b)]).run P w = .ok (.float .f64 (fl (min a b))) w := by
  have h := ford a b ha hb
  rcases Int.lt_trichotomy a b with h1 | h1 | h1
  · have e : compare a b = .lt := Int.compare_eq_lt.2 h1
    rw [e] at h
    have e2 : min a b = a := by omega
    simp [Builtin.min_, Builtin.min2, h, e2]
  · subst h1
    have e : compare a a = .eq := Int.compare_eq_eq.2 rfl
    rw [e] at h
    simp [Builtin.min_, Builtin.min2, h]
  · have e : compare a b = .gt := Int.compare_eq_gt.2 h1
    rw [e] at h
    have e2 : min a b = b := by omega
    simp [Builtin.min_, Builtin.min2, h, e2]
@[go_sem high] theorem run_max_fl {P : Program} (w : World) (ts : Array TypeId) (t : TypeId) (a b : Int) (ha : FlB a) (hb : FlB b) :
    (Builtin.max_ ts t #[.float .f64 (fl a), .float .f64 (fl b)]).run P w = .ok (.float .f64 (fl (max a b))) w := by
  have h := ford a b ha hb
  rcases Int.lt_trichotomy a b with h1 | h1 | h1
  · have e : compare a b = .lt := Int.compare_eq_lt.2 h1
    rw [e] at h
    have e2 : max a b = b := by omega
    simp [Builtin.max_, Builtin.max2, h, e2]
  · subst h1
    have e : compare a a = .eq := Int.compare_eq_eq.2 rfl
    rw [e] at h
    simp [Builtin.max_, Builtin.max2, h]
  · have e : compare a b = .gt := Int.compare_eq_gt.2 h1
    rw [e] at h
    have e2 : max a b = a := by omega
    simp [Builtin.max_, Builtin.max2, h, e2]

/-- What has been gathered of the places from i on, behind m of them. -/
def boxTo (f : Int → Int → Int) (L : List Pen) (i : Nat) : Nat → Pen
  | 0 => (L[i]?).getD (0, 0)
  | m + 1 => match L[i + m]? with
    | some p => (f (boxTo f L i m).1 p.1, f (boxTo f L i m).2 p.2)
    | none => boxTo f L i m
theorem boxTo_step {f : Int → Int → Int} {L : List Pen} {i m : Nat} {p : Pen} (h : L[i + m]? = some p) : boxTo f L i (m + 1) = (f (boxTo f L i m).1 p.1, f (boxTo f L i m).2 p.2) := by
  simp only [boxTo, h]
theorem boxTo_bd (f : Int → Int → Int) (hf : ∀ a b : Int, f a b = a ∨ f a b = b) (L : List Pen) (h : ∀ q ∈ L, (0 ≤ q.1 ∧ q.1 ≤ 200) ∧ (0 ≤ q.2 ∧ q.2 ≤ 1048576)) (i : Nat) : ∀ m, (0 ≤ (boxTo f L i m).1 ∧ (boxTo f L i m).1 ≤ 200) ∧ (0 ≤ (boxTo f L i m).2 ∧ (boxTo f L i m).2 ≤ 1048576) := by
  intro m
  induction m with
  | zero =>
    simp only [boxTo]
    rcases hc : L[i]? with _ | p
    · simp
    · simpa using h p (List.mem_of_getElem? hc)
  | succ m ih =>
    rcases hc : L[i + m]? with _ | p
    · simp only [boxTo, hc]; exact ih
    · rw [boxTo_step hc]
      have hp := h p (List.mem_of_getElem? hc)
      have h1 := hf (boxTo f L i m).1 p.1
      have h2 := hf (boxTo f L i m).2 p.2
      constructor
      · rcases h1 with e | e <;> (simp only [e]; omega)
      · rcases h2 with e | e <;> (simp only [e]; omega)
theorem min_or (a b : Int) : min a b = a ∨ min a b = b := by omega
theorem max_or (a b : Int) : max a b = a ∨ max a b = b := by omega
theorem FlB.of {z : Int} (h0 : 0 ≤ z) (h1 : z ≤ 1048576) : FlB z := by unfold FlB; omega

theorem box_no (s : ByteArray) (cols i k : Int) (w : World) (h : cols < 2 ∨ 200 < cols) :
    Calls Try.prog 29 #[.string s, .int .i64 cols, .int .i64 i, .int .i64 k] w fun e w' => e = .returned (.tuple #[.complex .f64 0 0, .complex .f64 0 0, .int .i64 6]) ∧ w = w' := by
  go_enter Try.func29, Try.ntmps29
  go_wp2_with fail
  refine (places_no s cols _ h).mono ?_; rintro e w1 ⟨rfl, rfl⟩
  go_wp2_with fail
  go_returns
  exact ⟨rfl, rfl⟩
theorem box_range (s : ByteArray) (cols i k : Int) (w : World) (h1 : 2 ≤ cols) (h2 : cols ≤ 200) (hs : s.size ≤ 1048576) (h : i < 0 ∨ k < i ∨ ((carets s cols).length : Int) ≤ k) :
    Calls Try.prog 29 #[.string s, .int .i64 cols, .int .i64 i, .int .i64 k] w fun e w' => e = .returned (.tuple #[.complex .f64 0 0, .complex .f64 0 0, .int .i64 6]) ∧ Below w.heap.size w w' := by
  go_enter Try.func29, Try.ntmps29
  go_wp2_with fail
  refine (places_any s cols _ h1 h2 hs).mono ?_; rintro e w1 ⟨A1, c1, rfl, ho1, hb1⟩
  have hcnd : (decide (i < 0) || (decide (k < i) || decide (((carets s cols).length : Int) ≤ k))) = true := by
    simp only [Bool.or_eq_true, decide_eq_true_eq]; exact h
  by_cases hi : i < 0
  · go_wp2_with fail
    go_returns
    exact ⟨rfl, hb1⟩
  · by_cases hk : k < i
    · go_wp2_with fail
      go_returns
      exact ⟨rfl, hb1⟩
    · have hl : ((carets s cols).length : Int) ≤ k := by omega
      go_wp2_with fail
      go_returns
      exact ⟨rfl, hb1⟩

set_option maxHeartbeats 2000000 in
theorem box_any (s : ByteArray) (cols : Int) (i k : Nat) (w : World) (h1 : 2 ≤ cols) (h2 : cols ≤ 200) (hs : s.size ≤ 1048576) (hik : i ≤ k) (hk : k < (carets s cols).length) :
    Calls Try.prog 29 #[.string s, .int .i64 cols, .int .i64 i, .int .i64 k] w fun e w' =>
      e = .returned (.tuple #[C2 (boxTo min (carets s cols) i (k + 1 - i)), C2 (boxTo max (carets s cols) i (k + 1 - i)), .int .i64 0]) ∧ Below w.heap.size w w' := by
  have hL := Lib.hid (carets_bd s cols h1 h2 hs)
  have hlen := carets_le s cols
  have ht1 : ¬ (i : Int) < 0 := by omega
  have ht2 : ¬ (k : Int) < i := by omega
  have ht3 : ¬ ((carets s cols).length : Int) ≤ k := by omega
  go_enter Try.func29, Try.ntmps29
  go_wp2_with fail
  refine (places_any s cols _ h1 h2 hs).mono ?_; rintro e w1 ⟨A1, c1, rfl, ho1, hb1⟩
  have hcap := own_room ho1
  have hr1 := Rd.of_own ho1
  obtain ⟨b1, o1, p, rfl, hbl, hp, hcp⟩ := hr1.atC (k := i) (by omega)
  have hpb := hL.out p (List.mem_of_getElem? hp.out)
  have hx1 : (0 : Int) ≤ i := by omega
  have hx2 : (i : Int) < ((carets s cols).length : Int) := by omega
  have hx3 : (i : Int) ≤ (k : Int) + 1 := by omega
  have hx4 : (k : Int) + 1 ≤ (c1 : Int) := by omega
  have hx5 : IntKind.i64.wrap ((k : Int) + 1) = (k : Int) + 1 := IntWalk.i64_in _ (by omega)
  have hx6 : ¬ c1 = i := by omega
  have hz : ((carets s cols)[i]?).getD (0, 0) = p := by rw [hp.out]; rfl
  go_wp2_with fail
  go_quiet (fail)
  go_wp2_with fail
  have hbm := boxTo_bd min min_or (carets s cols) hL.out i
  have hbx := boxTo_bd max max_or (carets s cols) hL.out i
  have Hbm := Lib.hid hbm
  have Hbx := Lib.hid hbx
  clear hbm hbx
  go_loop [13, 14, 53] (fun v13 v14 v53 => ∃ m : Nat, v53 = .int .i64 m ∧ m ≤ k + 1 - i ∧ v13 = .complex .f64 (fl (boxTo min (carets s cols) i m).1) (fl (boxTo min (carets s cols) i m).2) ∧ v14 = .complex .f64 (fl (boxTo max (carets s cols) i m).1) (fl (boxTo max (carets s cols) i m).2)) (fun _ _ v53 => (k + 1 - i) - (intOf v53).toNat)
  case atStart => exact ⟨0, rfl, Nat.zero_le _, by simp only [boxTo, hz], by simp only [boxTo, hz]⟩
  case round =>
    obtain ⟨m, rfl, hm, rfl, rfl⟩ := hrel
    by_cases hlt : m < k + 1 - i
    · obtain ⟨b2, o2, q, hA, _, hq, hcq⟩ := hr1.atC (k := i + m) (by omega)
      injection hA with hA
      injection hA with hA1 hA2
      subst hA1 hA2
      rw [← Nat.add_assoc] at hcq
      have hqb := hL.out q (List.mem_of_getElem? hq.out)
      have hb1 := Hbm.out m
      have hb2 := Hbx.out m
      have f1 := FlB.of (z := (boxTo min (carets s cols) i m).1) (by omega) (by omega)
      have f2 := FlB.of (z := (boxTo min (carets s cols) i m).2) (by omega) (by omega)
      have f3 := FlB.of (z := (boxTo max (carets s cols) i m).1) (by omega) (by omega)
      have f4 := FlB.of (z := (boxTo max (carets s cols) i m).2) (by omega) (by omega)
      have f5 := FlB.of (z := q.1) (by omega) (by omega)
      have f6 := FlB.of (z := q.2) (by omega) (by omega)
      go_wp2_with fail
      go_round
      case rel => exact ⟨m + 1, by go_num, by omega, by rw [boxTo_step hq.out], by rw [boxTo_step hq.out]⟩
      case measure => simp only [intOf]; omega
    · go_wp2_with fail
      go_returns
      obtain rfl : m = k + 1 - i := by omega
      exact ⟨rfl, below_drewN hb1 _⟩
end Go.Proofs.Ytghhgjpdpmekhaa
