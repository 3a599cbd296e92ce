/- The document's numbers: the walks of mul, most, root, primes, numbers. -/
import Derived.Test.YtclecmpmohoamaaDoorMem
import Derived.Test.YtclecmpmohoamaaDoorShaN
import Derived.Test.YtclecmpmohoamaaDoorProg
import Derived.Deep.QuietTactic
import Derived.BigQuiet
namespace Go.Proofs.YtclecmpmohoamaaDoor
open Go.RowKit
set_option linter.unusedSimpArgs false
set_option linter.unusedVariables false

def U (x : Nat) : Value := .int .u64 (x : Int)
def J (x : Nat) : Value := .int .i64 (x : Int)
theorem info64 : (Tryd.prog.info? 52).map (fun i => (i.zero, i.size, i.bytes)) = some (some (.int .u64 0), 1, 8) := by kernel_rfl
theorem infoI : (Tryd.prog.info? 3).map (fun i => (i.zero, i.size, i.bytes)) = some (some (.int .i64 0), 1, 8) := by kernel_rfl
theorem info8 : (Tryd.prog.info? 5).map (fun i => (i.zero, i.size, i.bytes)) = some (some (.int .u8 0), 1, 1) := by kernel_rfl
/-- What comes back is a slice of the call's own that holds the numbers l; nothing that was there has turned. -/
def RetU (base : Nat) (l : List Nat) (w : World) (e : Ending) (w' : World) : Prop :=
  ∃ A c, e = .returned (.slice A l.length c) ∧ w'.ownsRow base 52 1 (.slice A l.length c) l.length (l.map U) ∧ Below w.heap.size w w'
theorem wrapU (n : Nat) : IntKind.u64.wrap (n : Int) = ((n % 18446744073709551616 : Nat) : Int) := by rw [IntKind.wrap_u64]; omega
theorem Rd.atU {w : World} {B n k : Nat} {A : Option Addr} {l : List Nat} (h : Rd w B 1 A n (l.map U)) (hk : k < n) :
    ∃ b o x, A = some ⟨b, o, none⟩ ∧ b < B ∧ w.cell? ⟨b, o + k, none⟩ = some (.int .u64 (x : Nat)) ∧ Hid (l.getD k 0 = x) := by
  obtain ⟨b, o, u, rfl, hb, hu, hc⟩ := h.at_ hk
  refine ⟨b, o, l.getD k 0, rfl, hb, ?_, rfl⟩
  rw [hc, ← hu]
  cases e : l[k]? with
  | none => simp [e] at hu
  | some x => simp [e, U, List.getD]
theorem own_cellU {w : World} {base g e n cap : Nat} {l : List Nat} (h : w.ownsRow base e 1 (.slice (some ⟨g, 0, none⟩) n cap) n (l.map U)) (j : Nat) (hj : j < n) :
    ∃ x : Nat, w.cell? ⟨g, j, none⟩ = some (.int .u64 x) ∧ w.frozen? ⟨g, j, none⟩ = false ∧ Hid (l.getD j 0 = x) := by
  obtain ⟨u, hu, hc, hf⟩ := own_cell h j hj
  refine ⟨l.getD j 0, ?_, hf, rfl⟩
  rw [hc, ← hu]
  cases e : l[j]? with
  | none => simp [e] at hu
  | some x => simp [e, U, List.getD]
theorem own_drewN {w : World} {base e size n : Nat} {v : Value} {xs : List Value} (h : w.ownsRow base e size v n xs) (k : Nat) : (w.drewN k).ownsRow base e size v n xs := h
theorem below_drewN {B : Nat} {w w' : World} (h : Below B w w') (k : Nat) : Below B w (w'.drewN k) := h.trans ⟨rfl, rfl, rfl, Nat.le_refl _, fun _ _ => rfl⟩
theorem mulT_walk (x a b c : Nat) : IntKind.u64.wrap (IntKind.u64.wrap ((x : Int) + IntKind.u64.wrap ((a : Int) * (b : Int))) + (c : Int)) = ((mulT x a b c : Nat) : Int) := by
  rw [← Int.natCast_mul, wrapU, ← Int.natCast_add, wrapU, ← Int.natCast_add, wrapU]; rfl
theorem mulT_lt (x a b c : Nat) : mulT x a b c < 18446744073709551616 := Nat.mod_lt _ (by decide)
theorem divU (t m : Nat) (ht : t < 18446744073709551616) : IntKind.u64.wrap ((t : Int).tdiv (m : Int)) = ((t / m : Nat) : Int) := by
  rw [← Int.ofNat_tdiv, wrapU, Nat.mod_eq_of_lt (Nat.lt_of_le_of_lt (Nat.div_le_self _ _) ht)]
theorem modU (t m : Nat) : ((t : Int).tmod (m : Int)) = ((t % m : Nat) : Int) := (Int.ofNat_tmod t m).symm

set_option maxHeartbeats 1000000 in
theorem mul_any (A1 A2 : Option Addr) (c1 c2 : Nat) (a b : List Nat) (w : World) (ha : Rd w w.heap.size 1 A1 a.length (a.map U)) (hb : Rd w w.heap.size 1 A2 b.length (b.map U)) (la : a.length ≤ 100) (lb : b.length ≤ 100) :
    Calls Tryd.prog 65 #[.slice A1 a.length c1, .slice A2 b.length c2] w (RetU w.heap.size (mulD a b) w) := by
  have hlen := Lib.hid (mulD_length a b)
  obtain ⟨i0, hi0, hz0, hz1, hz2⟩ := info_parts info64
  have hw0 : IntKind.i64.wrap ((a.length : Int) + (b.length : Int)) = ((a.length + b.length : Nat) : Int) := by rw [IntWalk.i64_in _ (by omega)]; omega
  go_enter Tryd.func65, Tryd.ntmps65
  go_wp2_with (first
    | (at_make
       refine wpList_make_full _ rfl (.tmp 14) (.tmp 14) 48 rfl w.heap.size 52 i0 _ 1 Tryd.underlying48 hi0 hz0 hz1 _ _ _ _ (a.length + b.length) rfl rfl rfl rfl (by rw [hz2]; omega) (by simp only [maxLen]; omega) (Nat.le_refl _) ?_
       intro w1 h1 hg1
       have hb1 : Below w.heap.size w w1 := (Below.refl _ _).grown hg1 (Nat.le_refl _) (fun k hk => by cases hk)))
  have h1' : w1.ownsRow w.heap.size 52 1 (.slice (some ⟨w.heap.size, 0, none⟩) (a.length + b.length) (a.length + b.length)) (a.length + b.length) ((List.replicate (a.length + b.length) 0).map U) := by
    rw [Nat.mul_one] at h1
    have e0 : (madeCells (Value.int .u64 0).cells (a.length + b.length)).toList = (List.replicate (a.length + b.length) 0).map U := by
      rw [show (Value.int .u64 0).cells = #[Value.int .u64 0] from rfl, toList_madeCells_one, List.map_replicate]; rfl
    rwa [e0] at h1
  clear h1
  go_loopw [6] (fun v wr => ∃ (i : Nat) (o : List Nat), v = .int .i64 i ∧ i ≤ a.length ∧ o.length = a.length + b.length ∧ Hid (o.take i ++ mfrom (a.drop i) b (o.drop i) = mulD a b) ∧ wr.ownsRow w.heap.size 52 1 (.slice (some ⟨w.heap.size, 0, none⟩) (a.length + b.length) (a.length + b.length)) (a.length + b.length) (o.map U) ∧ Below w.heap.size w wr) (fun v _ => a.length - (intOf v).toNat)
  case atStart => exact ⟨0, _, rfl, Nat.zero_le _, by simp, by simp [mulD, Hid], h1', hb1⟩
  case round =>
    obtain ⟨i, o, rfl, hi, ho, hT, h2, hb2⟩ := hrel
    by_cases hlt : i < a.length
    · obtain ⟨B1, O1, xa, rfl, hB1, hcA, hxa⟩ := (ha.below hb2).atU hlt
      have hx1 : (0 : Int) ≤ i := by omega
      have hx2 : (i : Int) < (a.length : Int) := by omega
      have ho' := Lib.hid ho
      clear ho
      go_wp2_with fail
      go_loopw [7, 8, 9] (fun v7 v8 _ wr' => ∃ (k c : Nat) (o' : List Nat), v7 = .int .u64 c ∧ v8 = .int .i64 k ∧ k ≤ b.length ∧ Hid (o'.length = a.length + b.length) ∧ Hid (o'.take (i + k) ++ mrow (a.getD i 0) (b.drop k) c (o'.drop (i + k)) = o.take i ++ mrow (a.getD i 0) b 0 (o.drop i)) ∧ wr'.ownsRow w.heap.size 52 1 (.slice (some ⟨w.heap.size, 0, none⟩) (a.length + b.length) (a.length + b.length)) (a.length + b.length) (o'.map U) ∧ Below w.heap.size w wr') (fun _ v8 _ _ => b.length - (intOf v8).toNat)
      case atStart => exact ⟨0, 0, o, rfl, rfl, Nat.zero_le _, ho', by simp [Hid], h2, hb2⟩
      case round =>
        obtain ⟨k, c, o', rfl, rfl, hk, hl', hT', h3, hb3⟩ := hrel
        by_cases hlk : k < b.length
        · obtain ⟨B2, O2, xb, rfl, hB2, hcB, hxb⟩ := (hb.below hb3).atU hlk
          have hcA' := (hb3.cell (p := ⟨B1, O1 + i, none⟩) hB1).trans ((hb2.cell (p := ⟨B1, O1 + i, none⟩) hB1).symm.trans hcA)
          obtain ⟨xo, hcO, hfO, hxo⟩ := own_cellU h3 (i + k) (by omega)
          have hy1 : (0 : Int) ≤ k := by omega
          have hy2 : (k : Int) < (b.length : Int) := by omega
          have hw1 : IntKind.i64.wrap ((i : Int) + (k : Int)) = ((i + k : Nat) : Int) := by rw [IntWalk.i64_in _ (by omega)]; omega
          have hw2 : IntKind.i64.wrap ((k : Int) + 1) = ((k + 1 : Nat) : Int) := by rw [IntWalk.i64_in _ (by omega)]; omega
          have hz1 : (0 : Int) ≤ ((i + k : Nat) : Int) := by omega
          have hz2 : ((i + k : Nat) : Int) < ((a.length + b.length : Nat) : Int) := by omega
          go_wp2_with fail
          go_quiet (fail)
          go_wp2_with fail
          rw [mulT_walk, show (65536 : Int) = ((65536 : Nat) : Int) from rfl, divU _ _ (mulT_lt _ _ _ _), modU]
          have h4 := (own_drewN h3 nq).stored (i + k) (U (mulT xo xa xb c % 65536))
          rw [← List.map_set] at h4
          have hj : i + k < o'.length := by rw [hl'.out]; omega
          have hst := mrow_step (a.getD i 0) b o' k (i + k) c hlk hj
          rw [hxo.out, hxa.out, hxb.out] at hst
          refine ⟨⟨k + 1, mulT xo xa xb c / 65536, o'.set (i + k) (mulT xo xa xb c % 65536), rfl, by go_num, by omega, by rw [List.length_set]; exact hl'.out, ?_, h4.1, (below_drewN hb3 nq).setCell (Nat.le_refl _) _⟩, by simp only [intOf]; omega⟩
          rw [hxa.out] at hT'
          have hTo := hT'.out
          rw [hxa.out]
          exact hst.trans hTo
        · obtain rfl : k = b.length := by omega
          obtain ⟨xo, hcO, hfO, hxo⟩ := own_cellU h3 (i + b.length) (by omega)
          have hw1 : IntKind.i64.wrap ((i : Int) + (b.length : Int)) = ((i + b.length : Nat) : Int) := by rw [IntWalk.i64_in _ (by omega)]; omega
          have hw2 : IntKind.i64.wrap ((i : Int) + 1) = ((i + 1 : Nat) : Int) := by rw [IntWalk.i64_in _ (by omega)]; omega
          have hz1 : (0 : Int) ≤ ((i + b.length : Nat) : Int) := by omega
          have hz2 : ((i + b.length : Nat) : Int) < ((a.length + b.length : Nat) : Int) := by omega
          go_wp2_with fail
          have h4 := h3.stored (i + b.length) (.int .u64 c)
          rw [show (Value.int .u64 (c : Int)) = U c from rfl, ← List.map_set] at h4
          have hj : i + b.length < o'.length := by rw [hl'.out]; omega
          have hT2 : Hid (o'.set (i + b.length) c = o.take i ++ mrow (a.getD i 0) b 0 (o.drop i)) := by
            have := hT'.out
            rw [List.drop_length, mrow_end _ _ _ _ hj] at this
            exact this
          refine ⟨⟨i + 1, o'.set (i + b.length) c, by go_num, by omega, by rw [List.length_set]; exact hl'.out, ?_, h4.1, hb3.setCell (Nat.le_refl _) _⟩, by simp only [intOf]; omega⟩
          exact (mfrom_step a b o _ i hlt (by rw [ho'.out]; omega) hT2.out).trans hT.out
    · obtain rfl : i = a.length := by omega
      have hoo : o = mulD a b := by
        have := hT.out
        rw [List.drop_length, mfrom, List.take_append_drop] at this
        exact this
      go_wp2_with fail
      go_ret
      subst hoo
      have hl := hlen.out
      refine ⟨some ⟨w.heap.size, 0, none⟩, a.length + b.length, ?_, ?_, hb2⟩
      · rw [hl]; rfl
      · rw [hl]; exact h2

/-! ### most -/
theorem any_pos (d : List Nat) : (d.any (decide <| 0 < ·)) = true ↔ ∃ x ∈ d, 0 < x := by simp
theorem mostD_hi {d : List Nat} {p n j : Nat} (hj : n < j) (hx : 0 < d.getD j 0) : mostD d p n = true := by
  unfold mostD
  rw [Bool.or_eq_true]
  left
  rw [any_pos]
  have hl : j < d.length := by
    rcases Nat.lt_or_ge j d.length with h | h
    · exact h
    · simp [List.getD, h] at hx
  refine ⟨d.getD j 0, ?_, hx⟩
  rw [List.mem_iff_getElem?]
  exact ⟨j - (n + 1), by rw [List.getElem?_drop, show n + 1 + (j - (n + 1)) = j by omega, List.getElem?_eq_getElem hl]; simp [List.getD, hl]⟩
theorem mostD_lo {d : List Nat} {p n : Nat} (h : ∀ j, n < j → d.getD j 0 = 0) : mostD d p n = (decide (n < d.length) && decide (p ≤ d.getD n 0) && (decide (p < d.getD n 0) || (d.take n).any (decide <| 0 < ·))) := by
  unfold mostD
  have e : (d.drop (n + 1)).any (decide <| 0 < ·) = false := by
    rw [Bool.eq_false_iff, Ne, any_pos]
    rintro ⟨x, hx, h0⟩
    obtain ⟨i, hi⟩ := List.mem_iff_getElem?.1 hx
    rw [List.getElem?_drop] at hi
    have := h (n + 1 + i) (by omega)
    simp [List.getD, hi] at this
    omega
  rw [e, Bool.false_or]

set_option maxHeartbeats 1000000 in
theorem most_any (A1 : Option Addr) (c1 : Nat) (d : List Nat) (p n : Nat) (w : World) (hd : Rd w w.heap.size 1 A1 d.length (d.map U)) (ld : d.length ≤ 100) (hp : p ≤ 1000) (hn : n ≤ 100) :
    Calls Tryd.prog 66 #[.slice A1 d.length c1, .int .i64 p, .int .i64 n] w fun e w' => e = .returned (.bool (mostD d p n)) ∧ w = w' := by
  have hw0 : IntKind.i64.wrap ((d.length : Int) - 1) = (d.length : Int) - 1 := IntWalk.i64_in _ (by omega)
  go_enter Tryd.func66, Tryd.ntmps66
  go_wp2_with fail
  go_loop [7] (fun v => ∃ m : Nat, v = .int .i64 ((d.length : Int) - 1 - m) ∧ m ≤ d.length ∧ (∀ j, d.length - m ≤ j → d.getD j 0 = 0)) (fun v => (intOf v + 1).toNat)
  case atStart =>
    refine ⟨0, by simp, Nat.zero_le _, fun j hj => ?_⟩
    simp [List.getD, show d.length ≤ j by omega]
  case round =>
    obtain ⟨m, rfl, hm, hz⟩ := hrel
    have hz' := Lib.hid hz
    clear hz
    by_cases hlt : (n : Int) < (d.length : Int) - 1 - m
    · obtain ⟨j, hj⟩ : ∃ j : Nat, (d.length : Int) - 1 - m = j := ⟨d.length - 1 - m, by omega⟩
      obtain ⟨b, o, x, rfl, hb, hc, hx⟩ := hd.atU (k := j) (by omega)
      rw [hj] at hlt ⊢
      have hj' := Lib.hid hj
      clear hj
      have hx1 : (0 : Int) ≤ j := by omega
      have hx2 : (j : Int) < (d.length : Int) := by have := hj'.out; omega
      by_cases hx0 : 0 < x
      · have hx0' : (0 : Int) < x := by omega
        have e := mostD_hi (d := d) (p := p) (n := n) (j := j) (by omega) (by rw [hx.out]; exact hx0)
        have E := Lib.hid e
        clear e
        go_wp2_with fail
        go_returns
        exact ⟨by rw [E.out]; rfl, rfl⟩
      · obtain rfl : x = 0 := by omega
        have hw1 : IntKind.i64.wrap ((j : Int) - 1) = (j : Int) - 1 := IntWalk.i64_in _ (by omega)
        go_wp2_with fail
        have := hj'.out
        refine ⟨⟨m + 1, by congr 1; omega, by omega, fun i hi => ?_⟩, by simp only [intOf]; omega⟩
        by_cases h1 : i = j
        · rw [h1]; exact hx.out
        · exact hz'.out i (by omega)
    · have hlo := mostD_lo (d := d) (p := p) (n := n) (fun j hj => hz'.out j (by omega))
      have E := Lib.hid hlo
      clear hlo
      by_cases hl : n < d.length
      · obtain ⟨b, o, x, rfl, hb, hc, hx⟩ := hd.atU (k := n) hl
        have hx1 : (0 : Int) ≤ n := by omega
        have hx2 : (n : Int) < (d.length : Int) := by omega
        have hp2 : IntKind.u64.wrap (p : Int) = p := by rw [wrapU, Nat.mod_eq_of_lt (by omega)]
        have hl' : ¬ d.length ≤ n := by omega
        by_cases h1 : x < p
        · have h1' : (x : Int) < p := by omega
          go_wp2_with fail
          go_returns
          exact ⟨by rw [E.out, hx.out]; simp; omega, rfl⟩
        · have h1' : ¬ (x : Int) < p := by omega
          by_cases h2 : p < x
          · have h2' : (p : Int) < x := by omega
            go_wp2_with fail
            go_returns
            exact ⟨by rw [E.out, hx.out]; simp; omega, rfl⟩
          · have h2' : ¬ (p : Int) < x := by omega
            go_wp2_with fail
            go_loop [8] (fun v => ∃ k : Nat, v = .int .i64 k ∧ k ≤ n ∧ Hid (∀ j, j < k → d.getD j 0 = 0)) (fun v => n - (intOf v).toNat)
            case atStart => exact ⟨0, rfl, Nat.zero_le _, fun j hj => by omega⟩
            case round =>
              obtain ⟨k, rfl, hk, hzk⟩ := hrel
              by_cases hkn : k < n
              · obtain ⟨b2, o2, y, hA, hb2, hc2, hy⟩ := hd.atU (k := k) (by omega)
                injection hA with hA
                injection hA with hA1 hA2
                subst hA1 hA2
                have hy1 : (0 : Int) ≤ k := by omega
                have hy2 : (k : Int) < (d.length : Int) := by omega
                by_cases hy0 : 0 < y
                · have hy0' : (0 : Int) < y := by omega
                  go_wp2_with fail
                  go_returns
                  refine ⟨?_, rfl⟩
                  rw [E.out, hx.out, decide_eq_true hl, decide_eq_true (show p ≤ x by omega), (any_pos (d.take n)).2 ⟨y, ?_, hy0⟩]
                  · simp
                  · rw [List.mem_iff_getElem?]
                    refine ⟨k, ?_⟩
                    rw [List.getElem?_take_of_lt hkn, List.getElem?_eq_getElem (by omega)]
                    have := hy.out
                    simp [List.getD, show k < d.length by omega] at this
                    rw [this]
                · obtain rfl : y = 0 := by omega
                  have hw1 : IntKind.i64.wrap ((k : Int) + 1) = ((k + 1 : Nat) : Int) := by rw [IntWalk.i64_in _ (by omega)]; omega
                  go_wp2_with fail
                  refine ⟨⟨k + 1, by go_num, by omega, fun j hj => ?_⟩, by simp only [intOf]; omega⟩
                  by_cases hjk : j = k
                  · rw [hjk]; exact hy.out
                  · exact hzk.out j (by omega)
              · obtain rfl : k = n := by omega
                go_wp2_with fail
                go_returns
                refine ⟨?_, rfl⟩
                have e0 : (d.take k).any (decide <| 0 < ·) = false := by
                  rw [Bool.eq_false_iff, Ne, any_pos]
                  rintro ⟨z, hz, h0⟩
                  obtain ⟨j, hj⟩ := List.mem_iff_getElem?.1 hz
                  have hjk : j < k := by
                    rcases Nat.lt_or_ge j k with h | h
                    · exact h
                    · rw [List.getElem?_eq_none (by rw [List.length_take]; omega)] at hj; cases hj
                  rw [List.getElem?_take_of_lt hjk] at hj
                  have := hzk.out j hjk
                  simp [List.getD, hj] at this
                  omega
                rw [E.out, hx.out, e0, decide_eq_false (show ¬ p < x by omega)]
                simp
      · have hl' : (d.length : Int) ≤ n := by omega
        go_wp2_with fail
        go_returns
        exact ⟨by rw [E.out]; simp; omega, rfl⟩

/-! ### root -/
theorem set_back (d : List Nat) (i x : Nat) (h : i < d.length) : (d.set i x).set i (d.getD i 0) = d := by
  rw [List.set_set]
  apply List.ext_getElem
  · simp
  · intro n h1 h2
    rw [List.getElem_set]
    split
    · subst_vars; simp [List.getD, h]
    · rfl
theorem mem_set_lt {B : Nat} {d : List Nat} (h : ∀ y ∈ d, y < B) {i x : Nat} (hx : x < B) : ∀ y ∈ d.set i x, y < B := by
  intro y hy
  rcases List.mem_or_eq_of_mem_set hy with h1 | rfl
  · exact h y h1
  · exact hx
theorem getD_set_self (d : List Nat) (i x : Nat) (h : i < d.length) : (d.set i x).getD i 0 = x := by simp [List.getD, h]
theorem getD_set_ne (d : List Nat) (i j x : Nat) (h : j ≠ i) : (d.set i x).getD j 0 = d.getD j 0 := by simp [List.getD, Ne.symm h]

theorem mul_at (A1 A2 : Option Addr) (n1 n2 c1 c2 m : Nat) (a b : List Nat) (w : World) (ea : a.length = n1) (eb : b.length = n2) (hm : n1 + n2 = m) (ha : Rd w w.heap.size 1 A1 n1 (a.map U)) (hb : Rd w w.heap.size 1 A2 n2 (b.map U)) (la : n1 ≤ 100) (lb : n2 ≤ 100) :
    Calls Tryd.prog 65 #[.slice A1 n1 c1, .slice A2 n2 c2] w fun e w' => ∃ A c, e = .returned (.slice A m c) ∧ w'.ownsRow w.heap.size 52 1 (.slice A m c) m ((mulD a b).map U) ∧ Below w.heap.size w w' := by
  subst ea eb
  refine (mul_any A1 A2 c1 c2 a b w ha hb la lb).mono fun e w' h => ?_
  unfold RetU at h
  rw [mulD_length, hm] at h
  exact h
theorem most_at (A1 : Option Addr) (n1 c1 : Nat) (d : List Nat) (p n : Nat) (b : Bool) (w : World) (ed : d.length = n1) (hd : Rd w w.heap.size 1 A1 n1 (d.map U)) (ld : n1 ≤ 100) (hp : p ≤ 1000) (hn : n ≤ 100) (hb : mostD d p n = b) :
    Calls Tryd.prog 66 #[.slice A1 n1 c1, .int .i64 p, .int .i64 n] w fun e w' => e = .returned (.bool b) ∧ w = w' := by
  subst ed hb; exact most_any A1 c1 d p n w hd ld hp hn
theorem rstep_yes {p pw i st : Nat} {d : List Nat} {x : Nat} (hx : d.getD i 0 = x) (h : mostD (pow23 pw (d.set i (x + st))) p (4 * pw) = true) : rstep p pw i st d = d := by
  unfold rstep; rw [hx, h]; rfl
theorem rstep_no {p pw i st : Nat} {d : List Nat} {x : Nat} (hx : d.getD i 0 = x) (h : mostD (pow23 pw (d.set i (x + st))) p (4 * pw) = false) : rstep p pw i st d = d.set i (x + st) := by
  unfold rstep; rw [hx, h]; rfl
set_option maxHeartbeats 2000000 in
theorem root_3 (p : Nat) (w : World) (hp : p ≤ 1000) :
    Calls Tryd.prog 59 #[.int .i64 p, .int .i64 3] w fun e w' => e = .returned (.int .u64 (rootD p 3 : Nat)) ∧ Below w.heap.size w w' ∧ rootD p 3 < 18446744073709551616 := by
  obtain ⟨i0, hi0, hz0, hz1, hz2⟩ := info_parts info64
  go_enter Tryd.func59, Tryd.ntmps59
  go_wp2_with (first
    | (at_make
       refine wpList_make_full _ rfl (.const (.int .i64 5)) (.const (.int .i64 5)) 48 rfl w.heap.size 52 i0 _ 1 Tryd.underlying48 hi0 hz0 hz1 _ _ _ _ 5 rfl rfl rfl rfl (by rw [hz2]; omega) (by simp only [maxLen]; omega) (Nat.le_refl _) ?_
       intro w1 h1 hg1
       have hb1 : Below w.heap.size w w1 := (Below.refl _ _).grown hg1 (Nat.le_refl _) (fun k hk => by cases hk)))
  have h1' : w1.ownsRow w.heap.size 52 1 (.slice (some ⟨w.heap.size, 0, none⟩) 5 5) 5 (([0, 0, 0, 0, 0] : List Nat).map U) := by
    rw [show (Value.int .u64 0).cells = #[Value.int .u64 0] from rfl, toList_madeCells_one] at h1; exact h1
  clear h1
  go_loopw [6, 7, 8] (fun v6 _ _ wr => ∃ (i : Nat) (d : List Nat), v6 = .int .i64 ((i : Int) - 1) ∧ i ≤ 5 ∧ Hid (d.length = 5) ∧ Hid (rall p 3 i d = rall p 3 5 [0, 0, 0, 0, 0]) ∧ Hid (∀ y ∈ d, y < 65536) ∧ Hid (∀ j, j < i → d.getD j 0 = 0) ∧ wr.ownsRow w.heap.size 52 1 (.slice (some ⟨w.heap.size, 0, none⟩) 5 5) 5 (d.map U) ∧ Below w.heap.size w wr) (fun v6 _ _ _ => (intOf v6 + 1).toNat)
  case atStart => exact ⟨5, [0, 0, 0, 0, 0], rfl, Nat.le_refl _, rfl, rfl, by simp [Hid], fun j hj => by (rcases j with _ | _ | _ | _ | _ | j <;> first | rfl | omega), h1', hb1⟩
  case round =>
    obtain ⟨i, d, rfl, hi, hl, hR, hlt, hzr, h2, hb2⟩ := hrel
    by_cases hi0' : 0 < i
    · obtain ⟨k, rfl⟩ : ∃ k, i = k + 1 := ⟨i - 1, by omega⟩
      rw [show ((k + 1 : Nat) : Int) - 1 = (k : Int) by omega]
      have hx1 : (0 : Int) ≤ k := by omega
      have hx2 : (k : Int) < 5 := by omega
      go_wp2_with fail
      go_loopw [7, 8] (fun v7 _ wr' => ∃ (n st : Nat) (d' : List Nat), v7 = .int .u64 st ∧ Hid (st = 2 ^ n / 2) ∧ n ≤ 16 ∧ Hid (d'.length = 5) ∧ Hid (rdig p 3 k n d' = rdig p 3 k 16 d) ∧ Hid (∀ y ∈ d', y < 65536) ∧ Hid (∀ j, j < k → d'.getD j 0 = 0) ∧ Hid (d'.getD k 0 + 2 ^ n ≤ 65536) ∧ wr'.ownsRow w.heap.size 52 1 (.slice (some ⟨w.heap.size, 0, none⟩) 5 5) 5 (d'.map U) ∧ Below w.heap.size w wr') (fun v7 _ _ => (intOf v7).toNat)
      case atStart => exact ⟨16, 32768, d, rfl, rfl, by omega, hl, rfl, hlt, fun j hj => hzr.out j (by omega), by rw [hzr.out k (by omega)]; exact (by decide : 0 + 2 ^ 16 ≤ 65536), h2, hb2⟩
      case round =>
        obtain ⟨n, st, d', rfl, hst, hn, hl', hR', hlt', hzr', hbd, h3, hb3⟩ := hrel
        by_cases hs0 : 0 < st
        · obtain ⟨m, rfl⟩ : ∃ m, n = m + 1 := ⟨n - 1, by have := hst.out; (rcases n with _ | n); (simp at this; omega); omega⟩
          have hst2 : Hid (st = 2 ^ m) := by have := hst.out; rw [Nat.pow_succ, Nat.mul_div_cancel _ (by omega)] at this; exact this
          have hsm : st ≤ 32768 := by rw [hst2.out]; calc 2 ^ m ≤ 2 ^ 15 := Nat.pow_le_pow_right (by omega) (by omega)
            _ = 32768 := rfl
          have hs0' : (0 : Int) < st := by omega
          obtain ⟨x, hcO, hfO, hxo⟩ := own_cellU h3 k (by omega)
          have hxb : x < 65536 := by
            have := hbd.out; rw [hxo.out] at this
            have := Nat.two_pow_pos (m + 1); omega
          have hwA : IntKind.u64.wrap ((x : Int) + (st : Int)) = ((x + st : Nat) : Int) := by rw [← Int.natCast_add, wrapU, Nat.mod_eq_of_lt (by omega)]
          have hwB : IntKind.u64.wrap (((x + st : Nat) : Int) - (st : Int)) = (x : Int) := by rw [show ((x + st : Nat) : Int) - (st : Int) = ((x : Nat) : Int) by omega, wrapU, Nat.mod_eq_of_lt (by omega)]
          have hwC : IntKind.u64.wrap ((st : Int).tdiv 2) = ((st / 2 : Nat) : Int) := divU st 2 (by omega)
          have h4 := h3.stored k (.int .u64 ((x : Int) + (st : Int)))
          rw [show (Value.int .u64 ((x : Int) + (st : Int))) = U (x + st) from rfl, ← List.map_set] at h4
          have hwB' : IntKind.u64.wrap ((x : Int) + (st : Int) - (st : Int)) = (x : Int) := by rw [← Int.natCast_add]; exact hwB
          have hel : (d'.set k (x + st)).length = 5 := by rw [List.length_set]; exact hl'.out
          have hbx := hb3.setCell (p := ⟨w.heap.size, k, none⟩) (Nat.le_refl _) (.int .u64 ((x : Int) + (st : Int)))
          have Hel := Lib.hid hel
          clear hel
          go_wp2_with fail
          refine (mul_at _ _ 5 5 5 5 10 (d'.set k (x + st)) (d'.set k (x + st)) _ Hel.out Hel.out rfl (Rd.of_own h4.1) (Rd.of_own h4.1) (by omega) (by omega)).mono ?_; rintro e w3 ⟨A3, c3, rfl, ho3, hb3'⟩
          have h5 := own_to h4.1 hb3'
          have Hml := Lib.hid (mulD_length (d'.set k (x + st)) (d'.set k (x + st)))
          go_wp2_with fail
          refine (mul_at _ _ 10 5 _ 5 15 (mulD (d'.set k (x + st)) (d'.set k (x + st))) (d'.set k (x + st)) _ (by rw [Hml.out, Hel.out]) Hel.out rfl (Rd.of_own ho3) (Rd.of_own h5) (by omega) (by omega)).mono ?_; rintro e w4 ⟨A4, c4, rfl, ho4, hb4⟩
          have h6 := own_to h5 hb4
          have Hml2 := Lib.hid (mulD_length (mulD (d'.set k (x + st)) (d'.set k (x + st))) (d'.set k (x + st)))
          have hb5 := (hbx.trans (hb3'.mono hbx.size)).trans (hb4.mono (hbx.trans (hb3'.mono hbx.size)).size)
          obtain ⟨x', hcO', hfO', hxo'⟩ := own_cellU h6 k (by omega)
          rw [getD_set_self _ _ _ (by rw [hl'.out]; omega)] at hxo'
          obtain rfl : x + st = x' := hxo'.out
          cases hmost : mostD (mulD (mulD (d'.set k (x + st)) (d'.set k (x + st))) (d'.set k (x + st))) p (4 * 3) with
          | true =>
            have Hm := Lib.hid hmost
            clear hmost
            go_wp2_with fail
            refine (most_at _ 15 _ _ p 12 true _ (by rw [Hml2.out, Hml.out, Hel.out]) (Rd.of_own ho4) (by omega) hp (by omega) Hm.out).mono ?_; rintro e w5 ⟨rfl, rfl⟩
            go_wp2_with fail
            have hE : rstep p 3 k (2 ^ m) d' = d' := rstep_yes hxo.out (by rw [← hst2.out]; exact Hm.out)
            have h7 := h6.stored k (U x)
            rw [← List.map_set, ← hxo.out, set_back _ _ _ (by rw [hl'.out]; omega), hxo.out] at h7
            refine ⟨⟨m, st / 2, d', rfl, by rw [hst2.out]; rfl, by omega, hl', ?_, hlt', hzr', ?_, h7.1, hb5.setCell (Nat.le_refl _) _⟩, by simp only [intOf]; omega⟩
            · have := hR'.out
              rw [rdig, hE] at this
              exact this
            · have := hbd.out
              rw [Nat.pow_succ] at this
              exact (by omega : d'.getD k 0 + 2 ^ m ≤ 65536)
          | false =>
            have Hm := Lib.hid hmost
            clear hmost
            go_wp2_with fail
            refine (most_at _ 15 _ _ p 12 false _ (by rw [Hml2.out, Hml.out, Hel.out]) (Rd.of_own ho4) (by omega) hp (by omega) Hm.out).mono ?_; rintro e w5 ⟨rfl, rfl⟩
            go_wp2_with fail
            have hE : rstep p 3 k (2 ^ m) d' = d'.set k (x + st) := by rw [rstep_no (x := x) hxo.out (by rw [← hst2.out]; exact Hm.out), hst2.out]
            have hb0 := hbd.out
            rw [hxo.out, Nat.pow_succ] at hb0
            refine ⟨⟨m, st / 2, d'.set k (x + st), rfl, by rw [hst2.out]; rfl, by omega, Hel, ?_, mem_set_lt hlt'.out (by have := hst2.out; have := Nat.two_pow_pos m; omega), ?_, ?_, h6, hb5⟩, by simp only [intOf]; omega⟩
            · have := hR'.out
              rw [rdig, hE] at this
              exact this
            · intro j hj
              rw [getD_set_ne _ _ _ _ (by omega)]
              exact hzr'.out j hj
            · have h8 := getD_set_self d' k (x + st) (by rw [hl'.out]; omega)
              exact (by rw [h8, hst2.out]; omega : (d'.set k (x + st)).getD k 0 + 2 ^ m ≤ 65536)
        · obtain rfl : st = 0 := by omega
          have hn0 : n = 0 := by
            have := hst.out
            rcases n with _ | n
            · rfl
            · rw [Nat.pow_succ, Nat.mul_div_cancel _ (by omega)] at this
              have := Nat.two_pow_pos n; omega
          subst hn0
          have hw1 : IntKind.i64.wrap ((k : Int) - 1) = (k : Int) - 1 := IntWalk.i64_in _ (by omega)
          go_wp2_with fail
          have h8 := hR'.out
          rw [show rdig p 3 k 0 d' = d' from rfl] at h8
          refine ⟨⟨k, d', rfl, by omega, hl', ?_, hlt', hzr', h3, hb3⟩, by simp only [intOf]; omega⟩
          have h9 := hR.out
          rw [rall, ← h8] at h9
          exact h9
    · obtain rfl : i = 0 := by omega
      obtain ⟨x0, hc0, _, hx0⟩ := own_cellU h2 0 (by omega)
      obtain ⟨x1, hc1, _, hx1⟩ := own_cellU h2 1 (by omega)
      obtain ⟨x2, hc2, _, hx2⟩ := own_cellU h2 2 (by omega)
      obtain ⟨x3, hc3, _, hx3⟩ := own_cellU h2 3 (by omega)
      go_wp2_with fail
      go_quiet (fail)
      go_wp2_with fail
      go_returns
      have hv : rootD p 3 = valD d := by unfold rootD; rw [← hR.out]; rfl
      have b0 := getD_lt (by omega) hlt.out 0
      have b1 := getD_lt (by omega) hlt.out 1
      have b2 := getD_lt (by omega) hlt.out 2
      have b3 := getD_lt (by omega) hlt.out 3
      rw [hx0.out] at b0
      rw [hx1.out] at b1
      rw [hx2.out] at b2
      rw [hx3.out] at b3
      have e : IntKind.u64.wrap (IntKind.u64.wrap (IntKind.u64.wrap (IntKind.u64.wrap ((x3 : Int) * 281474976710656) + IntKind.u64.wrap ((x2 : Int) * 4294967296)) + IntKind.u64.wrap ((x1 : Int) * 65536)) + (x0 : Int)) = ((rootD p 3 : Nat) : Int) := by
        rw [hv]
        unfold valD
        rw [hx0.out, hx1.out, hx2.out, hx3.out]
        simp only [IntKind.wrap_u64]
        omega
      refine ⟨?_, below_drewN hb2 _, ?_⟩
      rotate_left
      · rw [hv]
        unfold valD
        rw [hx0.out, hx1.out, hx2.out, hx3.out]
        omega
      show Ending.returned (Value.int .u64 _) = _
      rw [e]
set_option maxHeartbeats 2000000 in
theorem root_2 (p : Nat) (w : World) (hp : p ≤ 1000) :
    Calls Tryd.prog 59 #[.int .i64 p, .int .i64 2] w fun e w' => e = .returned (.int .u64 (rootD p 2 : Nat)) ∧ Below w.heap.size w w' ∧ rootD p 2 < 18446744073709551616 := by
  obtain ⟨i0, hi0, hz0, hz1, hz2⟩ := info_parts info64
  go_enter Tryd.func59, Tryd.ntmps59
  go_wp2_with (first
    | (at_make
       refine wpList_make_full _ rfl (.const (.int .i64 5)) (.const (.int .i64 5)) 48 rfl w.heap.size 52 i0 _ 1 Tryd.underlying48 hi0 hz0 hz1 _ _ _ _ 5 rfl rfl rfl rfl (by rw [hz2]; omega) (by simp only [maxLen]; omega) (Nat.le_refl _) ?_
       intro w1 h1 hg1
       have hb1 : Below w.heap.size w w1 := (Below.refl _ _).grown hg1 (Nat.le_refl _) (fun k hk => by cases hk)))
  have h1' : w1.ownsRow w.heap.size 52 1 (.slice (some ⟨w.heap.size, 0, none⟩) 5 5) 5 (([0, 0, 0, 0, 0] : List Nat).map U) := by
    rw [show (Value.int .u64 0).cells = #[Value.int .u64 0] from rfl, toList_madeCells_one] at h1; exact h1
  clear h1
  go_loopw [6, 7, 8] (fun v6 _ _ wr => ∃ (i : Nat) (d : List Nat), v6 = .int .i64 ((i : Int) - 1) ∧ i ≤ 5 ∧ Hid (d.length = 5) ∧ Hid (rall p 2 i d = rall p 2 5 [0, 0, 0, 0, 0]) ∧ Hid (∀ y ∈ d, y < 65536) ∧ Hid (∀ j, j < i → d.getD j 0 = 0) ∧ wr.ownsRow w.heap.size 52 1 (.slice (some ⟨w.heap.size, 0, none⟩) 5 5) 5 (d.map U) ∧ Below w.heap.size w wr) (fun v6 _ _ _ => (intOf v6 + 1).toNat)
  case atStart => exact ⟨5, [0, 0, 0, 0, 0], rfl, Nat.le_refl _, rfl, rfl, by simp [Hid], fun j hj => by (rcases j with _ | _ | _ | _ | _ | j <;> first | rfl | omega), h1', hb1⟩
  case round =>
    obtain ⟨i, d, rfl, hi, hl, hR, hlt, hzr, h2, hb2⟩ := hrel
    by_cases hi0' : 0 < i
    · obtain ⟨k, rfl⟩ : ∃ k, i = k + 1 := ⟨i - 1, by omega⟩
      rw [show ((k + 1 : Nat) : Int) - 1 = (k : Int) by omega]
      have hx1 : (0 : Int) ≤ k := by omega
      have hx2 : (k : Int) < 5 := by omega
      go_wp2_with fail
      go_loopw [7, 8] (fun v7 _ wr' => ∃ (n st : Nat) (d' : List Nat), v7 = .int .u64 st ∧ Hid (st = 2 ^ n / 2) ∧ n ≤ 16 ∧ Hid (d'.length = 5) ∧ Hid (rdig p 2 k n d' = rdig p 2 k 16 d) ∧ Hid (∀ y ∈ d', y < 65536) ∧ Hid (∀ j, j < k → d'.getD j 0 = 0) ∧ Hid (d'.getD k 0 + 2 ^ n ≤ 65536) ∧ wr'.ownsRow w.heap.size 52 1 (.slice (some ⟨w.heap.size, 0, none⟩) 5 5) 5 (d'.map U) ∧ Below w.heap.size w wr') (fun v7 _ _ => (intOf v7).toNat)
      case atStart => exact ⟨16, 32768, d, rfl, rfl, by omega, hl, rfl, hlt, fun j hj => hzr.out j (by omega), by rw [hzr.out k (by omega)]; exact (by decide : 0 + 2 ^ 16 ≤ 65536), h2, hb2⟩
      case round =>
        obtain ⟨n, st, d', rfl, hst, hn, hl', hR', hlt', hzr', hbd, h3, hb3⟩ := hrel
        by_cases hs0 : 0 < st
        · obtain ⟨m, rfl⟩ : ∃ m, n = m + 1 := ⟨n - 1, by have := hst.out; (rcases n with _ | n); (simp at this; omega); omega⟩
          have hst2 : Hid (st = 2 ^ m) := by have := hst.out; rw [Nat.pow_succ, Nat.mul_div_cancel _ (by omega)] at this; exact this
          have hsm : st ≤ 32768 := by rw [hst2.out]; calc 2 ^ m ≤ 2 ^ 15 := Nat.pow_le_pow_right (by omega) (by omega)
            _ = 32768 := rfl
          have hs0' : (0 : Int) < st := by omega
          obtain ⟨x, hcO, hfO, hxo⟩ := own_cellU h3 k (by omega)
          have hxb : x < 65536 := by
            have := hbd.out; rw [hxo.out] at this
            have := Nat.two_pow_pos (m + 1); omega
          have hwA : IntKind.u64.wrap ((x : Int) + (st : Int)) = ((x + st : Nat) : Int) := by rw [← Int.natCast_add, wrapU, Nat.mod_eq_of_lt (by omega)]
          have hwB : IntKind.u64.wrap (((x + st : Nat) : Int) - (st : Int)) = (x : Int) := by rw [show ((x + st : Nat) : Int) - (st : Int) = ((x : Nat) : Int) by omega, wrapU, Nat.mod_eq_of_lt (by omega)]
          have hwC : IntKind.u64.wrap ((st : Int).tdiv 2) = ((st / 2 : Nat) : Int) := divU st 2 (by omega)
          have h4 := h3.stored k (.int .u64 ((x : Int) + (st : Int)))
          rw [show (Value.int .u64 ((x : Int) + (st : Int))) = U (x + st) from rfl, ← List.map_set] at h4
          have hwB' : IntKind.u64.wrap ((x : Int) + (st : Int) - (st : Int)) = (x : Int) := by rw [← Int.natCast_add]; exact hwB
          have hel : (d'.set k (x + st)).length = 5 := by rw [List.length_set]; exact hl'.out
          have hbx := hb3.setCell (p := ⟨w.heap.size, k, none⟩) (Nat.le_refl _) (.int .u64 ((x : Int) + (st : Int)))
          have Hel := Lib.hid hel
          clear hel
          go_wp2_with fail
          refine (mul_at _ _ 5 5 5 5 10 (d'.set k (x + st)) (d'.set k (x + st)) _ Hel.out Hel.out rfl (Rd.of_own h4.1) (Rd.of_own h4.1) (by omega) (by omega)).mono ?_; rintro e w3 ⟨A3, c3, rfl, ho3, hb3'⟩
          have h5 := own_to h4.1 hb3'
          have Hml := Lib.hid (mulD_length (d'.set k (x + st)) (d'.set k (x + st)))
          have hb5 := hbx.trans (hb3'.mono hbx.size)
          obtain ⟨x', hcO', hfO', hxo'⟩ := own_cellU h5 k (by omega)
          rw [getD_set_self _ _ _ (by rw [hl'.out]; omega)] at hxo'
          obtain rfl : x + st = x' := hxo'.out
          cases hmost : mostD (mulD (d'.set k (x + st)) (d'.set k (x + st))) p (4 * 2) with
          | true =>
            have Hm := Lib.hid hmost
            clear hmost
            go_wp2_with fail
            refine (most_at _ 10 _ _ p 8 true _ (by rw [Hml.out, Hel.out]) (Rd.of_own ho3) (by omega) hp (by omega) Hm.out).mono ?_; rintro e w5 ⟨rfl, rfl⟩
            go_wp2_with fail
            have hE : rstep p 2 k (2 ^ m) d' = d' := rstep_yes hxo.out (by rw [← hst2.out]; exact Hm.out)
            have h7 := h5.stored k (U x)
            rw [← List.map_set, ← hxo.out, set_back _ _ _ (by rw [hl'.out]; omega), hxo.out] at h7
            refine ⟨⟨m, st / 2, d', rfl, by rw [hst2.out]; rfl, by omega, hl', ?_, hlt', hzr', ?_, h7.1, hb5.setCell (Nat.le_refl _) _⟩, by simp only [intOf]; omega⟩
            · have := hR'.out
              rw [rdig, hE] at this
              exact this
            · have := hbd.out
              rw [Nat.pow_succ] at this
              exact (by omega : d'.getD k 0 + 2 ^ m ≤ 65536)
          | false =>
            have Hm := Lib.hid hmost
            clear hmost
            go_wp2_with fail
            refine (most_at _ 10 _ _ p 8 false _ (by rw [Hml.out, Hel.out]) (Rd.of_own ho3) (by omega) hp (by omega) Hm.out).mono ?_; rintro e w5 ⟨rfl, rfl⟩
            go_wp2_with fail
            have hE : rstep p 2 k (2 ^ m) d' = d'.set k (x + st) := by rw [rstep_no (x := x) hxo.out (by rw [← hst2.out]; exact Hm.out), hst2.out]
            have hb0 := hbd.out
            rw [hxo.out, Nat.pow_succ] at hb0
            refine ⟨⟨m, st / 2, d'.set k (x + st), rfl, by rw [hst2.out]; rfl, by omega, Hel, ?_, mem_set_lt hlt'.out (by have := hst2.out; have := Nat.two_pow_pos m; omega), ?_, ?_, h5, hb5⟩, by simp only [intOf]; omega⟩
            · have := hR'.out
              rw [rdig, hE] at this
              exact this
            · intro j hj
              rw [getD_set_ne _ _ _ _ (by omega)]
              exact hzr'.out j hj
            · have h8 := getD_set_self d' k (x + st) (by rw [hl'.out]; omega)
              exact (by rw [h8, hst2.out]; omega : (d'.set k (x + st)).getD k 0 + 2 ^ m ≤ 65536)
        · obtain rfl : st = 0 := by omega
          have hn0 : n = 0 := by
            have := hst.out
            rcases n with _ | n
            · rfl
            · rw [Nat.pow_succ, Nat.mul_div_cancel _ (by omega)] at this
              have := Nat.two_pow_pos n; omega
          subst hn0
          have hw1 : IntKind.i64.wrap ((k : Int) - 1) = (k : Int) - 1 := IntWalk.i64_in _ (by omega)
          go_wp2_with fail
          have h8 := hR'.out
          rw [show rdig p 2 k 0 d' = d' from rfl] at h8
          refine ⟨⟨k, d', rfl, by omega, hl', ?_, hlt', hzr', h3, hb3⟩, by simp only [intOf]; omega⟩
          have h9 := hR.out
          rw [rall, ← h8] at h9
          exact h9
    · obtain rfl : i = 0 := by omega
      obtain ⟨x0, hc0, _, hx0⟩ := own_cellU h2 0 (by omega)
      obtain ⟨x1, hc1, _, hx1⟩ := own_cellU h2 1 (by omega)
      obtain ⟨x2, hc2, _, hx2⟩ := own_cellU h2 2 (by omega)
      obtain ⟨x3, hc3, _, hx3⟩ := own_cellU h2 3 (by omega)
      go_wp2_with fail
      go_quiet (fail)
      go_wp2_with fail
      go_returns
      have hv : rootD p 2 = valD d := by unfold rootD; rw [← hR.out]; rfl
      have b0 := getD_lt (by omega) hlt.out 0
      have b1 := getD_lt (by omega) hlt.out 1
      have b2 := getD_lt (by omega) hlt.out 2
      have b3 := getD_lt (by omega) hlt.out 3
      rw [hx0.out] at b0
      rw [hx1.out] at b1
      rw [hx2.out] at b2
      rw [hx3.out] at b3
      have e : IntKind.u64.wrap (IntKind.u64.wrap (IntKind.u64.wrap (IntKind.u64.wrap ((x3 : Int) * 281474976710656) + IntKind.u64.wrap ((x2 : Int) * 4294967296)) + IntKind.u64.wrap ((x1 : Int) * 65536)) + (x0 : Int)) = ((rootD p 2 : Nat) : Int) := by
        rw [hv]
        unfold valD
        rw [hx0.out, hx1.out, hx2.out, hx3.out]
        simp only [IntKind.wrap_u64]
        omega
      refine ⟨?_, below_drewN hb2 _, ?_⟩
      rotate_left
      · rw [hv]
        unfold valD
        rw [hx0.out, hx1.out, hx2.out, hx3.out]
        omega
      show Ending.returned (Value.int .u64 _) = _
      rw [e]
end Go.Proofs.YtclecmpmohoamaaDoor
