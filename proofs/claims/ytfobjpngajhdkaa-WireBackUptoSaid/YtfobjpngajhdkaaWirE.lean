/- The contracts of a reader's Fixed and Text. -/
import Derived.Test.YtfobjpngajhdkaaWirD
namespace Go.Proofs.Ytfobjpngajhdkaa
open Go.RowKit

section
variable {P : Program} {w : World}
/-- append onto an owned row, as one step of a region that draws. -/
theorem step_app {ops : Array Oper} {o : Oper} {a : Act} {K : Act → World → Prop} {Q : Exit → Act → World → Prop} {E : Prop} (hgd : o.guard = none) (s x : Operand) (t : TypeId)
    (ho : o.op = .call { callee := .builtin .append, args := #[s, x], argTypes := #[t, t] })
    (base : Nat) (e : TypeId) (size bytes : Nat) (z : Value) (ht : P.underlying t = some (.slice e)) (hi : (P.info? e).map (fun i => (i.zero, i.size, i.bytes)) = some (some z, size, bytes))
    (hzs : z.cells.size = size) (hsz : 0 < size)
    (v : Value) (n : Nat) (xs : List Value) (hs : a.eval s = v) (hown : w.ownsRow base e size v n xs)
    (B : Nat) (A : Option Addr) (m c : Nat) (news : List Value) (hx : a.eval x = .slice A m c) (hr : Rd w B size A m news) (h1 : ∀ u ∈ news, u.oneCell' = true)
    (h63 : n + m ≤ maxLen) (hbytes : (n + m) * bytes ≤ 140737488355328) (hbase : base ≤ w.heap.size)
    (h : ∀ A' c' w', w'.ownsRow base e size (.slice A' (n + m) c') (n + m) (xs ++ news) → w.grownBy w' v.ownBlock → ((Value.slice A' (n + m) c').ownBlock = v.ownBlock ∨ (Value.slice A' (n + m) c').ownBlock = some w.heap.size) →
      K (a.put o.dst (.slice A' (n + m) c')) w') : if Region.wanted o (yielded ops a.tmps) = true then Oper.wp P o a w K Q else E := by
  rw [if_pos (by simp [Region.wanted, hgd])]
  exact wp_app s x t ho base e size bytes z ht hi hzs hsz v n xs hs hown B A m c news hx hr h1 h63 hbytes hbase h
end

theorem fixed_none (g : Nat) (A : Option Addr) (n c at_ : Nat) (w : World) (h : Rdr w g A n c at_ 0) :
    Calls Try.prog 23 #[.pointer (some ⟨g, 0, none⟩), .int .i64 0] w fun r w' => r = .returned (.slice none 0 0) ∧ w = w' := by
  go_enter Try.func23, Try.ntmps23
  go_wp2_with fail
  refine (fine_yes g A n c at_ _ h).mono ?_; rintro r w1 ⟨rfl, rfl⟩
  go_wp2_with fail
  go_ret
  exact ⟨rfl, rfl⟩
theorem fixed_good (g : Nat) (A : Option Addr) (n c at_ : Nat) (l : List UInt8) (x : Nat) (w : World) (h : Rdr w g A n c at_ 0) (hr : Rd w w.heap.size 1 A n (l.map B8)) (hn : n ≤ 140737488355322) (hnc : n ≤ c)
    (hx1 : 1 ≤ x) (hx : at_ + x ≤ n) :
    Calls Try.prog 23 #[.pointer (some ⟨g, 0, none⟩), .int .i64 x] w fun r w' =>
      ∃ A' c', r = .returned (.slice A' x c') ∧ Rd w' w'.heap.size 1 A' x (((l.drop at_).take x).map B8) ∧ Rdr w' g A n c (at_ + x) 0 ∧ w.grownBy w' (some g) := by
  obtain rfl : l.length = n := by simpa using hr.len
  have ht1 : ¬ (x : Int) < 1 := by omega
  have ht2 : ¬ ((l.length : Int) - at_ < x) := by omega
  go_enter Try.func23, Try.ntmps23
  go_wp2_with fail
  refine (fine_yes g A _ c at_ _ h).mono ?_; rintro r w1 ⟨rfl, rfl⟩
  go_wp2_with fail
  refine (left_any g A _ c at_ 0 _ h (by omega) (by omega)).mono ?_; rintro r w1 ⟨rfl, hs⟩
  have h1 := h.still hs
  have hr1 := hr.to (hs.below _)
  go_wp2_with fail
  obtain ⟨b, o, rfl, hb, _⟩ := hr1.2 (by omega)
  have hc0 := h1.c0
  have hc1 := h1.c1
  have hw1 : IntKind.i64.wrap ((at_ : Int) + x) = (at_ : Int) + x := IntWalk.i64_in _ (by omega)
  have hw2 : 0 ≤ (at_ : Int) + x := by omega
  have hw3 : ((at_ : Int) + x).toNat = at_ + x := by omega
  have hw4 : (at_ : Int) + x ≤ c := by omega
  have hw6 : (0 : Int) ≤ at_ := by omega
  have hw7 : (at_ : Int) ≤ (at_ : Int) + x := by omega
  have hw8 : ¬ c = at_ := by omega
  have hw5 : at_ + x - at_ = x := by omega
  have hcut := ((hr1.alloc (Nat.le_refl _) (.cells #[] 5)).cut (k := at_) (cap := c) (by omega) hnc).take (k := x) (by omega)
  rw [if_neg hw8, Nat.mul_one, Option.map_some, addr_add] at hcut
  go_region_held3 (fun w' => w'.cell? ⟨g, 0, none⟩ = some (.slice (some ⟨b, o, none⟩) l.length c) ∧ w'.cell? ⟨g, 1, none⟩ = some (.int .i64 at_)) (go_keep) (first
    | (refine step_app rfl (.tmp 23) (.tmp 41) _ rfl w1.heap.size 5 1 1 _ Try.underlying22 info8 rfl (by omega) (.slice (some ⟨w1.heap.size, 0, none⟩) 0 0) 0 [] rfl (World.ownsRow_lit w1.drew #[] 0 (Nat.le_refl _) (by simp [maxLen]) rfl) w1.heap.size _ x _ _ rfl hcut (by intro u hu; exact B8_one l u (List.mem_of_mem_drop (List.mem_of_mem_take hu))) (by simp only [maxLen]; omega) (by omega) (by simp) ?_
       intro A2 c2 w2 h2 hg2 _
       have hb2 : Below w1.heap.size w1 w2 := (((Still.refl w1).drew.below _).alloc (by simp) _).grown hg2 (by simp) (fun k hk => by simp [Value.ownBlock] at hk; omega)
       have h3 := h1.to hb2
       have hcc0 := h3.c0
       have hcc1 := h3.c1
       have hcz1 := h3.fz 1))
  go_wp2_with fail
  go_ret
  have h4 := h3.set1 (at_ + x)
  rw [Int.natCast_add] at h4
  simp only [Nat.zero_add, List.nil_append] at h2
  have hr2 : Rd w2 w2.heap.size 1 A2 x (((l.drop at_).take x).map B8) := by rw [List.map_take, List.map_drop]; exact Rd.of_own h2
  exact ⟨A2, c2, by simp, hr2.only h3 h4.2, h4.1, grown_trans' (grown_trans' (still_grown hs _) (below_grown' hb2 _)) h4.2⟩

/-- Text: the number's fault. -/
theorem text_bad (g : Nat) (A : Option Addr) (n c at_ : Nat) (l : List UInt8) (most : Int) (w : World) (h : Rdr w g A n c at_ 0) (hr : Rd w w.heap.size 1 A n (l.map B8)) (hn : n ≤ 140737488355322) (ha : at_ ≤ n) (x kk : Nat) (f : Int)
    (hx : nxt (l.drop at_) 0 0 = (x, kk, f)) (hf : (f == 0) = false) :
    Calls Try.prog 19 #[.pointer (some ⟨g, 0, none⟩), .int .i64 most] w fun r w' => r = .returned (.slice none 0 0) ∧ Rdr w' g A n c at_ f ∧ w.grownBy w' (some g) := by
  have hf2 : (f != 0) = true := by rw [bne_iff_ne]; intro h; rw [h] at hf; simp at hf
  go_enter Try.func19, Try.ntmps19
  go_wp2_with fail
  refine (fine_yes g A n c at_ _ h).mono ?_; rintro r w1 ⟨rfl, rfl⟩
  go_wp2_with fail
  refine (next_any g A n c at_ 0 l _ h hr (by omega) ha x kk f hx).mono ?_; rintro r w2 ⟨rfl, hs⟩
  have h2 := h.still hs
  have hc3 := h2.c3
  have hz3 := h2.fz 3
  go_wp2_with fail
  go_ret
  exact ⟨rfl, (h2.set3 f).1, grown_trans' (still_grown hs _) (h2.set3 f).2⟩
/-- Text: a number beyond what may be. -/
theorem text_long (g : Nat) (A : Option Addr) (n c at_ : Nat) (l : List UInt8) (most : Int) (w : World) (h : Rdr w g A n c at_ 0) (hr : Rd w w.heap.size 1 A n (l.map B8)) (hn : n ≤ 140737488355322) (ha : at_ ≤ n) (x kk : Nat)
    (hx : nxt (l.drop at_) 0 0 = (x, kk, 0)) (hm : 0 ≤ most) (hl : most < x) :
    Calls Try.prog 19 #[.pointer (some ⟨g, 0, none⟩), .int .i64 most] w fun r w' => r = .returned (.slice none 0 0) ∧ Rdr w' g A n c at_ 2 ∧ w.grownBy w' (some g) := by
  go_enter Try.func19, Try.ntmps19
  go_wp2_with fail
  refine (fine_yes g A n c at_ _ h).mono ?_; rintro r w1 ⟨rfl, rfl⟩
  go_wp2_with fail
  refine (next_any g A n c at_ 0 l _ h hr (by omega) ha x kk 0 hx).mono ?_; rintro r w2 ⟨rfl, hs⟩
  have h2 := h.still hs
  have hc3 := h2.c3
  have hz3 := h2.fz 3
  go_wp2_with fail
  go_ret
  exact ⟨rfl, (h2.set3 2).1, grown_trans' (still_grown hs _) (h2.set3 2).2⟩
/-- Text: too few bytes behind the number. -/
theorem text_short (g : Nat) (A : Option Addr) (n c at_ : Nat) (l : List UInt8) (most : Int) (w : World) (h : Rdr w g A n c at_ 0) (hr : Rd w w.heap.size 1 A n (l.map B8)) (hn : n ≤ 140737488355322) (ha : at_ ≤ n) (x kk : Nat)
    (hx : nxt (l.drop at_) 0 0 = (x, kk, 0)) (hm : 0 ≤ most) (hl : (x : Int) ≤ most) (hk : at_ + kk ≤ n) (hs3 : n - at_ - kk < x) :
    Calls Try.prog 19 #[.pointer (some ⟨g, 0, none⟩), .int .i64 most] w fun r w' => r = .returned (.slice none 0 0) ∧ Rdr w' g A n c at_ 3 ∧ w.grownBy w' (some g) := by
  have hlt : (n : Int) - at_ - kk < x := by omega
  go_enter Try.func19, Try.ntmps19
  go_wp2_with fail
  refine (fine_yes g A n c at_ _ h).mono ?_; rintro r w1 ⟨rfl, rfl⟩
  go_wp2_with fail
  refine (next_any g A n c at_ 0 l _ h hr (by omega) ha x kk 0 hx).mono ?_; rintro r w2 ⟨rfl, hs⟩
  have h2 := h.still hs
  go_wp2_with fail
  refine (left_any g A n c at_ 0 _ h2 (by omega) ha).mono ?_; rintro r w3 ⟨rfl, hs3'⟩
  have h3 := h2.still hs3'
  have hc3 := h3.c3
  have hz3 := h3.fz 3
  go_wp2_with fail
  go_ret
  exact ⟨rfl, (h3.set3 3).1, grown_trans' (still_grown (hs.trans hs3') _) (h3.set3 3).2⟩
/-- Text: what stands there. -/
theorem text_good (g : Nat) (A : Option Addr) (n c at_ : Nat) (l : List UInt8) (most : Int) (w : World) (h : Rdr w g A n c at_ 0) (hr : Rd w w.heap.size 1 A n (l.map B8)) (hn : n ≤ 140737488355322) (hnc : n ≤ c) (ha : at_ ≤ n) (x kk : Nat)
    (hx : nxt (l.drop at_) 0 0 = (x, kk, 0)) (hm : 0 ≤ most) (hl : (x : Int) ≤ most) (hk : at_ + kk + x ≤ n) :
    Calls Try.prog 19 #[.pointer (some ⟨g, 0, none⟩), .int .i64 most] w fun r w' =>
      ∃ A' c', r = .returned (.slice A' x c') ∧ Rd w' w'.heap.size 1 A' x (((l.drop (at_ + kk)).take x).map B8) ∧ Rdr w' g A n c (at_ + kk + x) 0 ∧ w.grownBy w' (some g) := by
  have hlt : ¬ (n : Int) - at_ - kk < x := by omega
  go_enter Try.func19, Try.ntmps19
  go_wp2_with fail
  refine (fine_yes g A n c at_ _ h).mono ?_; rintro r w1 ⟨rfl, rfl⟩
  go_wp2_with fail
  refine (next_any g A n c at_ 0 l _ h hr (by omega) ha x kk 0 hx).mono ?_; rintro r w2 ⟨rfl, hs⟩
  have h2 := h.still hs
  go_wp2_with fail
  refine (left_any g A n c at_ 0 _ h2 (by omega) ha).mono ?_; rintro r w3 ⟨rfl, hs3⟩
  have h3 := h2.still hs3
  have hr3 := hr.to ((hs.trans hs3).below _)
  have hc1 := h3.c1
  have hz1 := h3.fz 1
  go_wp2_with fail
  have h4 := h3.set1 (at_ + kk)
  rw [Int.natCast_add] at h4
  have hr4 := hr3.only h3 h4.2
  have hg4 := grown_trans' (still_grown (hs.trans hs3) (some g)) h4.2
  rcases Nat.eq_zero_or_pos x with h0 | h0
  · subst h0
    refine (fixed_none g A n c _ _ h4.1).mono ?_; rintro r w5 ⟨rfl, rfl⟩
    go_wp2_with fail
    go_ret
    exact ⟨none, 0, rfl, by rw [List.take_zero]; exact Rd.nil _ _ _ _, h4.1, hg4⟩
  · refine (fixed_good g A n c (at_ + kk) l x _ h4.1 hr4 hn hnc h0 hk).mono ?_; rintro r w5 ⟨A5, c5, rfl, hr5, h5, hg5⟩
    go_wp2_with fail
    go_ret
    exact ⟨A5, c5, rfl, hr5, h5, grown_trans' hg4 hg5⟩
end Go.Proofs.Ytfobjpngajhdkaa
