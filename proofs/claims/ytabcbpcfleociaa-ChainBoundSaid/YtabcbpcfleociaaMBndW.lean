/- Two books read into one suite: an author's last digests alike give all links alike. Plain. -/
import Derived.Test.YtabcbpcfleociaaMGeT
import Derived.Test.YtabcbpcfleociaaMGet
import Derived.Test.YtabcbpcfleociaaMPv
import Derived.Test.YtabcbpcfleociaaMPla
namespace Go.Proofs.Ytabcbpcfleociaa
set_option linter.unusedSimpArgs false
set_option linter.unusedVariables false
theorem numL_cancel {n m : Int} {r r' : List UInt8} (hn : 0 ≤ n ∧ n ≤ 1099511627776) (hm : 0 ≤ m ∧ m ≤ 1099511627776) (h : numL n ++ r = numL m ++ r') : n = m ∧ r = r' := by
  have e1 : numL n = dig n.toNat := by unfold numL clampN; congr 1; omega
  have e2 : numL m = dig m.toNat := by unfold numL clampN; congr 1; omega
  rw [e1, e2] at h
  have h1 := nxt_put n.toNat r (by omega)
  have h2 := nxt_put m.toNat r' (by omega)
  rw [h, h2] at h1
  injection h1 with h3 h4
  have h5 : n = m := by omega
  subst h5
  exact ⟨rfl, List.append_cancel_left h⟩
theorem textL_cancel {b b' r r' : List UInt8} (hb : b.length ≤ 1000000) (hb' : b'.length ≤ 1000000) (h : textL b ++ r = textL b' ++ r') : b = b' ∧ r = r' := by
  unfold textL at h
  rw [List.append_assoc, List.append_assoc] at h
  obtain ⟨h1, h2⟩ := numL_cancel (by omega) (by omega) h
  exact List.append_inj h2 (by omega)
theorem bytesL_inj {x y : Ln} (ha : x.au = y.au) (hs : x.sq = y.sq) (hx : 1 ≤ x.ep ∧ x.ep ≤ 65536 ∧ x.pv.length ≤ 32 ∧ x.bd.length ≤ 32) (hy : 1 ≤ y.ep ∧ y.ep ≤ 65536 ∧ y.pv.length ≤ 32 ∧ y.bd.length ≤ 32) (h : bytesL x = bytesL y) : x.ep = y.ep ∧ x.pv = y.pv ∧ x.bd = y.bd := by
  unfold bytesL at h
  rw [ha, hs] at h
  simp only [List.append_assoc] at h
  have h1 := List.append_cancel_left (List.append_cancel_left h)
  obtain ⟨h2, h3⟩ := numL_cancel (by omega) (by omega) h1
  obtain ⟨h4, h5⟩ := textL_cancel (by omega) (by omega) h3
  have h6 := textL_cancel (b := x.bd) (b' := y.bd) (r := []) (r' := []) (by omega) (by omega) (by rw [h5])
  exact ⟨h2, h4, h6.1⟩
theorem Seqd.init {L : List Ln} {x : Ln} (h : Seqd (L ++ [x])) : Seqd L := fun L1 y L2 e => h L1 y (L2 ++ [x]) (by rw [e]; simp)
/-- Each known digest is its hash's, behind links that are read. -/
theorem getS_kp {S : Bk} {hs : List (List UInt8)} (hk : Kp S hs) (hS : S = []) : ∀ (n : Nat) (L : List Ln), L.length = n → Seqd L → Kp (getS L S hs).1 (getS L S hs).2
  | 0, L, hn, _ => by
    obtain rfl := List.length_eq_zero_iff.1 hn
    exact hk
  | n + 1, L, hn, hq => by
    rcases List.eq_nil_or_concat L with rfl | ⟨L', x, rfl⟩
    · cases hn
    · rw [List.concat_eq_append] at *
      have hL' : L'.length = n := by simpa using hn
      have ih := getS_kp hk hS n L' hL' hq.init
      rw [getS_snoc]
      have hsq := hq L' x [] rfl
      have hln := getS_ofA L' S hs x.au
      refine ih.put (l := gLn (getS L' S hs).1 x) ?_ rfl
      show x.sq = _
      rw [hsq, show ofA (getS L' S hs).1 (gLn (getS L' S hs).1 x).au = ofA (getS L' S hs).1 x.au from rfl, hln, hS]
      simp [ofA]
/-- What is known stays so, whatever is hashed behind. -/
theorem getS_keep {T : Bk} : ∀ (L : List Ln) (S : Bk) (hs : List (List UInt8)), Kp T hs → Kp T (getS L S hs).2
  | [], _, _, h => h
  | x :: t, S, hs, h => getS_keep t _ _ (h.note _)
theorem lastDg_snoc (L : List Kn) (k : Kn) : lastDg (L ++ [k]) = k.dg := by
  unfold lastDg; simp
theorem takeK_snoc {L : List Kn} {i : Nat} {k : Kn} (h : L[i]? = some k) : L.take (i + 1) = L.take i ++ [k] := by
  rw [List.take_add_one, h]; rfl
theorem lastDg_take {L : List Kn} (h : ∀ k ∈ L, k.ok) (i : Nat) : (lastDg (L.take i)).length ≤ 32 := by
  rcases List.eq_nil_or_concat (L.take i) with e | ⟨T, k, e⟩
  · rw [e]; exact Nat.zero_le _
  · rw [e, List.concat_eq_append, lastDg_snoc]
    have : k ∈ L.take i := by rw [e]; simp
    rw [(h k (List.mem_of_mem_take this)).dg]
    exact Nat.le_refl _
theorem bound_take {S T : Bk} {hs : List (List UInt8)} (hS : S.ok) (hT : T.ok) (kS : Kp S hs) (kT : Kp T hs) (hl : hs.length ≤ 1000000) (a : Int) : ∀ i : Nat, i ≤ (ofA S a).length → i ≤ (ofA T a).length →
    lastDg ((ofA S a).take i) = lastDg ((ofA T a).take i) → (ofA S a).take i = (ofA T a).take i
  | 0, _, _, _ => rfl
  | i + 1, h1, h2, h => by
    obtain ⟨k, hk⟩ : ∃ k, (ofA S a)[i]? = some k := ⟨_, List.getElem?_eq_getElem (by omega)⟩
    obtain ⟨q, hq⟩ : ∃ q, (ofA T a)[i]? = some q := ⟨_, List.getElem?_eq_getElem (by omega)⟩
    rw [takeK_snoc hk, takeK_snoc hq] at h ⊢
    rw [lastDg_snoc, lastDg_snoc] at h
    obtain ⟨m1, d1⟩ := kS a i k hk
    obtain ⟨m2, d2⟩ := kT a i q hq
    have e := h
    rw [d1, d2] at e
    unfold digL at e
    have a1 := List.idxOf_le_length (a := bytesL (lnAt (ofA S a) a i k)) (l := hs)
    have a2 := List.idxOf_le_length (a := bytesL (lnAt (ofA T a) a i q)) (l := hs)
    have e2 := hname_inj (by omega) (by omega) e
    have e3 := idx_inj m2 (y := bytesL (lnAt (ofA S a) a i k)) (by omega)
    have o1 := hS.of (List.mem_of_getElem? hk)
    have o2 := hT.of (List.mem_of_getElem? hq)
    have p1 := lastDg_take (L := ofA S a) (fun k hk => hS.of hk) i
    have p2 := lastDg_take (L := ofA T a) (fun k hk => hT.of hk) i
    obtain ⟨f1, f2, f3⟩ := bytesL_inj (x := lnAt (ofA S a) a i k) (y := lnAt (ofA T a) a i q) rfl rfl ⟨o1.lo, o1.hi, p1, by show k.bd.length ≤ 32; rw [o1.bd]; exact Nat.le_refl _⟩ ⟨o2.lo, o2.hi, p2, by show q.bd.length ≤ 32; rw [o2.bd]; exact Nat.le_refl _⟩ e3
    have hi := bound_take hS hT kS kT hl a i (by omega) (by omega) f2
    have hkq : k = q := by
      cases k; cases q
      have f1' := f1; have f3' := f3
      simp only [lnAt] at f1' f3'
      simp only at h
      subst h; subst f1'; subst f3'; rfl
    rw [hi, hkq]
/-- The law: an author's last links alike, all of them are. -/
theorem bound_law {l1 l2 : List UInt8} (h1 : l1.length ≤ 4000) (h2 : l2.length ≤ 4000) (a : Int) (S T : Bk) (hs1 hs2 : List (List UInt8)) (eS : getS (parse l1).L [] [] = (S, hs1)) (eT : getS (parse l2).L [] hs1 = (T, hs2)) (hn : (ofA S a).length = (ofA T a).length) (hd : lastDg (ofA S a) = lastDg (ofA T a)) : ofA S a = ofA T a := by
  have k0 : ∀ hs, Kp [] hs := fun hs a i k hk => by simp [ofA] at hk
  have ok1 := parse_ok l1
  have ok2 := parse_ok l2
  have kS := getS_kp (k0 []) rfl _ _ rfl (parse_seq l1)
  have kT := getS_kp (k0 hs1) rfl _ _ rfl (parse_seq l2)
  have hS := getS_kn (parse l1).L [] [] Bk.ok.nil ok1.au
  have hT := getS_kn (parse l2).L [] hs1 Bk.ok.nil ok2.au
  have g1 := getS_hs (parse l1).L [] []
  have g2 := getS_hs (parse l2).L [] hs1
  have b1 := ok1.len
  have b2 := ok1.at_
  have b3 := ok2.len
  have b4 := ok2.at_
  rw [eS] at kS hS g1
  have kS2 := getS_keep (T := S) (parse l2).L [] hs1 kS
  rw [eT] at kT hT g2 kS2
  simp only at *
  have g1' : hs1.length ≤ (parse l1).L.length := by simpa using g1
  have h := bound_take hS hT kS2 kT (by omega) a (ofA S a).length (Nat.le_refl _) (by omega) (by rw [List.take_length, hn, List.take_length]; exact hd)
  rw [List.take_length, hn, List.take_length] at h
  exact h
end Go.Proofs.Ytabcbpcfleociaa

/- The law ChainBound, walked. -/
namespace Go.Proofs.Ytabcbpcfleociaa
open Go.RowKit
attribute [local go_sem ↓] Go.wp_at_zero Go.wp_at_succ
set_option linter.unusedSimpArgs false
set_option linter.unusedVariables false
theorem rr_new {w : World} {g : Nat} {A : Option Addr} {n c : Nat} {l : List UInt8} (hrd : Rdr w g A n c 0 0) (r : Rd w w.heap.size 1 A n (l.map B8)) (hc : n ≤ c) (hn : n ≤ 1000000000) : RR w w.heap.size g l 0 0 :=
  ⟨A, n, c, hrd, r, hc, Nat.zero_le _, hn, hrd.lt, Nat.le_refl _, fun b o h0 e => by obtain ⟨b', o', e', hb', _⟩ := r.2 h0; rw [e] at e'; injection e' with e'; injection e' with e1; omega⟩
set_option maxRecDepth 20000 in
set_option maxHeartbeats 16000000 in
theorem chainBound_walk (A : Option Addr) (n c : Nat) (l : List UInt8) (A2 : Option Addr) (n2 c2 : Nat) (l2 : List UInt8) (xa : Int) (w : World) (hr : Rd w w.heap.size 1 A n (l.map B8)) (hc : n ≤ c) (hn : n ≤ 140737488351232) (hr2 : Rd w w.heap.size 1 A2 n2 (l2.map B8)) (hc2 : n2 ≤ c2) (hn2 : n2 ≤ 140737488351232) (hxa : (Lit.int .i64 xa).wf = true) :
    Calls Try.prog 11 #[.slice A n c, .slice A2 n2 c2, .int .i64 xa] w fun e w' => e = .returned (.bool true) ∧ Below w.heap.size w w' := by
  have HR0 := Lib.hid hr
  have HR2 := Lib.hid hr2
  have HXA := Lib.hid (wf_inI hxa)
  have hln : Hid (l.length = n) := by have h1 := hr.len; unfold Hid; simpa using h1
  have hln2 : Hid (l2.length = n2) := by have h1 := hr2.len; unfold Hid; simpa using h1
  clear hr hr2 hxa
  go_enter Try.func11, Try.ntmps11
  by_cases h4 : n ≤ 4000
  · have h4' : ¬ (4000 : Int) < n := by omega
    by_cases h5 : n2 ≤ 4000
    · have h5' : ¬ (4000 : Int) < n2 := by omega
      go_wp2_with fail
      refine (newIdeal_ w).mono ?_
      rintro e w1 ⟨gi, oi, rfl, hI, hoi, b1⟩
      have I1 := Lib.hid hI
      have OI := Lib.hid hoi
      have B1 := Lib.hid b1
      have OL : Hid (∀ k, k ∈ oi → k < w1.heap.size) := note_lt hI
      have R1 : Hid (Rd w1 w1.heap.size 1 A n (l.map B8)) := (HR0.out.below b1).more b1.size
      clear hI hoi b1
      go_wp2_with (at_builtin
                   refine wpList_app rfl (.tmp 30) (.tmp 31) 38 rfl w1.heap.size 5 1 1 _ Try.underlying38 info8 rfl (by decide) (.slice (some ⟨w1.heap.size, 0, none⟩) 0 0) 0 [] rfl (World.ownsRow_lit w1 #[] 0 (Nat.le_refl _) (by simp [maxLen]) rfl) w1.heap.size A n c (l.map B8) rfl (R1.out.alloc (Nat.le_refl _) _) (B8_one _) (by simp only [maxLen]; omega) (by omega) (by simp) ?_
                   intro A3 c3 w3 o3 g3 k3
                   have B3 : Hid (Below w1.heap.size w1 w3) := ((Below.refl _ _).alloc (Nat.le_refl _) _).grown g3 (by simp) (fun k hk => by simp [Value.ownBlock] at hk; omega)
                   rw [Nat.zero_add, List.nil_append] at o3
                   have R3 : Hid (Rd w3 w3.heap.size 1 A3 n (l.map B8)) := Rd.of_own o3
                   clear o3 g3 k3)
      refine (read_any A3 n c3 l w3 R3.out (by omega)).mono ?_
      rintro e w4 ⟨g, A4, c4, rfl, hg4, hrd, r4, b4, hc4⟩
      have B4 : Hid (Below w1.heap.size w1 w4) := B3.out.trans (b4.mono B3.out.size)
      have RR4 : Hid (RR w4 w4.heap.size g l 0 0) := rr_new hrd r4 hc4 (by omega)
      have hg : Hid (w1.heap.size ≤ g) := Nat.le_trans B3.out.size hg4
      have I4 : Hid (IdealAt w4 gi [] oi [g]) := (I1.out.below B4.out).anyR [g]
      have hgo : Hid (g ∉ oi) := fun hm => by have h1 := OL.out g hm; have h2 := hg.out; omega
      have BW4 : Hid (Below w.heap.size w w4) := B1.out.trans (B4.out.mono B1.out.size)
      clear hrd r4 b4 hg4 R3 B3
      go_wp2_with fail
      refine (get_ gi [] oi [g] w4.heap.size g l (g :: oi) w4 I4.out (fun k hk => List.mem_cons_of_mem _ hk) hgo.out (by simp) (fun k hk => by simp at hk; rw [hk]; exact RR4.out.lt) (by simp) RR4.out rfl (fun k hk => by
        rcases List.mem_cons.1 hk with h | h
        · rw [h]; exact RR4.out.lt
        · exact Nat.lt_of_lt_of_le (OL.out k h) B4.out.size) (by simp) (by rw [hln.out]; omega)).mono ?_
      rintro e w5 ⟨hRS, hcase⟩
      clear hRS
      rcases hcase with ⟨_, rfl, hf⟩ | ⟨_, hok⟩
      · have I5 : Hid (IdealAt w5 gi [] oi [g]) := I4.out.keep hf (fun k hk => hk) (fun k hk => by simp at hk; rw [hk]; exact hgo.out) (fun k hk => Or.inl hk)
        have BW5 : Hid (Below w.heap.size w w5) := BW4.out.trans (hf.toBelow (fun k hk => by simp at hk; rw [hk]; exact Nat.le_trans B1.out.size hg.out) BW4.out.size)
        have OL5 : Hid (∀ k, k ∈ oi → k < w5.heap.size) := note_lt I5.out
        have R5 : Hid (Rd w5 w5.heap.size 1 A2 n2 (l2.map B8)) := (HR2.out.below BW5.out).more BW5.out.size
        clear hf
        go_wp2_with (at_builtin
                     refine wpList_app rfl (.tmp 37) (.tmp 38) 38 rfl w5.heap.size 5 1 1 _ Try.underlying38 info8 rfl (by decide) (.slice (some ⟨w5.heap.size, 0, none⟩) 0 0) 0 [] rfl (World.ownsRow_lit w5 #[] 0 (Nat.le_refl _) (by simp [maxLen]) rfl) w5.heap.size A2 n2 c2 (l2.map B8) rfl (R5.out.alloc (Nat.le_refl _) _) (B8_one _) (by simp only [maxLen]; omega) (by omega) (by simp) ?_
                     intro A6 c6 w6 o6 g6 k6
                     have B6 : Hid (Below w5.heap.size w5 w6) := ((Below.refl _ _).alloc (Nat.le_refl _) _).grown g6 (by simp) (fun k hk => by simp [Value.ownBlock] at hk; omega)
                     rw [Nat.zero_add, List.nil_append] at o6
                     have R6 : Hid (Rd w6 w6.heap.size 1 A6 n2 (l2.map B8)) := Rd.of_own o6
                     clear o6 g6 k6)
        refine (read_any A6 n2 c6 l2 w6 R6.out (by omega)).mono ?_
        rintro e w7 ⟨g2, A7, c7, rfl, hg7, hrd, r7, b7, hc7⟩
        have B7 : Hid (Below w5.heap.size w5 w7) := B6.out.trans (b7.mono B6.out.size)
        have RR7 : Hid (RR w7 w7.heap.size g2 l2 0 0) := rr_new hrd r7 hc7 (by omega)
        have hg2 : Hid (w5.heap.size ≤ g2) := Nat.le_trans B6.out.size hg7
        have I7 : Hid (IdealAt w7 gi [] oi [g2]) := (I5.out.below B7.out).anyR [g2]
        have hgo2 : Hid (g2 ∉ oi) := fun hm => by have h1 := OL5.out g2 hm; have h2 := hg2.out; omega
        have BW7 : Hid (Below w.heap.size w w7) := BW5.out.trans (B7.out.mono BW5.out.size)
        clear hrd r7 b7 hg7 R6 B6
        go_wp2_with fail
        refine (get_ gi [] oi [g2] w7.heap.size g2 l2 (g2 :: oi) w7 I7.out (fun k hk => List.mem_cons_of_mem _ hk) hgo2.out (by simp) (fun k hk => by simp at hk; rw [hk]; exact RR7.out.lt) (by simp) RR7.out rfl (fun k hk => by
          rcases List.mem_cons.1 hk with h | h
          · rw [h]; exact RR7.out.lt
          · exact Nat.lt_of_lt_of_le (OL5.out k h) B7.out.size) (by simp) (by rw [hln2.out]; omega)).mono ?_
        rintro e w8 ⟨hRS, hcase⟩
        clear hRS
        have hres : ∃ v, e = .returned v ∧ Below w.heap.size w w8 := by
          rcases hcase with ⟨_, rfl, hf⟩ | ⟨_, gb, ob, oi2, rfl, _, _, _, _, _, hf⟩
          · exact ⟨_, rfl, BW7.out.trans (hf.toBelow (fun k hk => by simp at hk; rw [hk]; exact Nat.le_trans BW5.out.size hg2.out) BW7.out.size)⟩
          · refine ⟨_, rfl, BW7.out.trans (hf.toBelow (fun k hk => ?_) BW7.out.size)⟩
            rcases List.mem_cons.1 hk with h | h
            · rw [h]; exact Nat.le_trans BW5.out.size hg2.out
            · exact OI.out k h
        obtain ⟨v, rfl, b8⟩ := hres
        have BW8 := Lib.hid b8
        clear b8 hcase
        go_wp2_with fail
        refine (awake_ w8).mono ?_
        rintro e w9 ⟨rfl, b9⟩
        go_wp2_with fail
        go_ret
        exact ⟨rfl, BW8.out.trans (b9.mono BW8.out.size)⟩
      · obtain ⟨gb, ob, oi5, rfl, hob, hoi5, hdj, hbk, hid, hf⟩ := hok
        obtain ⟨⟨S, hs1⟩, hSq⟩ : ∃ p, Hid (p = getS (parse l).L [] []) := ⟨_, Lib.hid rfl⟩
        rw [← hSq.out] at hbk hid
        simp only at hbk hid
        have K5 := Lib.hid hbk
        have I5 := Lib.hid hid
        have OI5 : Hid (∀ k, k ∈ oi5 → w.heap.size ≤ k) := fun k hk => (hoi5 k hk).elim (OI.out k) (fun h => Nat.le_trans BW4.out.size h)
        have OL5 : Hid (∀ k, k ∈ oi5 → k < w5.heap.size) := note_lt hid
        have OB5 : Hid (∀ k, k ∈ ob → k < w5.heap.size) := hbk.lt
        have DJ := Lib.hid hdj
        have g5 : Hid (g < w5.heap.size) := Nat.lt_of_lt_of_le RR4.out.lt hf.size
        have hhs : Hid (hs1.length ≤ 4000) := by
          have h1 := getS_hs (parse l).L [] []
          have h2 := (parse_ok l).len
          have h3 := (parse_ok l).at_
          have h4 := hln.out
          rw [← hSq.out] at h1
          simp only [List.length_nil] at h1
          unfold Hid
          omega
        have BW5 : Hid (Below w.heap.size w w5) := BW4.out.trans (hf.toBelow (fun k hk => by
          rcases List.mem_cons.1 hk with h | h
          · rw [h]; exact Nat.le_trans B1.out.size hg.out
          · exact OI.out k h) BW4.out.size)
        have R5 : Hid (Rd w5 w5.heap.size 1 A2 n2 (l2.map B8)) := (HR2.out.below BW5.out).more BW5.out.size
        clear hf hbk hid hdj hoi5 hob
        go_wp2_with (at_builtin
                     refine wpList_app rfl (.tmp 37) (.tmp 38) 38 rfl w5.heap.size 5 1 1 _ Try.underlying38 info8 rfl (by decide) (.slice (some ⟨w5.heap.size, 0, none⟩) 0 0) 0 [] rfl (World.ownsRow_lit w5 #[] 0 (Nat.le_refl _) (by simp [maxLen]) rfl) w5.heap.size A2 n2 c2 (l2.map B8) rfl (R5.out.alloc (Nat.le_refl _) _) (B8_one _) (by simp only [maxLen]; omega) (by omega) (by simp) ?_
                     intro A6 c6 w6 o6 g6 k6
                     have B6 : Hid (Below w5.heap.size w5 w6) := ((Below.refl _ _).alloc (Nat.le_refl _) _).grown g6 (by simp) (fun k hk => by simp [Value.ownBlock] at hk; omega)
                     rw [Nat.zero_add, List.nil_append] at o6
                     have R6 : Hid (Rd w6 w6.heap.size 1 A6 n2 (l2.map B8)) := Rd.of_own o6
                     clear o6 g6 k6)
        refine (read_any A6 n2 c6 l2 w6 R6.out (by omega)).mono ?_
        rintro e w7 ⟨g2, A7, c7, rfl, hg7, hrd, r7, b7, hc7⟩
        have B7 : Hid (Below w5.heap.size w5 w7) := B6.out.trans (b7.mono B6.out.size)
        have RR7 : Hid (RR w7 w7.heap.size g2 l2 0 0) := rr_new hrd r7 hc7 (by omega)
        have hg2 : Hid (w5.heap.size ≤ g2) := Nat.le_trans B6.out.size hg7
        have I7 : Hid (IdealAt w7 gi hs1 oi5 (ob ++ [g] ++ [g2])) := I5.out.keep (Fr.below (own := []) B7.out) (fun _ h => absurd h (by simp)) (fun _ h => absurd h (by simp)) (fun k hk => by
          rcases List.mem_append.1 hk with h | h
          · exact Or.inl h
          · simp at h; exact Or.inr (by rw [h]; exact hg2.out))
        have K7 : Hid (BookAt w7 gb S ob (oi5 ++ [g] ++ [g2])) := K5.out.keep (Fr.below (own := []) B7.out) (fun _ h => absurd h (by simp)) (fun _ h => absurd h (by simp)) (fun k hk => by
          rcases List.mem_append.1 hk with h | h
          · exact Or.inl h
          · simp at h; exact Or.inr (by rw [h]; exact hg2.out))
        have hgo2 : Hid (g2 ∉ oi5) := fun hm => by have h1 := OL5.out g2 hm; have h2 := hg2.out; omega
        have hgb2 : Hid (g2 ∉ ob) := fun hm => by have h1 := OB5.out g2 hm; have h2 := hg2.out; omega
        have BW7 : Hid (Below w.heap.size w w7) := BW5.out.trans (B7.out.mono BW5.out.size)
        clear hrd r7 b7 hg7 R6 B6
        go_wp2_with fail
        refine (get_ gi hs1 oi5 (ob ++ [g] ++ [g2]) w7.heap.size g2 l2 (g2 :: oi5) w7 I7.out (fun k hk => List.mem_cons_of_mem _ hk) hgo2.out (by simp) (fun k hk => by
          rcases List.mem_append.1 hk with h | h
          · rcases List.mem_append.1 h with h | h
            · exact Nat.lt_of_lt_of_le (OB5.out k h) B7.out.size
            · simp at h; rw [h]; exact Nat.lt_of_lt_of_le g5.out B7.out.size
          · simp at h; rw [h]; exact RR7.out.lt) (by have := hhs.out; omega) RR7.out rfl (fun k hk => by
          rcases List.mem_cons.1 hk with h | h
          · rw [h]; exact RR7.out.lt
          · exact Nat.lt_of_lt_of_le (OL5.out k h) B7.out.size) (by simp) (by rw [hln2.out]; omega)).mono ?_
        rintro e w8 ⟨hRS, hcase⟩
        clear hRS
        rcases hcase with ⟨_, rfl, hf⟩ | ⟨_, hok⟩
        · have BW8 : Hid (Below w.heap.size w w8) := BW7.out.trans (hf.toBelow (fun k hk => by simp at hk; rw [hk]; exact Nat.le_trans BW5.out.size hg2.out) BW7.out.size)
          clear hf
          go_wp2_with fail
          refine (awake_ w8).mono ?_
          rintro e w9 ⟨rfl, b9⟩
          go_wp2_with fail
          go_ret
          exact ⟨rfl, BW8.out.trans (b9.mono BW8.out.size)⟩
        · obtain ⟨gc, oc, oi8, rfl, hoc, hoi8, hdj, hbk, hid, hf⟩ := hok
          obtain ⟨⟨T, hs2⟩, hTq⟩ : ∃ p, Hid (p = getS (parse l2).L [] hs1) := ⟨_, Lib.hid rfl⟩
          rw [← hTq.out] at hbk hid
          simp only at hbk hid
          have KC := Lib.hid hbk
          have KB : Hid (BookAt w8 gb S ob (oi5 ++ [g] ++ [g2])) := K7.out.keep hf (fun k hk => by
            rcases List.mem_cons.1 hk with h | h
            · simp [h]
            · simp [h]) (fun k hk => by
            rcases List.mem_cons.1 hk with h | h
            · rw [h]; exact hgb2.out
            · exact DJ.out k h) (fun k hk => Or.inl hk)
          have BW8 : Hid (Below w.heap.size w w8) := BW7.out.trans (hf.toBelow (fun k hk => by
            rcases List.mem_cons.1 hk with h | h
            · rw [h]; exact Nat.le_trans BW5.out.size hg2.out
            · exact OI5.out k h) BW7.out.size)
          clear hf hbk hid hdj hoi8 hoc K7 I7 K5 I5 I4 I1
          go_wp2_with fail
          refine (head_any gb S ob _ xa w8 KB.out).mono ?_
          rintro e w9 ⟨A9, m9, c9, rfl, r9, b9⟩
          have B9 := Lib.hid b9
          have R9 := Lib.hid r9
          clear b9 r9
          obtain ⟨m, hm⟩ : ∃ m, Hid (m = (ofA S xa).length) := ⟨_, Lib.hid rfl⟩
          rw [← hm.out]
          go_wp2_with fail
          obtain ⟨V, hV⟩ : ∃ V, Hid (V = w9.alloc (.cells #[.int .i64 (hau xa), .int .i64 m, .slice A9 m9 c9] 45)) := ⟨_, Lib.hid rfl⟩
          obtain ⟨GH, hGH⟩ : ∃ k, Hid (k = w9.heap.size) := ⟨_, Lib.hid rfl⟩
          rw [← hV.out, ← hGH.out]
          have BV0 : Hid (Below w8.heap.size w8 V) := by rw [hV.out]; exact B9.out.alloc B9.out.size _
          have BVw : Hid (Below w9.heap.size w9 V) := by rw [hV.out]; exact (Below.refl _ _).alloc (Nat.le_refl _) _
          have VG : Hid (V.heap[GH]? = some (.cells #[.int .i64 (hau xa), .int .i64 m, .slice A9 m9 c9] 45 (0, 0))) := by unfold Hid; rw [hV.out, hGH.out]; exact heap_alloc_new _ _
          have R9V : Hid (Rd V V.heap.size 1 A9 m9 ((lastDg (ofA S xa)).map B8)) := (R9.out.below BVw.out).more BVw.out.size
          have KC8 : Hid (BookAt V gc T oc (oi8 ++ (ob ++ [g] ++ [g2]))) := KC.out.below BV0.out
          have KB8 : Hid (BookAt V gb S ob (oi5 ++ [g] ++ [g2])) := KB.out.below BV0.out
          have BWV : Hid (Below w.heap.size w V) := BW8.out.trans (BV0.out.mono BW8.out.size)
          clear R9 KC KB BVw BV0
          by_cases hm0 : m = 0
          · have hz : ((m : Int) == 0) = true := by simp; exact hm0
            have c1 : V.cell? ⟨GH, 1, none⟩ = some (.int .i64 m) := cell_blk VG.out 1 rfl
            go_quiet (fail)
            go_wp2_with fail
            refine (awake_ (V.drewN nq)).mono ?_
            rintro e y1 ⟨rfl, by1⟩
            have BD : Below V.heap.size V (V.drewN nq) := below_drewN (Below.refl _ _) _
            go_wp2_with fail
            go_ret
            exact ⟨rfl, BWV.out.trans ((BD.trans (by1.mono BD.size)).mono BWV.out.size)⟩
          · have hz : ((m : Int) == 0) = false := by simp; exact hm0
            have hz' : ¬ ((m : Int) = 0) := by omega
            by_cases hsm : m = (ofA T xa).length ∧ lastDg (ofA S xa) = lastDg (ofA T xa)
            · have HSM := Lib.hid hsm
              have HEQ : Hid (ofA S xa = ofA T xa) := bound_law (l1 := l) (l2 := l2) (by rw [hln.out]; exact h4) (by rw [hln2.out]; exact h5) xa S T hs1 hs2 hSq.out.symm hTq.out.symm (by rw [← hm.out]; exact hsm.1) hsm.2
              clear hsm
              obtain ⟨X, hX⟩ : ∃ W, Hid (W = V.drew) := ⟨_, Lib.hid rfl⟩
              have dX : Below V.heap.size V X := by rw [hX.out]; exact below_drew (Below.refl _ _)
              have XG : Hid (X.heap[GH]? = some (.cells #[.int .i64 (hau xa), .int .i64 m, .slice A9 m9 c9] 45 (0, 0))) := (dX.block GH (lt_of_blk VG.out)).trans VG.out
              have KCX := Lib.hid (KC8.out.below dX)
              have R9X : Hid (Rd X X.heap.size 1 A9 m9 ((lastDg (ofA S xa)).map B8)) := (R9V.out.below dX).more dX.size
              have BX0 := Lib.hid dX
              refine wp_region_noPanic ?_
              refine wp_region_held_drew (S := fun w' => Below X.heap.size X w') (by kernel_rfl) (by rw [← hX.out]; exact Below.refl _ _) (fun hS => ?_)
              rw [← hX.out]
              clear hS
              have hS : Below X.heap.size X X := Below.refl _ _
              refine wpAnyH_take (i := 0) (v := ?ve0) rfl (by kernel_rfl) (by kernel_rfl) (by kernel_rfl) (fun _ _ _ h => h) (Or.inl ⟨by rfl, ?hye0⟩) hS ?reste0
              case hye0 => (intro w' hSw; go_simp; first | done | with_reducible rfl)
              try simp only [Act.put, List.getElem_toArray, List.getElem_cons_zero, List.getElem_cons_succ, List.setIfInBounds_toArray, List.set_cons_zero, List.set_cons_succ]
              refine wpAnyH_take (i := 1) (v := .int .i64 m) rfl (by kernel_rfl) (by kernel_rfl) (by kernel_rfl) (fun _ _ _ h => h) (Or.inl ⟨by rfl, ?hye1⟩) hS ?reste1
              case hye1 => (intro w' hSw; have c1 : w'.cell? ⟨GH, 1, none⟩ = some (.int .i64 m) := cell_blk ((hSw.block GH (lt_of_blk XG.out)).trans XG.out) 1 rfl; go_simp; first | done | with_reducible rfl)
              try simp only [Act.put, List.getElem_toArray, List.getElem_cons_zero, List.getElem_cons_succ, List.setIfInBounds_toArray, List.set_cons_zero, List.set_cons_succ]
              refine wpAnyH_take (i := 2) (v := .bool false) rfl (by kernel_rfl) (by kernel_rfl) (by kernel_rfl) (fun _ _ _ h => h) (Or.inl ⟨by rfl, ?hye2⟩) hS ?reste2
              case hye2 => (intro w' hSw; go_simp; first | done | with_reducible rfl)
              try simp only [Act.put, List.getElem_toArray, List.getElem_cons_zero, List.getElem_cons_succ, List.setIfInBounds_toArray, List.set_cons_zero, List.set_cons_succ]
              refine wpAnyH_take (i := 3) (v := .bool false) rfl (by kernel_rfl) (by kernel_rfl) (by kernel_rfl) (fun _ _ _ h => h) (Or.inl ⟨by rfl, ?hye3⟩) hS ?reste3
              case hye3 => (intro w' hSw; go_simp; first | done | with_reducible rfl)
              try simp only [Act.put, List.getElem_toArray, List.getElem_cons_zero, List.getElem_cons_succ, List.setIfInBounds_toArray, List.set_cons_zero, List.set_cons_succ]
              refine wpAnyH_take (i := 4) (v := .agg #[.int .i64 (hau xa), .int .i64 m, .slice A9 m9 c9]) rfl (by kernel_rfl) (by kernel_rfl) (by kernel_rfl) (fun _ _ _ h => h) (Or.inl ⟨by rfl, ?hye4⟩) hS ?reste4
              case hye4 => (intro w' hSw; have c0 : w'.cell? ⟨GH, 0, none⟩ = some (.int .i64 (hau xa)) := cell_blk ((hSw.block GH (lt_of_blk XG.out)).trans XG.out) 0 rfl; have c1 : w'.cell? ⟨GH, 1, none⟩ = some (.int .i64 m) := cell_blk ((hSw.block GH (lt_of_blk XG.out)).trans XG.out) 1 rfl; have c2 : w'.cell? ⟨GH, 2, none⟩ = some (.slice A9 m9 c9) := cell_blk ((hSw.block GH (lt_of_blk XG.out)).trans XG.out) 2 rfl; go_simp; first | done | with_reducible rfl)
              try simp only [Act.put, List.getElem_toArray, List.getElem_cons_zero, List.getElem_cons_succ, List.setIfInBounds_toArray, List.set_cons_zero, List.set_cons_succ]
              refine wpAnyH_take (i := 5) (v := ?ve5) rfl (by kernel_rfl) (by kernel_rfl) (by kernel_rfl) (fun _ _ _ h => h) (Or.inl ⟨by rfl, ?hye5⟩) hS ?reste5
              case hye5 => (intro w' hSw; go_simp; first | done | with_reducible rfl)
              try simp only [Act.put, List.getElem_toArray, List.getElem_cons_zero, List.getElem_cons_succ, List.setIfInBounds_toArray, List.set_cons_zero, List.set_cons_succ]
              refine wpAnyH_take (i := 6) (v := ?ve6) rfl (by kernel_rfl) (by kernel_rfl) (by kernel_rfl) (fun _ _ _ h => h) (Or.inl ⟨by rfl, ?hye6⟩) hS ?reste6
              case hye6 => (intro w' hSw; go_simp; first | done | with_reducible rfl)
              try simp only [Act.put, List.getElem_toArray, List.getElem_cons_zero, List.getElem_cons_succ, List.setIfInBounds_toArray, List.set_cons_zero, List.set_cons_succ]
              refine wpAnyH_ready (rs := [7]) (by kernel_rfl) (by simp) ?_
              refine AllReadyH.cons rfl (fun K hK => ?_) AllReadyH.nil
              go_simp
              refine (head_any gc T oc _ xa X (KCX.out.below (Below.refl _ _))).mono ?_
              rintro e ye1 ⟨A10, m10, c10, rfl, r10, bk⟩
              have R10 := Lib.hid r10
              clear r10
              go_wp2_with fail
              have Be1 := Lib.hid bk
              refine hK.out _ _ bk ?_
              intro hS
              clear hK K hS bk
              try simp only [Act.put, List.getElem_toArray, List.getElem_cons_zero, List.getElem_cons_succ, List.setIfInBounds_toArray, List.set_cons_zero, List.set_cons_succ]
              refine wpAnyH_strong (S2 := fun w' => Below ye1.heap.size ye1 w') (fun w' h' => Be1.out.trans (h'.mono Be1.out.size)) _ _ _ _ ?_
              have hS : Below ye1.heap.size ye1 ye1 := Below.refl _ _
              refine wpAnyH_ready (rs := [8]) (by kernel_rfl) (by simp) ?_
              refine AllReadyH.cons rfl (fun K hK => ?_) AllReadyH.nil
              go_simp
              refine (sameHead_ (hau xa) m A9 m9 c9 (lastDg (ofA S xa)) (hau xa) (ofA T xa).length A10 m10 c10 (lastDg (ofA T xa)) ye1 (R9X.out.to Be1.out) (R10.out.to (Below.refl _ _))).mono ?_
              rintro e ye2 ⟨rfl, bk⟩
              rw [show decide (hau xa = hau xa ∧ (m : Int) = (ofA T xa).length ∧ lastDg (ofA S xa) = lastDg (ofA T xa)) = true from decide_eq_true ⟨rfl, by rw [HSM.out.1], HSM.out.2⟩]
              go_wp2_with fail
              have Be2 := Lib.hid bk
              refine hK.out _ _ bk ?_
              intro hS
              clear hK K hS bk
              try simp only [Act.put, List.getElem_toArray, List.getElem_cons_zero, List.getElem_cons_succ, List.setIfInBounds_toArray, List.set_cons_zero, List.set_cons_succ]
              refine wpAnyH_strong (S2 := fun w' => Below ye2.heap.size ye2 w') (fun w' h' => Be2.out.trans (h'.mono Be2.out.size)) _ _ _ _ ?_
              have hS : Below ye2.heap.size ye2 ye2 := Below.refl _ _
              refine wpAnyH_take (i := 9) (v := .bool false) rfl (by kernel_rfl) (by kernel_rfl) (by kernel_rfl) (fun _ _ _ h => h) (Or.inl ⟨by rfl, ?hye9⟩) hS ?reste9
              case hye9 => (intro w' hSw; go_simp; first | done | with_reducible rfl)
              try simp only [Act.put, List.getElem_toArray, List.getElem_cons_zero, List.getElem_cons_succ, List.setIfInBounds_toArray, List.set_cons_zero, List.set_cons_succ]
              refine wpAnyH_take (i := 10) (v := .bool false) rfl (by kernel_rfl) (by kernel_rfl) (by kernel_rfl) (fun _ _ _ h => h) (Or.inl ⟨by rfl, ?hye10⟩) hS ?reste10
              case hye10 => (intro w' hSw; go_simp; first | done | with_reducible rfl)
              try simp only [Act.put, List.getElem_toArray, List.getElem_cons_zero, List.getElem_cons_succ, List.setIfInBounds_toArray, List.set_cons_zero, List.set_cons_succ]
              refine wpAnyH_done (by kernel_rfl) (NoPanic.normal ?_) _
              have BXt : Hid (Below V.heap.size V ye2) := BX0.out.trans ((Be1.out.trans (Be2.out.mono Be1.out.size)).mono BX0.out.size)
              have BYt : Hid (Below X.heap.size X ye2) := (Be1.out.trans (Be2.out.mono Be1.out.size))
              obtain ⟨Y, hY⟩ : ∃ Y, Hid (Y = ye2) := ⟨_, Lib.hid rfl⟩
              rw [← hY.out] at BXt BYt ⊢
              have BWY : Hid (Below w.heap.size w Y) := BWV.out.trans (BXt.out.mono BWV.out.size)
              have KBY : Hid (BookAt Y gb S ob (oi5 ++ [g] ++ [g2])) := KB8.out.below BXt.out
              have KCY : Hid (BookAt Y gc T oc (oi8 ++ (ob ++ [g] ++ [g2]))) := KC8.out.below BXt.out
              have GY : Hid (Y.heap[GH]? = some (.cells #[.int .i64 (hau xa), .int .i64 m, .slice A9 m9 c9] 45 (0, 0))) := (BXt.out.block GH (lt_of_blk VG.out)).trans VG.out
              have hml : Hid (m ≤ 4000) := by
                have h1 := getS_len (parse l).L [] []
                have h2 := (parse_ok l).len
                have h3 := (parse_ok l).at_
                have h4 := hln.out
                have h5 := ofA_len S xa
                have h6 := hm.out
                rw [← hSq.out] at h1
                simp only [List.length_nil] at h1
                unfold Hid
                omega
              have hAD : Hid (∀ q, atD T xa q = atD S xa q ∧ atE T xa q = atE S xa q) := fun q => by unfold atD atE atK; rw [HEQ.out]; exact ⟨rfl, rfl⟩
              clear hz hz' hm0 HSM BXt BYt KB8 KC8 VG XG KCX R9X R9V
              go_wp2_with fail
              go_loopw [11] (fun x11 wr => ∃ (j : Nat), x11 = .int .i64 ((j + 1 : Nat) : Int) ∧ j ≤ m ∧ Hid (Below Y.heap.size Y wr)) (fun x11 _ => m + 1 - (intOf x11).toNat)
              case atStart => exact ⟨0, rfl, by omega, Below.refl _ _⟩
              case round =>
                obtain ⟨j, rfl, hj, hzj⟩ := hrel
                obtain ⟨wo, hwo⟩ : ∃ wo, wo = wr := ⟨wr, rfl⟩
                subst hwo
                have g1 : wo.cell? ⟨GH, 1, none⟩ = some (.int .i64 m) := cell_blk ((hzj.out.block GH (lt_of_blk GY.out)).trans GY.out) 1 rfl
                by_cases hjn : j < m
                · have hjn' : ((j + 1 : Nat) : Int) ≤ (m : Int) := by omega
                  have e11 : IntKind.i64.wrap ((j : Int) + 1 + 1) = ((j + 1 + 1 : Nat) : Int) := by have h1 := hml.out; rw [IntWalk.i64_in _ (by omega)]; omega
                  have e10 : IntKind.i64.wrap (((j + 1 : Nat) : Int) + 1) = ((j + 1 + 1 : Nat) : Int) := by have h1 := hml.out; rw [IntWalk.i64_in _ (by omega)]; omega
                  go_wp2_with fail
                  refine (at_any gb S ob _ xa ((j : Int) + 1) wo (KBY.out.below hzj.out) HXA.out).mono ?_
                  rintro e y1 ⟨D1, d1, k1, rfl, r1, by1⟩
                  have BY1 := Lib.hid by1
                  have RD1 := Lib.hid r1
                  clear by1 r1 g1
                  go_wp2_with fail
                  refine (at_any gc T oc _ xa ((j : Int) + 1) y1 (KCY.out.below (hzj.out.trans (BY1.out.mono hzj.out.size))) HXA.out).mono ?_
                  rintro e y2 ⟨D2, d2, k2, rfl, r2, by2⟩
                  rw [(hAD.out _).1] at r2
                  rw [(hAD.out _).2]
                  have BY2 := Lib.hid by2
                  have q1 := conv8 y2 D1 d1 k1 _ (RD1.out.to by2)
                  have q2 := conv8 y2 D2 d2 k2 _ r2
                  clear by2 r2
                  go_wp2_with fail
                  have hzj' : Hid (Below Y.heap.size Y y2) := (hzj.out.trans (BY1.out.mono hzj.out.size)).trans (BY2.out.mono (Nat.le_trans hzj.out.size BY1.out.size))
                  go_roundw
                  case rel => exact ⟨j + 1, by congr 1, by omega, hzj'⟩
                  case measure => simp only [intOf]; omega
                · have hjn' : ¬ ((j + 1 : Nat) : Int) ≤ (m : Int) := by omega
                  go_wp2_with fail
                  refine (awake_ wo).mono ?_
                  rintro e y1 ⟨rfl, by1⟩
                  go_wp2_with fail
                  go_ret
                  exact ⟨rfl, BWY.out.trans ((hzj.out.trans (by1.mono hzj.out.size)).mono BWY.out.size)⟩
            · have HNS := Lib.hid hsm
              clear hsm
              obtain ⟨X, hX⟩ : ∃ W, Hid (W = V.drew) := ⟨_, Lib.hid rfl⟩
              have dX : Below V.heap.size V X := by rw [hX.out]; exact below_drew (Below.refl _ _)
              have XG : Hid (X.heap[GH]? = some (.cells #[.int .i64 (hau xa), .int .i64 m, .slice A9 m9 c9] 45 (0, 0))) := (dX.block GH (lt_of_blk VG.out)).trans VG.out
              have KCX := Lib.hid (KC8.out.below dX)
              have R9X : Hid (Rd X X.heap.size 1 A9 m9 ((lastDg (ofA S xa)).map B8)) := (R9V.out.below dX).more dX.size
              have BX0 := Lib.hid dX
              refine wp_region_noPanic ?_
              refine wp_region_held_drew (S := fun w' => Below X.heap.size X w') (by kernel_rfl) (by rw [← hX.out]; exact Below.refl _ _) (fun hS => ?_)
              rw [← hX.out]
              clear hS
              have hS : Below X.heap.size X X := Below.refl _ _
              refine wpAnyH_take (i := 0) (v := ?vn0) rfl (by kernel_rfl) (by kernel_rfl) (by kernel_rfl) (fun _ _ _ h => h) (Or.inl ⟨by rfl, ?hyn0⟩) hS ?restn0
              case hyn0 => (intro w' hSw; go_simp; first | done | with_reducible rfl)
              try simp only [Act.put, List.getElem_toArray, List.getElem_cons_zero, List.getElem_cons_succ, List.setIfInBounds_toArray, List.set_cons_zero, List.set_cons_succ]
              refine wpAnyH_take (i := 1) (v := .int .i64 m) rfl (by kernel_rfl) (by kernel_rfl) (by kernel_rfl) (fun _ _ _ h => h) (Or.inl ⟨by rfl, ?hyn1⟩) hS ?restn1
              case hyn1 => (intro w' hSw; have c1 : w'.cell? ⟨GH, 1, none⟩ = some (.int .i64 m) := cell_blk ((hSw.block GH (lt_of_blk XG.out)).trans XG.out) 1 rfl; go_simp; first | done | with_reducible rfl)
              try simp only [Act.put, List.getElem_toArray, List.getElem_cons_zero, List.getElem_cons_succ, List.setIfInBounds_toArray, List.set_cons_zero, List.set_cons_succ]
              refine wpAnyH_take (i := 2) (v := .bool false) rfl (by kernel_rfl) (by kernel_rfl) (by kernel_rfl) (fun _ _ _ h => h) (Or.inl ⟨by rfl, ?hyn2⟩) hS ?restn2
              case hyn2 => (intro w' hSw; go_simp; first | done | with_reducible rfl)
              try simp only [Act.put, List.getElem_toArray, List.getElem_cons_zero, List.getElem_cons_succ, List.setIfInBounds_toArray, List.set_cons_zero, List.set_cons_succ]
              refine wpAnyH_take (i := 3) (v := .bool false) rfl (by kernel_rfl) (by kernel_rfl) (by kernel_rfl) (fun _ _ _ h => h) (Or.inl ⟨by rfl, ?hyn3⟩) hS ?restn3
              case hyn3 => (intro w' hSw; go_simp; first | done | with_reducible rfl)
              try simp only [Act.put, List.getElem_toArray, List.getElem_cons_zero, List.getElem_cons_succ, List.setIfInBounds_toArray, List.set_cons_zero, List.set_cons_succ]
              refine wpAnyH_take (i := 4) (v := .agg #[.int .i64 (hau xa), .int .i64 m, .slice A9 m9 c9]) rfl (by kernel_rfl) (by kernel_rfl) (by kernel_rfl) (fun _ _ _ h => h) (Or.inl ⟨by rfl, ?hyn4⟩) hS ?restn4
              case hyn4 => (intro w' hSw; have c0 : w'.cell? ⟨GH, 0, none⟩ = some (.int .i64 (hau xa)) := cell_blk ((hSw.block GH (lt_of_blk XG.out)).trans XG.out) 0 rfl; have c1 : w'.cell? ⟨GH, 1, none⟩ = some (.int .i64 m) := cell_blk ((hSw.block GH (lt_of_blk XG.out)).trans XG.out) 1 rfl; have c2 : w'.cell? ⟨GH, 2, none⟩ = some (.slice A9 m9 c9) := cell_blk ((hSw.block GH (lt_of_blk XG.out)).trans XG.out) 2 rfl; go_simp; first | done | with_reducible rfl)
              try simp only [Act.put, List.getElem_toArray, List.getElem_cons_zero, List.getElem_cons_succ, List.setIfInBounds_toArray, List.set_cons_zero, List.set_cons_succ]
              refine wpAnyH_take (i := 5) (v := ?vn5) rfl (by kernel_rfl) (by kernel_rfl) (by kernel_rfl) (fun _ _ _ h => h) (Or.inl ⟨by rfl, ?hyn5⟩) hS ?restn5
              case hyn5 => (intro w' hSw; go_simp; first | done | with_reducible rfl)
              try simp only [Act.put, List.getElem_toArray, List.getElem_cons_zero, List.getElem_cons_succ, List.setIfInBounds_toArray, List.set_cons_zero, List.set_cons_succ]
              refine wpAnyH_take (i := 6) (v := ?vn6) rfl (by kernel_rfl) (by kernel_rfl) (by kernel_rfl) (fun _ _ _ h => h) (Or.inl ⟨by rfl, ?hyn6⟩) hS ?restn6
              case hyn6 => (intro w' hSw; go_simp; first | done | with_reducible rfl)
              try simp only [Act.put, List.getElem_toArray, List.getElem_cons_zero, List.getElem_cons_succ, List.setIfInBounds_toArray, List.set_cons_zero, List.set_cons_succ]
              refine wpAnyH_ready (rs := [7]) (by kernel_rfl) (by simp) ?_
              refine AllReadyH.cons rfl (fun K hK => ?_) AllReadyH.nil
              go_simp
              refine (head_any gc T oc _ xa X (KCX.out.below (Below.refl _ _))).mono ?_
              rintro e yn1 ⟨A10, m10, c10, rfl, r10, bk⟩
              have R10 := Lib.hid r10
              clear r10
              go_wp2_with fail
              have Bn1 := Lib.hid bk
              refine hK.out _ _ bk ?_
              intro hS
              clear hK K hS bk
              try simp only [Act.put, List.getElem_toArray, List.getElem_cons_zero, List.getElem_cons_succ, List.setIfInBounds_toArray, List.set_cons_zero, List.set_cons_succ]
              refine wpAnyH_strong (S2 := fun w' => Below yn1.heap.size yn1 w') (fun w' h' => Bn1.out.trans (h'.mono Bn1.out.size)) _ _ _ _ ?_
              have hS : Below yn1.heap.size yn1 yn1 := Below.refl _ _
              refine wpAnyH_ready (rs := [8]) (by kernel_rfl) (by simp) ?_
              refine AllReadyH.cons rfl (fun K hK => ?_) AllReadyH.nil
              go_simp
              refine (sameHead_ (hau xa) m A9 m9 c9 (lastDg (ofA S xa)) (hau xa) (ofA T xa).length A10 m10 c10 (lastDg (ofA T xa)) yn1 (R9X.out.to Bn1.out) (R10.out.to (Below.refl _ _))).mono ?_
              rintro e yn2 ⟨rfl, bk⟩
              rw [show decide (hau xa = hau xa ∧ (m : Int) = (ofA T xa).length ∧ lastDg (ofA S xa) = lastDg (ofA T xa)) = false from decide_eq_false (fun h => HNS.out ⟨by have := h.2.1; omega, h.2.2⟩)]
              go_wp2_with fail
              have Bn2 := Lib.hid bk
              refine hK.out _ _ bk ?_
              intro hS
              clear hK K hS bk
              try simp only [Act.put, List.getElem_toArray, List.getElem_cons_zero, List.getElem_cons_succ, List.setIfInBounds_toArray, List.set_cons_zero, List.set_cons_succ]
              refine wpAnyH_strong (S2 := fun w' => Below yn2.heap.size yn2 w') (fun w' h' => Bn2.out.trans (h'.mono Bn2.out.size)) _ _ _ _ ?_
              have hS : Below yn2.heap.size yn2 yn2 := Below.refl _ _
              refine wpAnyH_take (i := 9) (v := .bool true) rfl (by kernel_rfl) (by kernel_rfl) (by kernel_rfl) (fun _ _ _ h => h) (Or.inl ⟨by rfl, ?hyn9⟩) hS ?restn9
              case hyn9 => (intro w' hSw; go_simp; first | done | with_reducible rfl)
              try simp only [Act.put, List.getElem_toArray, List.getElem_cons_zero, List.getElem_cons_succ, List.setIfInBounds_toArray, List.set_cons_zero, List.set_cons_succ]
              refine wpAnyH_take (i := 10) (v := .bool true) rfl (by kernel_rfl) (by kernel_rfl) (by kernel_rfl) (fun _ _ _ h => h) (Or.inl ⟨by rfl, ?hyn10⟩) hS ?restn10
              case hyn10 => (intro w' hSw; go_simp; first | done | with_reducible rfl)
              try simp only [Act.put, List.getElem_toArray, List.getElem_cons_zero, List.getElem_cons_succ, List.setIfInBounds_toArray, List.set_cons_zero, List.set_cons_succ]
              refine wpAnyH_done (by kernel_rfl) (NoPanic.normal ?_) _
              have BXt : Hid (Below V.heap.size V yn2) := BX0.out.trans ((Bn1.out.trans (Bn2.out.mono Bn1.out.size)).mono BX0.out.size)
              have BYt : Hid (Below X.heap.size X yn2) := (Bn1.out.trans (Bn2.out.mono Bn1.out.size))
              obtain ⟨Y, hY⟩ : ∃ Y, Hid (Y = yn2) := ⟨_, Lib.hid rfl⟩
              rw [← hY.out] at BXt BYt ⊢
              go_wp2_with fail
              refine (awake_ Y).mono ?_
              rintro e y1 ⟨rfl, by1⟩
              go_wp2_with fail
              go_ret
              exact ⟨rfl, BWV.out.trans ((BXt.out.trans (by1.mono BXt.out.size)).mono BWV.out.size)⟩
    · have h5' : (4000 : Int) < n2 := by omega
      go_wp2_with fail
      refine (awake_ w).mono ?_
      rintro e w2 ⟨rfl, b2⟩
      go_wp2_with fail
      go_ret
      exact ⟨rfl, b2⟩
  · have h4' : (4000 : Int) < n := by omega
    go_wp2_with fail
    refine (awake_ w).mono ?_
    rintro e w2 ⟨rfl, b2⟩
    go_wp2_with fail
    go_ret
    exact ⟨rfl, b2⟩
end Go.Proofs.Ytabcbpcfleociaa
