/- The plain law of chains: links, books, digests; no program in sight. -/
import Derived.Test.YtabcbpcfleociaaMWirP
import Derived.Test.YtabcbpcfleociaaMWk
import Derived.Test.YtabcbpcfleociaaMSui
import Derived.Test.YtabcbpcfleociaaMReg
import Derived.Test.YtabcbpcfleociaaMMap
import Derived.Deep.MidRow
namespace Go.Proofs.Ytabcbpcfleociaa
set_option linter.unusedSimpArgs false
set_option linter.unusedVariables false
/-- A link. -/
structure Ln where
  au : Int
  sq : Int
  ep : Int
  pv : List UInt8
  bd : List UInt8
/-- What is known of a link. -/
structure Kn where
  dg : List UInt8
  bd : List UInt8
  ep : Int
/-- A known link that may be in a book. -/
structure Kn.ok (k : Kn) : Prop where
  dg : k.dg.length = 32
  bd : k.bd.length = 32
  lo : 1 ≤ k.ep
  hi : k.ep ≤ 65536
/-- Links in the order in which they came, with their authors. -/
abbrev Bk := List (Int × Kn)
def ofA (S : Bk) (a : Int) : List Kn := (S.filter fun x => x.1 == a).map (·.2)
theorem ofA_nil (a : Int) : ofA [] a = [] := rfl
theorem ofA_app (S T : Bk) (a : Int) : ofA (S ++ T) a = ofA S a ++ ofA T a := by simp [ofA]
theorem ofA_one (b : Int) (k : Kn) (a : Int) : ofA [(b, k)] a = if b = a then [k] else [] := by
  unfold ofA
  by_cases h : b = a <;> simp [h]
theorem ofA_len (S : Bk) (a : Int) : (ofA S a).length ≤ S.length := by
  unfold ofA
  rw [List.length_map]
  exact List.length_filter_le _ _
theorem mem_ofA {S : Bk} {a : Int} {k : Kn} : k ∈ ofA S a ↔ (a, k) ∈ S := by
  unfold ofA
  constructor
  · intro h
    obtain ⟨x, h1, rfl⟩ := List.mem_map.1 h
    obtain ⟨h2, h3⟩ := List.mem_filter.1 h1
    obtain rfl : x.1 = a := by simpa using h3
    exact h2
  · intro h
    exact List.mem_map.2 ⟨(a, k), List.mem_filter.2 ⟨h, by simp⟩, rfl⟩
/-- A book whose links may all be. -/
structure Bk.ok (S : Bk) : Prop where
  au : ∀ x ∈ S, 0 ≤ x.1 ∧ x.1 < 5
  kn : ∀ x ∈ S, x.2.ok
theorem Bk.ok.nil : Bk.ok [] := ⟨by simp, by simp⟩
theorem Bk.ok.app {S : Bk} (h : Bk.ok S) {a : Int} {k : Kn} (ha : 0 ≤ a ∧ a < 5) (hk : k.ok) : Bk.ok (S ++ [(a, k)]) := by
  constructor
  · intro x hx
    rcases List.mem_append.1 hx with h1 | h1
    · exact h.au x h1
    · obtain rfl : x = (a, k) := by simpa using h1
      exact ha
  · intro x hx
    rcases List.mem_append.1 hx with h1 | h1
    · exact h.kn x h1
    · obtain rfl : x = (a, k) := by simpa using h1
      exact hk
theorem Bk.ok.of {S : Bk} (h : Bk.ok S) {a : Int} {k : Kn} (hk : k ∈ ofA S a) : k.ok := h.kn _ (mem_ofA.1 hk)
theorem Bk.ok.out {S : Bk} (h : Bk.ok S) {a : Int} (ha : ¬ (0 ≤ a ∧ a < 5)) : ofA S a = [] := by
  rcases e : ofA S a with _ | ⟨k, t⟩
  · rfl
  · exact absurd (h.au _ (mem_ofA.1 (by rw [e]; exact List.mem_cons_self))) ha
/-- May a link be? -/
def rightL (l : Ln) : Prop := (0 ≤ l.au ∧ l.au < 5 ∧ 1 ≤ l.sq ∧ l.sq ≤ 1048576 ∧ 1 ≤ l.ep ∧ l.ep ≤ 65536) ∧ l.bd.length = 32 ∧ (l.sq = 1 ∧ l.pv.length = 0 ∨ l.pv.length = 32)
instance (l : Ln) : Decidable (rightL l) := by unfold rightL; infer_instance
end Go.Proofs.Ytabcbpcfleociaa

/- What a book answers: plain; a link's bytes, its digest, whether it goes on. -/
namespace Go.Proofs.Ytabcbpcfleociaa
set_option linter.unusedSimpArgs false
set_option linter.unusedVariables false
/-- What a link's digest is the hash of. -/
def bytesL (l : Ln) : List UInt8 := numL l.au ++ numL l.sq ++ numL l.ep ++ textL l.pv ++ textL l.bd
/-- A link's digest, where 'hs' was hashed. -/
def digL (hs : List (List UInt8)) (l : Ln) : List UInt8 := hname (hs.idxOf (bytesL l) + 1)
theorem digL_len (hs : List (List UInt8)) (l : Ln) : (digL hs l).length = 32 := hname_len _
def lastDg (L : List Kn) : List UInt8 := (L.getLast?.map (·.dg)).getD []
def lastEp (L : List Kn) : Int := (L.getLast?.map (·.ep)).getD 0
/-- Why a link does not go on; 0: it does. -/
def checkE (S : Bk) (hs : List (List UInt8)) (l : Ln) : Int :=
  if rightL l then
    if l.sq ≤ (ofA S l.au).length then if (ofA S l.au)[(l.sq - 1).toNat]?.map (·.dg) = some (digL hs l) then 16 else 18
    else if ((ofA S l.au).length : Int) + 1 < l.sq then 15
    else if lastDg (ofA S l.au) = l.pv then if l.ep < lastEp (ofA S l.au) then 20 else 0
    else 17
  else 1
/-- What is hashed behind the look at a link. -/
def checkH (S : Bk) (hs : List (List UInt8)) (l : Ln) : List (List UInt8) := if rightL l ∧ l.sq ≤ (ofA S l.au).length then note hs (bytesL l) else hs
/-- What is made known of a link. -/
def knL (hs : List (List UInt8)) (l : Ln) : Kn := ⟨digL hs l, l.bd, l.ep⟩
def takeS (S : Bk) (hs : List (List UInt8)) (l : Ln) : Bk := if checkE S hs l = 0 then S ++ [(l.au, knL hs l)] else S
def takeH (S : Bk) (hs : List (List UInt8)) (l : Ln) : List (List UInt8) := if checkE S hs l = 0 then note hs (bytesL l) else checkH S hs l
theorem note_len (hs : List (List UInt8)) (b : List UInt8) : (note hs b).length ≤ hs.length + 1 := by unfold note; split <;> simp
theorem checkH_len (S : Bk) (hs : List (List UInt8)) (l : Ln) : (checkH S hs l).length ≤ hs.length + 1 := by
  unfold checkH
  split
  · exact note_len _ _
  · omega
theorem takeH_len (S : Bk) (hs : List (List UInt8)) (l : Ln) : (takeH S hs l).length ≤ hs.length + 1 := by
  unfold takeH
  split
  · exact note_len _ _
  · exact checkH_len _ _ _
theorem takeS_len (S : Bk) (hs : List (List UInt8)) (l : Ln) : (takeS S hs l).length ≤ S.length + 1 := by unfold takeS; split <;> simp
theorem checkE_right {S : Bk} {hs : List (List UInt8)} {l : Ln} (h : checkE S hs l = 0) : rightL l := by
  unfold checkE at h
  split at h
  · assumption
  · omega
theorem knL_ok (hs : List (List UInt8)) {l : Ln} (h : rightL l) : (knL hs l).ok := ⟨digL_len _ _, h.2.1, h.1.2.2.2.2.1, h.1.2.2.2.2.2⟩
theorem takeS_ok {S : Bk} (hS : S.ok) (hs : List (List UInt8)) (l : Ln) : (takeS S hs l).ok := by
  unfold takeS
  split
  · rename_i h
    have hr := checkE_right h
    exact hS.app ⟨hr.1.1, hr.1.2.1⟩ (knL_ok hs hr)
  · exact hS
theorem bytesL_len {l : Ln} (h : rightL l) : (bytesL l).length ≤ 100 := by
  have h1 := numL_len l.au
  have h2 := numL_len l.sq
  have h3 := numL_len l.ep
  have h4 := numL_len l.pv.length
  have h5 := numL_len l.bd.length
  obtain ⟨_, hb, hp⟩ := h
  unfold bytesL textL
  simp only [List.length_append]
  omega
end Go.Proofs.Ytabcbpcfleociaa

/- May a link be: the program's answer. -/
namespace Go.Proofs.Ytabcbpcfleociaa
open Go.RowKit
attribute [local go_sem ↓] Go.wp_at_zero Go.wp_at_succ
set_option linter.unusedSimpArgs false
set_option linter.unusedVariables false
def rightN (au sq ep : Int) (n m : Nat) : Prop := (0 ≤ au ∧ au < 5 ∧ 1 ≤ sq ∧ sq ≤ 1048576 ∧ 1 ≤ ep ∧ ep ≤ 65536) ∧ m = 32 ∧ (sq = 1 ∧ n = 0 ∨ n = 32)
instance (au sq ep : Int) (n m : Nat) : Decidable (rightN au sq ep n m) := by unfold rightN; infer_instance
set_option maxHeartbeats 2000000 in
theorem right_ (au sq ep : Int) (A : Option Addr) (n c : Nat) (B : Option Addr) (m d : Nat) (w : World) :
    Calls Try.prog 28 #[.agg #[.int .i64 au, .int .i64 sq, .int .i64 ep, .slice A n c, .slice B m d]] w fun e w' => e = .returned (.bool (decide (rightN au sq ep n m))) ∧ Below w.heap.size w w' := by
  have hb : Below w.heap.size w (w.alloc (.cells #[.int .i64 au, .int .i64 sq, .int .i64 ep, .slice A n c, .slice B m d] 40)) := (Below.refl _ _).alloc (Nat.le_refl _) _
  go_enter Try.func28, Try.ntmps28
  go_wp2
  all_goals go_ret
  all_goals
    refine ⟨congrArg (fun b => Ending.returned (Value.bool b)) ?_, (Below.refl _ _).alloc (Nat.le_refl _) _⟩
    refine Bool.eq_iff_iff.2 ?_
    rw [decide_eq_true_iff]
    unfold rightN
    simp [*] <;> omega
end Go.Proofs.Ytabcbpcfleociaa

/- A link's digest: the program's. (Printed by gen_chb.py.) -/
namespace Go.Proofs.Ytabcbpcfleociaa
open Go.RowKit Go.Maps
attribute [local go_sem ↓] Go.wp_at_zero Go.wp_at_succ
set_option linter.unusedSimpArgs false
set_option linter.unusedVariables false
/-- A link as a value. -/
def lnV (l : Ln) (A : Option Addr) (n c : Nat) (B : Option Addr) (m d : Nat) : Value := .agg #[.int .i64 l.au, .int .i64 l.sq, .int .i64 l.ep, .slice A n c, .slice B m d]
def lnC (l : Ln) (A : Option Addr) (n c : Nat) (B : Option Addr) (m d : Nat) : List Value := [.int .i64 l.au, .int .i64 l.sq, .int .i64 l.ep, .slice A n c, .slice B m d]
/-- RetB with the length a variable. -/
theorem RetB.v {base : Nat} {l : List UInt8} {w w' : World} {e : Ending} (h : RetB base l w e w') : ∃ A m c, e = .returned (.slice A m c) ∧ Hid (l.length = m) ∧ Hid (w'.ownsRow base 5 1 (.slice A m c) m (l.map B8)) ∧ Below w.heap.size w w' := by
  obtain ⟨A, c, h1, h2, h3⟩ := h
  exact ⟨A, l.length, c, h1, rfl, h2, h3⟩
theorem rangeNew (w : World) (cs : List Value) (T : TypeId) : (w.alloc (.cells cs.toArray T)).rangeAt w.heap.size 0 cs := by
  intro j v hj
  refine cell_blk (heap_alloc_new w _) _ ?_
  rw [Nat.zero_add]; simpa using hj
theorem rightL_N (l : Ln) : rightL l ↔ rightN l.au l.sq l.ep l.pv.length l.bd.length := Iff.rfl
theorem hash_ahead (g : Nat) (w : World) : (nilAhead 281 27 (.pointer (some ⟨g, 0, none⟩)) "Hash").run Try.prog w = .ok (some false) w := by kernel_rfl
set_option maxRecDepth 20000 in
set_option maxHeartbeats 1000000 in
theorem digest_ (g : Nat) (hs : List (List UInt8)) (own R : List Nat) (l : Ln) (A : Option Addr) (n c : Nat) (B : Option Addr) (m d : Nat) (w : World) (hI : IdealAt w g hs own R)
    (hp : Rd w w.heap.size 1 A n (l.pv.map B8)) (hq : Rd w w.heap.size 1 B m (l.bd.map B8)) (hok : rightL l) (hn : hs.length ≤ 1000000) (hR : ∀ k, k ∈ R → k < w.heap.size) :
    Calls Try.prog 26 #[.iface 27 (.pointer (some ⟨g, 0, none⟩)), lnV l A n c B m d] w fun e w' => ∃ own' A' c', e = .returned (.slice A' 32 c') ∧ OwnS w' w.heap.size A' 32 c' ((digL hs l).map B8) ∧ IdealAt w' g (note hs (bytesL l)) own' R ∧ Fr own w w' own' := by
  have hA : Hid (l.pv.length = n) := by unfold Hid; simpa using hp.len
  have hB : Hid (l.bd.length = m) := by unfold Hid; simpa using hq.len
  have hr : decide (rightN l.au l.sq l.ep n m) = true := by rw [decide_eq_true_iff, ← hA.out, ← hB.out]; exact (rightL_N l).1 hok
  have hbl := Lib.hid (bytesL_len hok)
  have hlp : Hid (l.pv.length ≤ 32) := by rcases hok.2.2 with h | h <;> unfold Hid <;> omega
  have hlb : Hid (l.bd.length = 32) := hok.2.1
  have hl1 := Lib.hid (numL_len l.au)
  have hl2 := Lib.hid (numL_len l.sq)
  have hl3 := Lib.hid (numL_len l.ep)
  have hl4 := Lib.hid (numL_len l.pv.length)
  have hl5 := Lib.hid (numL_len l.bd.length)
  obtain ⟨au, hau⟩ : ∃ x, Hid (x = l.au) := ⟨_, Lib.hid rfl⟩
  obtain ⟨sq, hsq⟩ : ∃ x, Hid (x = l.sq) := ⟨_, Lib.hid rfl⟩
  obtain ⟨ep, hep⟩ : ∃ x, Hid (x = l.ep) := ⟨_, Lib.hid rfl⟩
  have hlv : lnV l A n c B m d = .agg #[.int .i64 au, .int .i64 sq, .int .i64 ep, .slice A n c, .slice B m d] := by unfold lnV; rw [hau.out, hsq.out, hep.out]
  rw [hlv]
  rw [← hau.out, ← hsq.out, ← hep.out] at hr
  clear hlv
  obtain ⟨Y, hY⟩ : ∃ Y, Hid (Y = w.alloc (.cells #[.int .i64 au, .int .i64 sq, .int .i64 ep, .slice A n c, .slice B m d] 40)) := ⟨_, Lib.hid rfl⟩
  have HB0 : Hid (Below w.heap.size w Y) := by rw [hY.out]; exact (Below.refl _ _).alloc (Nat.le_refl _) _
  obtain ⟨G, hG⟩ : ∃ g, Hid (g = w.heap.size) := ⟨_, Lib.hid rfl⟩
  have HRG : Hid (Y.rangeAt G 0 [.int .i64 au, .int .i64 sq, .int .i64 ep, .slice A n c, .slice B m d]) := by rw [hY.out, hG.out]; exact rangeNew w _ _
  have hGY : Hid (G < Y.heap.size) := by unfold Hid; rw [hG.out, hY.out, szAlloc]; exact Nat.lt_succ_self _
  have hGo : Hid (∀ k, k ∈ own → k < G) := by unfold Hid; rw [hG.out]; exact note_lt hI
  have HI := Lib.hid hI
  have HP := Lib.hid hp
  have HQ := Lib.hid hq
  have HR := Lib.hid hR
  have HN := Lib.hid hn
  clear hI hp hq hR hok hn
  go_enter Try.func26, Try.ntmps26
  go_wp2_with fail
  rw [← hY.out, ← hG.out]
  refine (right_ au sq ep A n c B m d Y).mono ?_
  rintro e Z ⟨he, b1⟩
  rw [hr] at he
  subst he
  clear hr
  have B1 := Lib.hid (HB0.out.trans (b1.mono HB0.out.size))
  have R1 := Lib.hid (range_keep HRG.out b1 hGY.out)
  have hG1 : Hid (G < Z.heap.size) := Nat.lt_of_lt_of_le hGY.out b1.size
  clear b1
  go_wp2_with fail
  obtain ⟨X, hX⟩ : ∃ W, Hid (W = Z.drew) := ⟨_, Lib.hid rfl⟩
  have dX : Below Z.heap.size Z X := by rw [hX.out]; exact below_drew (Below.refl _ _)
  have RX := Lib.hid (range_keep R1.out dX hG1.out)
  have hGX : Hid (G < X.heap.size) := Nat.lt_of_lt_of_le hG1.out dX.size
  have BX := Lib.hid (B1.out.trans (dX.mono B1.out.size))
  refine wp_region_noPanic ?_
  refine wp_region_held_drew (S := fun w' => w'.rangeAt G 0 [.int .i64 au, .int .i64 sq, .int .i64 ep, .slice A n c, .slice B m d]) (by kernel_rfl) (by rw [← hX.out]; exact RX.out) (fun hS => ?_)
  rw [← hX.out]
  clear hS
  have hS : X.rangeAt G 0 [.int .i64 au, .int .i64 sq, .int .i64 ep, .slice A n c, .slice B m d] := RX.out
  refine wpAnyH_take (i := 0) (v := ?va0) rfl (by kernel_rfl) (by kernel_rfl) (by kernel_rfl) (fun _ _ _ h => h) (Or.inl ⟨by rfl, ?hya0⟩) hS ?resta0
  case hya0 => (intro w' hSw; go_simp; first | done | with_reducible rfl)
  try simp only [Act.put, List.getElem_toArray, List.getElem_cons_zero, List.getElem_cons_succ, List.setIfInBounds_toArray, List.set_cons_zero, List.set_cons_succ]
  refine wpAnyH_take (i := 1) (v := .int .i64 au) rfl (by kernel_rfl) (by kernel_rfl) (by kernel_rfl) (fun _ _ _ h => h) (Or.inl ⟨by rfl, ?hya1⟩) hS ?resta1
  case hya1 => (intro w' hSw; have c0 := hSw 0 _ rfl; go_simp; first | done | with_reducible rfl)
  try simp only [Act.put, List.getElem_toArray, List.getElem_cons_zero, List.getElem_cons_succ, List.setIfInBounds_toArray, List.set_cons_zero, List.set_cons_succ]
  refine wpAnyH_take (i := 3) (v := ?va3) rfl (by kernel_rfl) (by kernel_rfl) (by kernel_rfl) (fun _ _ _ h => h) (Or.inl ⟨by rfl, ?hya3⟩) hS ?resta3
  case hya3 => (intro w' hSw; go_simp; first | done | with_reducible rfl)
  try simp only [Act.put, List.getElem_toArray, List.getElem_cons_zero, List.getElem_cons_succ, List.setIfInBounds_toArray, List.set_cons_zero, List.set_cons_succ]
  refine wpAnyH_take (i := 4) (v := .int .i64 sq) rfl (by kernel_rfl) (by kernel_rfl) (by kernel_rfl) (fun _ _ _ h => h) (Or.inl ⟨by rfl, ?hya4⟩) hS ?resta4
  case hya4 => (intro w' hSw; have c0 := hSw 1 _ rfl; go_simp; first | done | with_reducible rfl)
  try simp only [Act.put, List.getElem_toArray, List.getElem_cons_zero, List.getElem_cons_succ, List.setIfInBounds_toArray, List.set_cons_zero, List.set_cons_succ]
  refine wpAnyH_take (i := 6) (v := ?va6) rfl (by kernel_rfl) (by kernel_rfl) (by kernel_rfl) (fun _ _ _ h => h) (Or.inl ⟨by rfl, ?hya6⟩) hS ?resta6
  case hya6 => (intro w' hSw; go_simp; first | done | with_reducible rfl)
  try simp only [Act.put, List.getElem_toArray, List.getElem_cons_zero, List.getElem_cons_succ, List.setIfInBounds_toArray, List.set_cons_zero, List.set_cons_succ]
  refine wpAnyH_take (i := 7) (v := .int .i64 ep) rfl (by kernel_rfl) (by kernel_rfl) (by kernel_rfl) (fun _ _ _ h => h) (Or.inl ⟨by rfl, ?hya7⟩) hS ?resta7
  case hya7 => (intro w' hSw; have c0 := hSw 2 _ rfl; go_simp; first | done | with_reducible rfl)
  try simp only [Act.put, List.getElem_toArray, List.getElem_cons_zero, List.getElem_cons_succ, List.setIfInBounds_toArray, List.set_cons_zero, List.set_cons_succ]
  refine wpAnyH_ready (rs := [2]) (by kernel_rfl) (by simp) ?_
  refine AllReadyH.cons rfl (fun K hK => ?_) AllReadyH.nil
  go_simp
  refine (number_any none 0 0 [] au X (Rd.nil _ _ _ _) (by simp)).mono ?_
  rintro e u1 hb
  obtain ⟨A1, m1, c1, rfl, e1, o1, b1⟩ := hb.v
  have P1 := Lib.hid b1
  have S1 := range_keep RX.out b1 hGX.out
  have hm1 : Hid (m1 ≤ 10) := by have := e1.out; have := hl1.out; rw [← hau.out] at this; simp at *; unfold Hid; omega
  clear hb
  go_wp2_with fail
  refine hK.out _ _ S1 ?_
  intro hS
  clear hK K hS
  try simp only [Act.put, List.getElem_toArray, List.getElem_cons_zero, List.getElem_cons_succ, List.setIfInBounds_toArray, List.set_cons_zero, List.set_cons_succ]
  have hS : u1.rangeAt G 0 [.int .i64 au, .int .i64 sq, .int .i64 ep, .slice A n c, .slice B m d] := S1
  refine wpAnyH_ready (rs := [5]) (by kernel_rfl) (by simp) ?_
  refine AllReadyH.cons rfl (fun K hK => ?_) AllReadyH.nil
  go_simp
  refine (number_any A1 m1 c1 ([] ++ numL au) sq u1 (Rd.of_own o1.out) (by have := e1.out; have := hm1.out; omega)).mono ?_
  rintro e u2 hb
  obtain ⟨A2, m2, c2, rfl, e2, o2, b2⟩ := hb.v
  have P2 := Lib.hid (P1.out.trans (b2.mono P1.out.size))
  have S2 := range_keep RX.out P2.out hGX.out
  have hm2 : Hid (m2 ≤ 20) := by have h1 := e1.out; have h2 := hm1.out; have h3 := e2.out; have h4 := hl2.out; rw [← hsq.out] at h4; rw [List.length_append] at h3; unfold Hid; omega
  clear hb b2
  go_wp2_with fail
  refine hK.out _ _ S2 ?_
  intro hS
  clear hK K hS
  try simp only [Act.put, List.getElem_toArray, List.getElem_cons_zero, List.getElem_cons_succ, List.setIfInBounds_toArray, List.set_cons_zero, List.set_cons_succ]
  have hS : u2.rangeAt G 0 [.int .i64 au, .int .i64 sq, .int .i64 ep, .slice A n c, .slice B m d] := S2
  refine wpAnyH_ready (rs := [8]) (by kernel_rfl) (by simp) ?_
  refine AllReadyH.cons rfl (fun K hK => ?_) AllReadyH.nil
  go_simp
  refine (number_any A2 m2 c2 (([] ++ numL au) ++ numL sq) ep u2 (Rd.of_own o2.out) (by have := e2.out; have := hm2.out; omega)).mono ?_
  rintro e u3 hb
  obtain ⟨A3, m3, c3, rfl, e3, o3, b3⟩ := hb.v
  have P3 := Lib.hid (P2.out.trans (b3.mono P2.out.size))
  have S3 := range_keep RX.out P3.out hGX.out
  have hm3 : Hid (m3 ≤ 30) := by have h1 := e2.out; have h2 := hm2.out; have h3 := e3.out; have h4 := hl3.out; rw [← hep.out] at h4; rw [List.length_append] at h3; unfold Hid; omega
  clear hb b3
  go_wp2_with fail
  refine hK.out _ _ S3 ?_
  intro hS
  clear hK K hS
  try simp only [Act.put, List.getElem_toArray, List.getElem_cons_zero, List.getElem_cons_succ, List.setIfInBounds_toArray, List.set_cons_zero, List.set_cons_succ]
  have hS : u3.rangeAt G 0 [.int .i64 au, .int .i64 sq, .int .i64 ep, .slice A n c, .slice B m d] := S3
  refine wpAnyH_take (i := 9) (v := ?va9) rfl (by kernel_rfl) (by kernel_rfl) (by kernel_rfl) (fun _ _ _ h => h) (Or.inl ⟨by rfl, ?hya9⟩) hS ?resta9
  case hya9 => (intro w' hSw; go_simp; first | done | with_reducible rfl)
  try simp only [Act.put, List.getElem_toArray, List.getElem_cons_zero, List.getElem_cons_succ, List.setIfInBounds_toArray, List.set_cons_zero, List.set_cons_succ]
  refine wpAnyH_done (by kernel_rfl) (NoPanic.normal ?_) _
  have B3 := Lib.hid (BX.out.trans (P3.out.mono BX.out.size))
  have R3 := Lib.hid (range_keep RX.out P3.out hGX.out)
  have hG3 : Hid (G < u3.heap.size) := Nat.lt_of_lt_of_le hGX.out P3.out.size
  obtain ⟨k3, hk3⟩ : ∃ k, Hid (k = ((([] : List UInt8) ++ numL au) ++ numL sq) ++ numL ep) := ⟨_, Lib.hid rfl⟩
  rw [← hk3.out] at o3 e3
  clear o1 o2 e1 e2 P1 P2 hm1 hm2 b1 hS RX hGX BX hX dX
  go_wp2_with fail
  obtain ⟨T, hT⟩ : ∃ W, Hid (W = u3.drew) := ⟨_, Lib.hid rfl⟩
  have dT : Below u3.heap.size u3 T := by rw [hT.out]; exact below_drew (Below.refl _ _)
  have RT := Lib.hid (range_keep R3.out dT hG3.out)
  have hGT : Hid (G < T.heap.size) := Nat.lt_of_lt_of_le hG3.out dT.size
  have BT := Lib.hid (B3.out.trans (dT.mono B3.out.size))
  have OT := Lib.hid (own_below o3.out dT)
  have PT := Lib.hid (HP.out.to BT.out)
  have QT := Lib.hid (HQ.out.to BT.out)
  refine wp_region_noPanic ?_
  refine wp_region_held_drew (S := fun w' => w'.rangeAt G 0 [.int .i64 au, .int .i64 sq, .int .i64 ep, .slice A n c, .slice B m d]) (by kernel_rfl) (by rw [← hT.out]; exact RT.out) (fun hS => ?_)
  rw [← hT.out]
  clear hS
  have hS : T.rangeAt G 0 [.int .i64 au, .int .i64 sq, .int .i64 ep, .slice A n c, .slice B m d] := RT.out
  refine wpAnyH_take (i := 0) (v := ?vb0) rfl (by kernel_rfl) (by kernel_rfl) (by kernel_rfl) (fun _ _ _ h => h) (Or.inl ⟨by rfl, ?hyb0⟩) hS ?restb0
  case hyb0 => (intro w' hSw; go_simp; first | done | with_reducible rfl)
  try simp only [Act.put, List.getElem_toArray, List.getElem_cons_zero, List.getElem_cons_succ, List.setIfInBounds_toArray, List.set_cons_zero, List.set_cons_succ]
  refine wpAnyH_take (i := 1) (v := ?vb1) rfl (by kernel_rfl) (by kernel_rfl) (by kernel_rfl) (fun _ _ _ h => h) (Or.inl ⟨by rfl, ?hyb1⟩) hS ?restb1
  case hyb1 => (intro w' hSw; go_simp; first | done | with_reducible rfl)
  try simp only [Act.put, List.getElem_toArray, List.getElem_cons_zero, List.getElem_cons_succ, List.setIfInBounds_toArray, List.set_cons_zero, List.set_cons_succ]
  refine wpAnyH_take (i := 2) (v := ?vb2) rfl (by kernel_rfl) (by kernel_rfl) (by kernel_rfl) (fun _ _ _ h => h) (Or.inl ⟨by rfl, ?hyb2⟩) hS ?restb2
  case hyb2 => (intro w' hSw; go_simp; first | done | with_reducible rfl)
  try simp only [Act.put, List.getElem_toArray, List.getElem_cons_zero, List.getElem_cons_succ, List.setIfInBounds_toArray, List.set_cons_zero, List.set_cons_succ]
  refine wpAnyH_take (i := 3) (v := .slice A n c) rfl (by kernel_rfl) (by kernel_rfl) (by kernel_rfl) (fun _ _ _ h => h) (Or.inl ⟨by rfl, ?hyb3⟩) hS ?restb3
  case hyb3 => (intro w' hSw; have c0 := hSw 3 _ rfl; go_simp; first | done | with_reducible rfl)
  try simp only [Act.put, List.getElem_toArray, List.getElem_cons_zero, List.getElem_cons_succ, List.setIfInBounds_toArray, List.set_cons_zero, List.set_cons_succ]
  refine wpAnyH_take (i := 5) (v := ?vb5) rfl (by kernel_rfl) (by kernel_rfl) (by kernel_rfl) (fun _ _ _ h => h) (Or.inl ⟨by rfl, ?hyb5⟩) hS ?restb5
  case hyb5 => (intro w' hSw; go_simp; first | done | with_reducible rfl)
  try simp only [Act.put, List.getElem_toArray, List.getElem_cons_zero, List.getElem_cons_succ, List.setIfInBounds_toArray, List.set_cons_zero, List.set_cons_succ]
  refine wpAnyH_take (i := 6) (v := .slice B m d) rfl (by kernel_rfl) (by kernel_rfl) (by kernel_rfl) (fun _ _ _ h => h) (Or.inl ⟨by rfl, ?hyb6⟩) hS ?restb6
  case hyb6 => (intro w' hSw; have c0 := hSw 4 _ rfl; go_simp; first | done | with_reducible rfl)
  try simp only [Act.put, List.getElem_toArray, List.getElem_cons_zero, List.getElem_cons_succ, List.setIfInBounds_toArray, List.set_cons_zero, List.set_cons_succ]
  refine wpAnyH_take (i := 8) (v := ?vb8) rfl (by kernel_rfl) (by kernel_rfl) (by kernel_rfl) (fun _ _ _ h => h) (Or.inl ⟨by rfl, ?hyb8⟩) hS ?restb8
  case hyb8 => (intro w' hSw; go_simp; first | done | with_reducible rfl)
  try simp only [Act.put, List.getElem_toArray, List.getElem_cons_zero, List.getElem_cons_succ, List.setIfInBounds_toArray, List.set_cons_zero, List.set_cons_succ]
  refine wpAnyH_take (i := 9) (v := ?vb9) rfl (by kernel_rfl) (by kernel_rfl) (by kernel_rfl) (fun _ _ _ h => h) (Or.inl ⟨by rfl, ?hyb9⟩) hS ?restb9
  case hyb9 => (intro w' hSw; have hah := hash_ahead g w'; go_simp; first | done | with_reducible rfl)
  try simp only [Act.put, List.getElem_toArray, List.getElem_cons_zero, List.getElem_cons_succ, List.setIfInBounds_toArray, List.set_cons_zero, List.set_cons_succ]
  refine wpAnyH_take (i := 10) (v := ?vb10) rfl (by kernel_rfl) (by kernel_rfl) (by kernel_rfl) (fun _ _ _ h => h) (Or.inl ⟨by rfl, ?hyb10⟩) hS ?restb10
  case hyb10 => (intro w' hSw; go_simp; first | done | with_reducible rfl)
  try simp only [Act.put, List.getElem_toArray, List.getElem_cons_zero, List.getElem_cons_succ, List.setIfInBounds_toArray, List.set_cons_zero, List.set_cons_succ]
  refine wpAnyH_ready (rs := [4]) (by kernel_rfl) (by simp) ?_
  refine AllReadyH.cons rfl (fun K hK => ?_) AllReadyH.nil
  go_simp
  refine (text_any A3 m3 c3 k3 A n c l.pv T (Rd.of_own OT.out) PT.out (by have := e3.out; have := hm3.out; have := hlp.out; omega)).mono ?_
  rintro e u4 hb
  obtain ⟨A4, m4, c4, rfl, e4, o4, b4⟩ := hb.v
  have P4 := Lib.hid b4
  have S4 := range_keep RT.out b4 hGT.out
  have Q4 := Lib.hid (QT.out.to b4)
  have hm4 : Hid (m4 ≤ 80) := by have h1 := e3.out; have h2 := hm3.out; have h3 := e4.out; have h4 := hl4.out; have h5 := hlp.out; unfold textL at h3; rw [List.length_append, List.length_append] at h3; unfold Hid; omega
  clear hb b4
  go_wp2_with fail
  refine hK.out _ _ S4 ?_
  intro hS
  clear hK K hS
  try simp only [Act.put, List.getElem_toArray, List.getElem_cons_zero, List.getElem_cons_succ, List.setIfInBounds_toArray, List.set_cons_zero, List.set_cons_succ]
  have hS : u4.rangeAt G 0 [.int .i64 au, .int .i64 sq, .int .i64 ep, .slice A n c, .slice B m d] := S4
  refine wpAnyH_ready (rs := [7]) (by kernel_rfl) (by simp) ?_
  refine AllReadyH.cons rfl (fun K hK => ?_) AllReadyH.nil
  go_simp
  refine (text_any A4 m4 c4 (k3 ++ textL l.pv) B m d l.bd u4 (Rd.of_own o4.out) Q4.out (by have := e4.out; have := hm4.out; have := hlb.out; omega)).mono ?_
  rintro e u5 hb
  obtain ⟨A5, m5, c5, rfl, e5, o5, b5⟩ := hb.v
  have P5 := Lib.hid (P4.out.trans (b5.mono P4.out.size))
  have S5 := range_keep RT.out P5.out hGT.out
  have hbytes : Hid (k3 ++ textL l.pv ++ textL l.bd = bytesL l) := by unfold Hid; rw [hk3.out, hau.out, hsq.out, hep.out, List.nil_append]; rfl
  have hm5 : Hid (m5 ≤ 100) := by rw [hbytes.out] at e5; have h3 := e5.out; have := hbl.out; unfold Hid; omega
  have B5 := Lib.hid (BT.out.trans (P5.out.mono BT.out.size))
  have I5 := Lib.hid (HI.out.below B5.out)
  rw [hbytes.out] at o5
  clear hb b5
  go_wp2_with fail
  refine hK.out _ _ S5 ?_
  intro hS
  clear hK K hS
  try simp only [Act.put, List.getElem_toArray, List.getElem_cons_zero, List.getElem_cons_succ, List.setIfInBounds_toArray, List.set_cons_zero, List.set_cons_succ]
  have hS : u5.rangeAt G 0 [.int .i64 au, .int .i64 sq, .int .i64 ep, .slice A n c, .slice B m d] := S5
  refine wpAnyH_ready (rs := [11]) (by kernel_rfl) (by simp) ?_
  refine AllReadyH.cons rfl (fun K hK => ?_) AllReadyH.nil
  go_simp
  refine (hash_ g hs own R A5 m5 c5 (bytesL l) u5 I5.out (Rd.of_own o5.out) (own_cap' o5.out) (by have := hm5.out; omega) HN.out (fun k hk => Nat.lt_of_lt_of_le (HR.out k hk) B5.out.size)).mono ?_
  rintro e u6 ⟨own', A6, c6, rfl, o6, i6, f6⟩
  have S6 : u6.rangeAt G 0 [.int .i64 au, .int .i64 sq, .int .i64 ep, .slice A n c, .slice B m d] := fun j v hj => (World.cell?_of_block (a := ⟨G, 0 + j, none⟩) (f6.block G (Nat.lt_of_lt_of_le hGT.out P5.out.size) (fun hm => Nat.lt_irrefl _ (hGo.out G hm)))).trans (S5 j v hj)
  have O6 := Lib.hid (o6.mono B5.out.size)
  have I6 := Lib.hid i6
  have F6 : Hid (Fr own w u6 own') := (Fr.below B5.out).trans f6
  clear o6 i6 f6
  go_wp2_with fail
  refine hK.out _ _ S6 ?_
  intro hS
  clear hK K hS
  try simp only [Act.put, List.getElem_toArray, List.getElem_cons_zero, List.getElem_cons_succ, List.setIfInBounds_toArray, List.set_cons_zero, List.set_cons_succ]
  have hS : u6.rangeAt G 0 [.int .i64 au, .int .i64 sq, .int .i64 ep, .slice A n c, .slice B m d] := S6
  refine wpAnyH_take (i := 12) (v := ?vb12) rfl (by kernel_rfl) (by kernel_rfl) (by kernel_rfl) (fun _ _ _ h => h) (Or.inl ⟨by rfl, ?hyb12⟩) hS ?restb12
  case hyb12 => (intro w' hSw; go_simp; first | done | with_reducible rfl)
  try simp only [Act.put, List.getElem_toArray, List.getElem_cons_zero, List.getElem_cons_succ, List.setIfInBounds_toArray, List.set_cons_zero, List.set_cons_succ]
  refine wpAnyH_done (by kernel_rfl) (NoPanic.normal ?_) _
  go_wp2_with fail
  go_ret
  exact ⟨own', A6, c6, rfl, O6.out, I6.out, F6.out⟩
end Go.Proofs.Ytabcbpcfleociaa

/- A book in memory. -/
namespace Go.Proofs.Ytabcbpcfleociaa
open Go.RowKit Go.Maps
set_option linter.unusedSimpArgs false
set_option linter.unusedVariables false
/-- A known link's cells. -/
def knC (k : Kn) : List Value := k.dg.map B8 ++ k.bd.map B8 ++ [.int .i64 k.ep]
theorem knC_len {k : Kn} (h : k.ok) : (knC k).length = 65 := by simp [knC, h.dg, h.bd]
theorem flat_at {f : Kn → List Value} {s : Nat} : ∀ (L : List Kn), (∀ k ∈ L, (f k).length = s) → ∀ (i : Nat) (k : Kn), L[i]? = some k → ∀ j v, (f k)[j]? = some v → (L.flatMap f)[i * s + j]? = some v := by
  intro L
  induction L with
  | nil => intro _ i k h; simp at h
  | cons a t ih =>
    intro hL i k hi j v hj
    have ha := hL a (by simp)
    rw [List.flatMap_cons]
    rcases i with _ | i
    · simp at hi
      subst hi
      have hjl : j < (f a).length := by
        rcases Nat.lt_or_ge j (f a).length with h | h
        · exact h
        · rw [List.getElem?_eq_none h] at hj; cases hj
      rw [Nat.zero_mul, Nat.zero_add, List.getElem?_append_left hjl]
      exact hj
    · rw [List.getElem?_append_right (by rw [ha, Nat.succ_mul]; omega), ha, show (i + 1) * s + j - s = i * s + j by rw [Nat.succ_mul]; omega]
      exact ih (fun k hk => hL k (by simp [hk])) i k (by simpa using hi) j v hj
theorem flat_len {f : Kn → List Value} {s : Nat} : ∀ (L : List Kn), (∀ k ∈ L, (f k).length = s) → (L.flatMap f).length = L.length * s := by
  intro L
  induction L with
  | nil => intro _; simp
  | cons a t ih => intro h; rw [List.flatMap_cons, List.length_append, h a (by simp), ih (fun k hk => h k (by simp [hk])), List.length_cons, Nat.succ_mul, Nat.add_comm]
/-- The i-th known link's cells. -/
theorem Rd.kn {w : World} {B n : Nat} {A : Option Addr} {L : List Kn} (h : Rd w B 65 A n (L.flatMap knC)) (hok : ∀ k ∈ L, k.ok) (hn : L.length = n) {i : Nat} {k : Kn} (hk : L[i]? = some k) :
    ∃ b o, A = some ⟨b, o, none⟩ ∧ b < B ∧ w.rangeAt b (o + i * 65) (knC k) := by
  have hi : i < L.length := by
    rcases Nat.lt_or_ge i L.length with h | h
    · exact h
    · rw [List.getElem?_eq_none h] at hk; cases hk
  obtain ⟨b, o, e, hb, hc⟩ := h.2 (by omega)
  refine ⟨b, o, e, hb, fun j v hj => ?_⟩
  have := hc (i * 65 + j) v (flat_at L (fun k hk => knC_len (hok k hk)) i k hk j v hj)
  rwa [← Nat.add_assoc] at this
/-- A book at block g: its links in order of their coming. -/
structure BookV (w : World) (g : Nat) (S : Bk) (own R : List Nat) (b n : Nat) (f : Lit → Value) : Prop where
  blk : w.heap[g]? = some (.cells #[.map (some b)] 105 (0, 0))
  map : MapV Try.prog 3 w b n (.slice none 0 0) f
  le : n ≤ S.length
  sm : S.length ≤ 1048576
  rows : ∀ a : Int, ∃ A c, f (.int .i64 a) = .slice A (ofA S a).length c ∧ (ofA S a).length ≤ c ∧ RdN (own ++ R) w 65 A (ofA S a).length ((ofA S a).flatMap knC)
  ok : S.ok
  og : g ∈ own
  ob : b ∈ own
  lt : ∀ k, k ∈ own → k < w.heap.size
def BookAt (w : World) (g : Nat) (S : Bk) (own R : List Nat) : Prop := ∃ b n f, BookV w g S own R b n f
theorem BookV.keep {w w' : World} {g : Nat} {S : Bk} {own R own2 own2' R' : List Nat} {b n : Nat} {f : Lit → Value} (h : BookV w g S own R b n f)
    (hf : Fr own2 w w' own2') (h1 : ∀ k, k ∈ own2 → k ∈ R) (h2 : ∀ k, k ∈ own2 → k ∉ own) (h3 : ∀ k, k ∈ R' → k ∈ R ∨ w.heap.size ≤ k) : BookV w' g S own R' b n f := by
  have hk : ∀ k, k ∈ own → w'.heap[k]? = w.heap[k]? := fun k hm => hf.block k (h.lt k hm) (fun hm2 => h2 k hm2 hm)
  refine ⟨(hk g h.og).trans h.blk, h.map.same (hk b h.ob), h.le, h.sm, fun a => ?_, h.ok, h.og, h.ob, fun k hm => Nat.lt_of_lt_of_le (h.lt k hm) hf.size⟩
  obtain ⟨A, c, e, hc, hr⟩ := h.rows a
  refine ⟨A, c, e, hc, ((hr.less (no' := own ++ R ++ R') fun k hm => ?_).go hf (fun k hm => ?_)).less fun k hm => Or.inl ?_⟩
  · rcases List.mem_append.1 hm with h4 | h4
    · exact Or.inl h4
    · exact (h3 k h4).imp (fun h5 => List.mem_append.2 (Or.inr h5)) id
  · exact List.mem_append.2 (Or.inl (List.mem_append.2 (Or.inr (h1 k hm))))
  · rcases List.mem_append.1 hm with h4 | h4
    · exact List.mem_append.2 (Or.inl (List.mem_append.2 (Or.inl h4)))
    · exact List.mem_append.2 (Or.inr h4)
theorem BookAt.keep {w w' : World} {g : Nat} {S : Bk} {own R own2 own2' R' : List Nat} (h : BookAt w g S own R)
    (hf : Fr own2 w w' own2') (h1 : ∀ k, k ∈ own2 → k ∈ R) (h2 : ∀ k, k ∈ own2 → k ∉ own) (h3 : ∀ k, k ∈ R' → k ∈ R ∨ w.heap.size ≤ k) : BookAt w' g S own R' := by
  obtain ⟨b, n, f, hv⟩ := h
  exact ⟨b, n, f, hv.keep hf h1 h2 h3⟩
theorem BookV.below {w w' : World} {g : Nat} {S : Bk} {own R : List Nat} {b n : Nat} {f : Lit → Value} (h : BookV w g S own R b n f) (hb : Below w.heap.size w w') : BookV w' g S own R b n f :=
  h.keep (own2 := []) (own2' := []) ⟨hb.os, hb.tape, hb.output, hb.size, fun k hk _ => hb.block k hk, fun _ h => absurd h (by simp)⟩ (fun _ h => absurd h (by simp)) (fun _ h => absurd h (by simp)) (fun _ h => Or.inl h)
theorem BookAt.below {w w' : World} {g : Nat} {S : Bk} {own R : List Nat} (h : BookAt w g S own R) (hb : Below w.heap.size w w') : BookAt w' g S own R := by
  obtain ⟨b, n, f, hv⟩ := h
  exact ⟨b, n, f, hv.below hb⟩
theorem BookAt.lt {w : World} {g : Nat} {S : Bk} {own R : List Nat} (h : BookAt w g S own R) : ∀ k, k ∈ own → k < w.heap.size := by
  obtain ⟨b, n, f, hv⟩ := h
  exact hv.lt
theorem BookAt.ok {w : World} {g : Nat} {S : Bk} {own R : List Nat} (h : BookAt w g S own R) : S.ok := by
  obtain ⟨b, n, f, hv⟩ := h
  exact hv.ok
def inI (a : Int) : Prop := -9223372036854775808 ≤ a ∧ a ≤ 9223372036854775807
theorem keyI (a : Int) (h : inI a) : keyOf Try.prog 3 (.int .i64 a) = some (.int .i64 a) := by
  have hw : (Lit.int .i64 a).wf = true := by
    have e1 : IntKind.i64.min = -9223372036854775808 := rfl
    have e2 : IntKind.i64.max = 9223372036854775807 := rfl
    simp only [Lit.wf, Bool.and_eq_true, decide_eq_true_iff, e1, e2]
    exact h
  simp only [keyOf, mapKey, Try.underlying3]
  simp [hw]
theorem keyedI : Keyed Try.prog 3 := int_keyed Try.underlying3
theorem zeroS (w : World) : (zeroValue 102).run Try.prog w = .ok (.slice none 0 0) w := by kernel_rfl
theorem BookV.look {w : World} {g : Nat} {S : Bk} {own R : List Nat} {b n : Nat} {f : Lit → Value} (h : BookV w g S own R b n f) {a : Int} (ha : inI a) {A : Option Addr} {c : Nat} (e : f (.int .i64 a) = .slice A (ofA S a).length c) :
    (Instr.lookup 103 (.map (some b)) (.int .i64 a) false).run Try.prog w = .ok (.slice A (ofA S a).length c) w := by
  have := h.map.look keyedI (t := 103) Try.underlying103 (zeroS w) (keyI a ha)
  rw [e] at this
  exact this
end Go.Proofs.Ytabcbpcfleociaa

/- A book's At, Head. (Printed by gen_chd.py.) -/
namespace Go.Proofs.Ytabcbpcfleociaa
open Go.RowKit Go.Maps
attribute [local go_sem ↓] Go.wp_at_zero Go.wp_at_succ
set_option linter.unusedSimpArgs false
set_option linter.unusedVariables false
set_option maxHeartbeats 1000000 in
theorem at_no (g : Nat) (S : Bk) (own R : List Nat) (a q : Int) (w : World) (hB : BookAt w g S own R) (ha : inI a) (hq : q < 1 ∨ (ofA S a).length < q) :
    Calls Try.prog 23 #[.pointer (some ⟨g, 0, none⟩), .int .i64 a, .int .i64 q] w fun e w' => e = .returned (.tuple #[.slice none 0 0, .int .i64 0]) ∧ w' = w := by
  obtain ⟨b, n, f, hv⟩ := hB
  obtain ⟨A, c, e, hc, hr⟩ := hv.rows a
  have h0 : w.cell? ⟨g, 0, none⟩ = some (.map (some b)) := cell_blk hv.blk 0 rfl
  have hl := hv.look ha e
  obtain ⟨L, hL⟩ : ∃ L, Hid (L = (ofA S a).length) := ⟨_, Lib.hid rfl⟩
  rw [← hL.out] at hl hq
  clear hv hr e hc
  by_cases hq1 : q < 1
  · go_enter Try.func23, Try.ntmps23
    go_wp2_with fail
    go_ret2
    exact ⟨rfl, rfl⟩
  · have hq2 : (L : Int) < q := hq.resolve_left hq1
    go_enter Try.func23, Try.ntmps23
    go_wp2_with fail
    go_ret2
    exact ⟨rfl, rfl⟩
theorem at_nil (a q : Int) (w : World) : Calls Try.prog 23 #[.pointer none, .int .i64 a, .int .i64 q] w fun e w' => e = .returned (.tuple #[.slice none 0 0, .int .i64 0]) ∧ w' = w := by
  go_enter Try.func23, Try.ntmps23
  go_wp2_with fail
  go_ret2
  exact ⟨rfl, rfl⟩
theorem info65 : (Try.prog.info? 114).map (·.size) = some 65 := by kernel_rfl
theorem row65 : ∃ d, Try.prog.underlying 114 = some d ∧ d.isRow = true := ⟨_, Try.underlying114, rfl⟩
/-- A new block of noughts, written over. -/
theorem row_new (w : World) (z cs : Array Value) (t : TypeId) {X : World} (h : (w.alloc (.cells z t)).setRow w.heap.size cs = X) : X.heap[w.heap.size]? = some (.cells cs t (0, 0)) ∧ Below w.heap.size w X ∧ X.heap.size = w.heap.size + 1 := by
  subst h
  refine ⟨setRow_heap _ _ _ _ _ _ (heap_alloc_new w _), below_setRow ((Below.refl _ _).alloc (Nat.le_refl _) _) (Nat.le_refl _) _, ?_⟩
  rw [setRow_size, szAlloc]
theorem knC_one (k : Kn) : ∀ v ∈ knC k, v.oneCell' = true := by
  intro v hv
  simp only [knC, List.mem_append, List.mem_map, List.mem_singleton] at hv
  rcases hv with (⟨b, _, rfl⟩ | ⟨b, _, rfl⟩) | rfl <;> rfl
theorem knC_ep {k : Kn} (h : k.ok) : (knC k)[64]? = some (.int .i64 k.ep) := by
  rw [knC, List.getElem?_append_right (by simp [h.dg, h.bd])]
  simp [h.dg, h.bd]
theorem knC_dg {k : Kn} (h : k.ok) {j : Nat} {v : Value} (hj : (k.dg.map B8)[j]? = some v) : (knC k)[j]? = some v := by
  have hl : j < (k.dg.map B8).length := by
    rcases Nat.lt_or_ge j (k.dg.map B8).length with h | h
    · exact h
    · rw [List.getElem?_eq_none h] at hj; cases hj
  rw [knC, List.append_assoc, List.getElem?_append_left hl]
  exact hj
theorem Rd.of_kn {w : World} {g o : Nat} {k : Kn} (h : w.rangeAt g o (knC k)) (hk : k.ok) : Rd w w.heap.size 1 (some ⟨g, o, none⟩) 32 (k.dg.map B8) := by
  refine ⟨by simp [hk.dg], fun _ => ⟨g, o, rfl, World.block_lt_of_cell? _ _ (h 64 _ (knC_ep hk)), fun j u hu => h j u (knC_dg hk hu)⟩⟩
set_option maxRecDepth 20000 in
set_option maxHeartbeats 1000000 in
theorem at_ (g : Nat) (S : Bk) (own R : List Nat) (a : Int) (i : Nat) (k : Kn) (w : World) (hB : BookAt w g S own R) (ha : inI a) (hk : (ofA S a)[i]? = some k) :
    Calls Try.prog 23 #[.pointer (some ⟨g, 0, none⟩), .int .i64 a, .int .i64 (i + 1 : Nat)] w fun e w' => ∃ A' c', e = .returned (.tuple #[.slice A' 32 c', .int .i64 k.ep]) ∧ OwnS w' w.heap.size A' 32 c' (k.dg.map B8) ∧ Below w.heap.size w w' := by
  obtain ⟨b, n, f, hv⟩ := hB
  obtain ⟨A, c, e, hc, hr⟩ := hv.rows a
  have h0 : w.cell? ⟨g, 0, none⟩ = some (.map (some b)) := cell_blk hv.blk 0 rfl
  have hl := hv.look ha e
  have hko := Lib.hid (hv.ok.of (List.mem_of_getElem? hk))
  obtain ⟨rb, ro, rfl, hrb, hrg⟩ := hr.1.kn (fun k h => hv.ok.of h) rfl hk
  have HRG := Lib.hid hrg
  have hsz : Hid ((knC k).toArray.size = 65) := by unfold Hid; rw [List.size_toArray, knC_len hko.out]
  have hil : i < (ofA S a).length := by
    rcases Nat.lt_or_ge i (ofA S a).length with h | h
    · exact h
    · rw [List.getElem?_eq_none h] at hk; cases hk
  have hLb : (ofA S a).length < 4611686018427387904 := by have := ofA_len S a; have := hv.sm; omega
  obtain ⟨L, hL⟩ : ∃ L, Hid (L = (ofA S a).length) := ⟨_, Lib.hid rfl⟩
  rw [← hL.out] at hl hil hLb
  have hi1 : ¬ ((i + 1 : Nat) : Int) < 1 := by omega
  have hi2 : ¬ (L : Int) < ((i + 1 : Nat) : Int) := by omega
  have hqi : IntKind.i64.wrap (((i + 1 : Nat) : Int) - 1) = (i : Int) := by rw [IntWalk.i64_in _ (by omega)]; omega
  obtain ⟨q, hq⟩ : ∃ q : Int, Hid (((i + 1 : Nat) : Int) = q) := ⟨_, Lib.hid rfl⟩
  rw [hq.out] at hi1 hi2 hqi ⊢
  clear hv hr e hc hrg hLb
  go_enter Try.func23, Try.ntmps23
  go_wp2_with (first
    | refine wpList_load_mid rfl 114 (.tmp 34) rfl rb (ro + i * 65) rfl (knC k) _ HRG.out Try.underlying114 rfl (by rw [knC_len hko.out]; exact info65) ?_
    | (refine wpList_store_row rfl 114 (.tmp 8) (.tmp 35) rfl w.heap.size (knC k).toArray rfl rfl _ _ (heap_alloc_new w _) (by rw [hsz.out]; exact info65) (by rw [hsz.out]; kernel_rfl) (all_oneCell_toArray (knC_one k)) ?_))
  generalize hY0 : World.setRow _ _ _ = Y
  obtain ⟨hYg, hYb, hYs⟩ := row_new w _ _ _ hY0
  obtain ⟨G, hG⟩ : ∃ g, Hid (g = w.heap.size) := ⟨_, Lib.hid rfl⟩
  rw [← hG.out] at hYg ⊢
  have RY : Hid (Y.rangeAt G 0 (knC k)) := range_of hYg
  have BY := Lib.hid hYb
  have hGY : Hid (G < Y.heap.size) := by unfold Hid; rw [hG.out, hYs]; exact Nat.lt_succ_self _
  clear hY0 hYg hYb hYs HRG hsz
  obtain ⟨X, hX⟩ : ∃ W, Hid (W = Y.drew) := ⟨_, Lib.hid rfl⟩
  have dX : Below Y.heap.size Y X := by rw [hX.out]; exact below_drew (Below.refl _ _)
  have RX := Lib.hid (range_keep RY.out dX hGY.out)
  have hGX : Hid (G < X.heap.size) := Nat.lt_of_lt_of_le hGY.out dX.size
  have BX := Lib.hid (BY.out.trans (dX.mono BY.out.size))
  refine wp_region_noPanic ?_
  refine wp_region_held_drew (S := fun w' => w'.rangeAt G 0 (knC k)) (by kernel_rfl) (by rw [← hX.out]; exact RX.out) (fun hS => ?_)
  rw [← hX.out]
  clear hS
  have hS : X.rangeAt G 0 (knC k) := RX.out
  refine wpAnyH_take (i := 1) (v := ?v1) rfl (by kernel_rfl) (by kernel_rfl) (by kernel_rfl) (fun _ _ _ h => h) (Or.inl ⟨by rfl, ?hy1⟩) hS ?rest1
  case hy1 => (intro w' hSw; go_simp; first | done | with_reducible rfl)
  try simp only [Act.put, List.getElem_toArray, List.getElem_cons_zero, List.getElem_cons_succ, List.setIfInBounds_toArray, List.set_cons_zero, List.set_cons_succ]
  refine wpAnyH_take (i := 2) (v := ?v2) rfl (by kernel_rfl) (by kernel_rfl) (by kernel_rfl) (fun _ _ _ h => h) (Or.inl ⟨by rfl, ?hy2⟩) hS ?rest2
  case hy2 => (intro w' hSw; go_simp; first | done | with_reducible rfl)
  try simp only [Act.put, List.getElem_toArray, List.getElem_cons_zero, List.getElem_cons_succ, List.setIfInBounds_toArray, List.set_cons_zero, List.set_cons_succ]
  refine wpAnyH_take (i := 4) (v := ?v4) rfl (by kernel_rfl) (by kernel_rfl) (by kernel_rfl) (fun _ _ _ h => h) (Or.inl ⟨by rfl, ?hy4⟩) hS ?rest4
  case hy4 => (intro w' hSw; go_simp; first | done | with_reducible rfl)
  try simp only [Act.put, List.getElem_toArray, List.getElem_cons_zero, List.getElem_cons_succ, List.setIfInBounds_toArray, List.set_cons_zero, List.set_cons_succ]
  refine wpAnyH_take (i := 5) (v := .int .i64 k.ep) rfl (by kernel_rfl) (by kernel_rfl) (by kernel_rfl) (fun _ _ _ h => h) (Or.inl ⟨by rfl, ?hy5⟩) hS ?rest5
  case hy5 => (intro w' hSw; have c0 := hSw 64 _ (knC_ep hko.out); go_simp; first | done | with_reducible rfl)
  try simp only [Act.put, List.getElem_toArray, List.getElem_cons_zero, List.getElem_cons_succ, List.setIfInBounds_toArray, List.set_cons_zero, List.set_cons_succ]
  refine wpAnyH_ready (rs := [0]) (by kernel_rfl) (by simp) ?_
  refine AllReadyH.cons rfl (fun K hK => ?_) AllReadyH.nil
  go_simp
  have P1 := Lib.hid ((Below.refl X.heap.size X).alloc (Nat.le_refl _) (.cells #[] 5))
  have S1 := range_keep RX.out P1.out hGX.out
  refine hK.out _ _ S1 ?_
  intro hS
  clear hK K hS
  try simp only [Act.put, List.getElem_toArray, List.getElem_cons_zero, List.getElem_cons_succ, List.setIfInBounds_toArray, List.set_cons_zero, List.set_cons_succ]
  have l0 := Lib.hid (World.ownsRow_lit (e := 5) (size := 1) X #[] 0 (Nat.le_refl _) (by simp [maxLen]) rfl)
  obtain ⟨U, hU⟩ : ∃ U, Hid (U = X.alloc (.cells #[] 5)) := ⟨_, Lib.hid rfl⟩
  rw [← hU.out] at P1 S1 l0 ⊢
  have hS : U.rangeAt G 0 (knC k) := S1
  refine wpAnyH_ready (rs := [3]) (by kernel_rfl) (by simp) ?_
  refine AllReadyH.cons rfl (fun K hK => ?_) AllReadyH.nil
  have hd := Lib.hid (Rd.of_kn S1 hko.out)
  have ho := Lib.hid (oneB k.dg)
  refine step_app (.tmp 36) (.tmp 38) 38 rfl rfl X.heap.size 5 1 1 (.int .u8 0) Try.underlying38 infoB rfl (by decide) _ 0 [] rfl l0.out _ (some ⟨G, 0, none⟩) 32 32 _ rfl hd.out ho.out (by simp [maxLen]) (by decide) P1.out.size ?_
  intro A' c' u' o' g' _
  have O := Lib.hid (OwnS.of_own o')
  have P2 := Lib.hid (P1.out.trans (below_grown g' (own_block_ge l0.out) P1.out.size))
  have S2 := range_keep RX.out P2.out hGX.out
  refine hK.out _ _ S2 ?_
  intro hS
  clear hK K hS o' g'
  try simp only [Act.put, List.getElem_toArray, List.getElem_cons_zero, List.getElem_cons_succ, List.setIfInBounds_toArray, List.set_cons_zero, List.set_cons_succ]
  have hS : u'.rangeAt G 0 (knC k) := S2
  refine wpAnyH_take (i := 6) (v := ?v6) rfl (by kernel_rfl) (by kernel_rfl) (by kernel_rfl) (fun _ _ _ h => h) (Or.inl ⟨by rfl, ?hy6⟩) hS ?rest6
  case hy6 => (intro w' hSw; go_simp; first | done | with_reducible rfl)
  try simp only [Act.put, List.getElem_toArray, List.getElem_cons_zero, List.getElem_cons_succ, List.setIfInBounds_toArray, List.set_cons_zero, List.set_cons_succ]
  refine wpAnyH_take (i := 7) (v := ?v7) rfl (by kernel_rfl) (by kernel_rfl) (by kernel_rfl) (fun _ _ _ h => h) (Or.inl ⟨by rfl, ?hy7⟩) hS ?rest7
  case hy7 => (intro w' hSw; go_simp; first | done | with_reducible rfl)
  try simp only [Act.put, List.getElem_toArray, List.getElem_cons_zero, List.getElem_cons_succ, List.setIfInBounds_toArray, List.set_cons_zero, List.set_cons_succ]
  refine wpAnyH_done (by kernel_rfl) (NoPanic.normal ?_) _
  go_wp2_with fail
  go_ret2
  refine ⟨A', c', rfl, ?_, BX.out.trans (P2.out.mono BX.out.size)⟩
  exact O.out.mono BX.out.size
end Go.Proofs.Ytabcbpcfleociaa

/- A book's Head. -/
namespace Go.Proofs.Ytabcbpcfleociaa
open Go.RowKit Go.Maps
attribute [local go_sem ↓] Go.wp_at_zero Go.wp_at_succ
set_option linter.unusedSimpArgs false
set_option linter.unusedVariables false
theorem lastDg_nil : lastDg [] = [] := rfl
theorem last_at {L : List Kn} (h : L ≠ []) : ∃ k, L[L.length - 1]? = some k ∧ L.getLast? = some k := by
  have hl : 0 < L.length := List.length_pos_iff.2 h
  refine ⟨L[L.length - 1], List.getElem?_eq_getElem (by omega), ?_⟩
  rw [List.getLast?_eq_getElem?, List.getElem?_eq_getElem (by omega)]
theorem head_off (b : Option Addr) (a : Int) (w : World) (h : b = none ∨ a < 0 ∨ 5 ≤ a) :
    Calls Try.prog 18 #[.pointer b, .int .i64 a] w fun e w' => e = .returned (.agg #[.int .i64 0, .int .i64 0, .slice none 0 0]) ∧ Below w.heap.size w w' := by
  have hb : Below w.heap.size w (w.alloc (.cells #[.int .i64 0, .int .i64 0, .slice none 0 0] 45)) := (Below.refl _ _).alloc (Nat.le_refl _) _
  rcases b with _ | b
  · go_enter Try.func18, Try.ntmps18
    go_wp2_with fail
    go_returns
    refine ⟨rfl, ?_⟩
    go_grown
  · by_cases h1 : a < 0
    · go_enter Try.func18, Try.ntmps18
      go_wp2_with fail
      go_returns
      refine ⟨rfl, ?_⟩
      go_grown
    · have h2 : 5 ≤ a := by rcases h with h | h | h; cases h; exact absurd h h1; exact h
      go_enter Try.func18, Try.ntmps18
      go_wp2_with fail
      go_returns
      refine ⟨rfl, ?_⟩
      go_grown
set_option maxRecDepth 20000 in
set_option maxHeartbeats 1000000 in
theorem head_in (g : Nat) (S : Bk) (own R : List Nat) (a : Int) (w : World) (hB : BookAt w g S own R) (h0 : 0 ≤ a) (h5 : a < 5) :
    Calls Try.prog 18 #[.pointer (some ⟨g, 0, none⟩), .int .i64 a] w fun e w' => ∃ A m c, e = .returned (.agg #[.int .i64 a, .int .i64 (ofA S a).length, .slice A m c]) ∧ (lastDg (ofA S a)).length = m ∧ OwnS w' w.heap.size A m c ((lastDg (ofA S a)).map B8) ∧ Below w.heap.size w w' := by
  have ha : inI a := ⟨by omega, by omega⟩
  have hB' := Lib.hid hB.ok
  have hna : ¬ a < 0 := by omega
  have hn5 : ¬ 5 ≤ a := by omega
  obtain ⟨Y, hY⟩ : ∃ Y, Hid (Y = w.alloc (.cells #[.int .i64 0, .int .i64 0, .slice none 0 0] 45)) := ⟨_, Lib.hid rfl⟩
  have BY : Hid (Below w.heap.size w Y) := by rw [hY.out]; exact (Below.refl _ _).alloc (Nat.le_refl _) _
  obtain ⟨G, hG⟩ : ∃ g, Hid (g = w.heap.size) := ⟨_, Lib.hid rfl⟩
  have HG : Hid (Y.heap[G]? = some (.cells #[.int .i64 0, .int .i64 0, .slice none 0 0] 45 (0, 0))) := by rw [hY.out, hG.out]; exact heap_alloc_new w _
  have HB := Lib.hid (hB.below BY.out)
  have hc0 : Y.cell? ⟨g, 0, none⟩ = some (.map (some HB.out.choose)) := cell_blk HB.out.choose_spec.choose_spec.choose_spec.blk 0 rfl
  obtain ⟨b, n, f, hv⟩ := HB.out
  obtain ⟨A, c, e, hc, hr⟩ := hv.rows a
  have hcell : Y.cell? ⟨g, 0, none⟩ = some (.map (some b)) := cell_blk hv.blk 0 rfl
  have hl := hv.look ha e
  clear hc0 hr e hc
  obtain ⟨L, hL⟩ : ∃ L, Hid ((ofA S a).length = L) := ⟨_, Lib.hid rfl⟩
  rw [hL.out] at hl ⊢
  clear hv hB
  rw [hY.out] at hl hcell
  have hi45 := Try.underlying45
  go_enter Try.func18, Try.ntmps18
  go_wp2_with fail
  rw [← hY.out, ← hG.out]
  clear hl hcell
  by_cases hz : ofA S a = []
  · have hL0 : L = 0 := by rw [← hL.out, hz]; rfl
    subst hL0
    refine (at_no g S own R a _ Y HB.out ha (Or.inl (by decide))).mono ?_
    rintro e w1 ⟨rfl, rfl⟩
    go_wp2_with (refine wpList_store_row rfl 45 (.tmp 4) (.tmp 36) rfl G #[.int .i64 a, .int .i64 0, .slice none 0 0] rfl rfl _ _ HG.out (by kernel_rfl) rfl (by kernel_rfl) ?_)
    generalize hZ : World.setRow _ _ _ = Z
    have hZg : Z.heap[G]? = some (.cells #[.int .i64 a, .int .i64 0, .slice none 0 0] 45 (0, 0)) := by rw [← hZ]; exact setRow_heap _ _ _ _ _ _ HG.out
    have hZb : Below w.heap.size w Z := by rw [← hZ]; exact below_setRow BY.out (by rw [hG.out]; exact Nat.le_refl _) _
    refine bodyPost_ret (v := .agg #[.int .i64 a, .int .i64 0, .slice none 0 0]) (results_cell Try.results18 rfl (run_loadVar_mid (P := Try.prog) Z G 0 45 _ _ (range_of hZg) Try.underlying45 rfl (by kernel_rfl))) rfl ?_
    refine ⟨none, 0, 0, rfl, by rw [hz]; rfl, ?_, hZb⟩
    rw [hz]
    exact OwnS.nil _ _ _
  · obtain ⟨k, hk1, hk2⟩ := last_at hz
    have hD : lastDg (ofA S a) = k.dg := by rw [lastDg, hk2]; rfl
    rw [hL.out] at hk1
    obtain ⟨i, rfl⟩ : ∃ i, L = i + 1 := ⟨L - 1, by have := List.length_pos_iff.2 hz; have := hL.out; omega⟩
    refine (at_ g S own R a i k Y HB.out ha hk1).mono ?_
    rintro e u ⟨A', c', rfl, o, b1⟩
    have O := Lib.hid o
    have HGu : Hid (u.heap[G]? = some (.cells #[.int .i64 0, .int .i64 0, .slice none 0 0] 45 (0, 0))) := (b1.block G (lt_of_blk HG.out)).trans HG.out
    have Bu := Lib.hid (BY.out.trans (b1.mono BY.out.size))
    have hkd : Hid (k.dg.length = 32) := (hB'.out.of (List.mem_of_getElem? hk1)).dg
    have hGY : Hid (G < Y.heap.size) := lt_of_blk HG.out
    clear o b1
    obtain ⟨M, hM⟩ : ∃ M : Nat, Hid (M = i + 1) := ⟨_, Lib.hid rfl⟩
    rw [← hM.out]
    go_wp2_with (refine wpList_store_row rfl 45 (.tmp 4) (.tmp 36) rfl G #[.int .i64 a, .int .i64 M, .slice A' 32 c'] rfl rfl _ _ HGu.out (by kernel_rfl) rfl (by kernel_rfl) ?_)
    generalize hZ : World.setRow _ _ _ = Z
    have hZg : Z.heap[G]? = some (.cells #[.int .i64 a, .int .i64 M, .slice A' 32 c'] 45 (0, 0)) := by rw [← hZ]; exact setRow_heap _ _ _ _ _ _ HGu.out
    have hZb : Below w.heap.size w Z := by rw [← hZ]; exact below_setRow Bu.out (by rw [hG.out]; exact Nat.le_refl _) _
    have hZo : OwnS Z w.heap.size A' 32 c' (k.dg.map B8) := by
      have hne : ∀ b o, A' = some ⟨b, o, none⟩ → b ≠ G := fun b o e => by
        obtain ⟨b', o', e', hb', _⟩ := O.out.mem (by have := O.out.le; omega)
        rw [e] at e'
        injection e' with e'
        injection e' with e1
        have := hGY.out
        omega
      rw [← hZ]
      exact (O.out.same fun b o e _ => setRow_other _ _ _ _ (hne b o e)).mono BY.out.size
    refine bodyPost_ret (v := .agg #[.int .i64 a, .int .i64 M, .slice A' 32 c']) (results_cell Try.results18 rfl (run_loadVar_mid (P := Try.prog) Z G 0 45 _ _ (range_of hZg) Try.underlying45 rfl (by kernel_rfl))) rfl ?_
    rw [hD]
    exact ⟨A', 32, c', by rw [hM.out], hkd.out, hZo, hZb⟩
end Go.Proofs.Ytabcbpcfleociaa

/- bytes.Equal, New; a book's Check. -/
namespace Go.Proofs.Ytabcbpcfleociaa
open Go.RowKit Go.Maps
attribute [local go_sem ↓] Go.wp_at_zero Go.wp_at_succ
set_option linter.unusedSimpArgs false
set_option linter.unusedVariables false
theorem eq_str (a b : List UInt8) : ((str a).toList == (str b).toList) = decide (a = b) := by
  rw [str_toList, str_toList, Bool.eq_iff_iff]; simp
set_option maxHeartbeats 1000000 in
theorem equal_ (A : Option Addr) (n c : Nat) (l : List UInt8) (A' : Option Addr) (n' c' : Nat) (l' : List UInt8) (w : World) (hr : Rd w w.heap.size 1 A n (l.map B8)) (hr' : Rd w w.heap.size 1 A' n' (l'.map B8)) :
    Calls Try.prog 56 #[.slice A n c, .slice A' n' c'] w fun e w' => e = .returned (.bool (decide (l = l'))) ∧ w' = w := by
  have h1 := conv8 w A n c l hr
  have h2 := conv8 w A' n' c' l' hr'
  go_enter Try.func56, Try.ntmps56
  go_wp2_with fail
  go_ret
  refine ⟨?_, rfl⟩
  show Ending.returned (Value.bool ((str l).toList == (str l').toList)) = _
  rw [eq_str]
set_option maxHeartbeats 1000000 in
theorem new_ (w : World) : Calls Try.prog 52 #[] w fun e w' => ∃ g own, e = .returned (.pointer (some ⟨g, 0, none⟩)) ∧ BookAt w' g [] own [] ∧ (∀ k, k ∈ own → w.heap.size ≤ k) ∧ Below w.heap.size w w' := by
  have hmm := @run_makeMap Try.prog
  have h1 : (w.alloc (.map #[] 0)).heap.size = w.heap.size + 1 := szAlloc _ _
  have HB : Hid (Below w.heap.size w ((w.alloc (.map #[] 0)).alloc (.cells #[.map (some w.heap.size)] 105))) := ((Below.refl _ _).alloc (Nat.le_refl _) _).alloc (by rw [szAlloc]; omega) _
  have HK : Hid (BookAt ((w.alloc (.map #[] 0)).alloc (.cells #[.map (some w.heap.size)] 105)) (w.heap.size + 1) [] [w.heap.size + 1, w.heap.size] []) := by
    refine ⟨w.heap.size, 0, fun _ => .slice none 0 0, ⟨?_, ?_, Nat.zero_le _, by simp, fun a => ⟨none, 0, rfl, Nat.le_refl _, ⟨Rd.nil _ _ _ _, fun b o h => absurd h (by simp [ofA_nil])⟩⟩, Bk.ok.nil, by simp, by simp, fun k hk => ?_⟩⟩
    · have h := heap_alloc_new (w.alloc (.map #[] 0)) (.cells #[.map (some w.heap.size)] 105)
      rw [h1] at h
      exact h
    · exact (MapV.made Try.prog 3 w (.slice none 0 0)).same (heap_alloc_old _ _ (by rw [szAlloc]; exact Nat.lt_succ_self _))
    · rw [szAlloc, h1]
      simp at hk
      omega
  clear h1
  go_enter Try.func52, Try.ntmps52
  go_wp2_with fail
  go_ret
  refine ⟨w.heap.size + 1, [w.heap.size + 1, w.heap.size], ?_, HK.out, fun k hk => ?_, HB.out⟩
  · first | rfl | simp [szAlloc]
  · simp at hk; omega
theorem checkE_old {S : Bk} {hs : List (List UInt8)} {l : Ln} {k : Kn} (hr : rightL l) (h : l.sq ≤ (ofA S l.au).length) (hk : (ofA S l.au)[(l.sq - 1).toNat]? = some k) : checkE S hs l = if k.dg = digL hs l then 16 else 18 := by
  unfold checkE
  rw [if_pos hr, if_pos h, hk]
  simp
theorem checkE_gap {S : Bk} {hs : List (List UInt8)} {l : Ln} (hr : rightL l) (h : ((ofA S l.au).length : Int) + 1 < l.sq) : checkE S hs l = 15 := by
  unfold checkE
  rw [if_pos hr, if_neg (by omega), if_pos h]
theorem checkE_next {S : Bk} {hs : List (List UInt8)} {l : Ln} (hr : rightL l) (h : l.sq = (ofA S l.au).length + 1) : checkE S hs l = if lastDg (ofA S l.au) = l.pv then if l.ep < lastEp (ofA S l.au) then 20 else 0 else 17 := by
  unfold checkE
  rw [if_pos hr, if_neg (by omega), if_neg (by omega)]
theorem checkE_bad {S : Bk} {hs : List (List UInt8)} {l : Ln} (hr : ¬ rightL l) : checkE S hs l = 1 := by
  unfold checkE
  rw [if_neg hr]
theorem checkH_old {S : Bk} {hs : List (List UInt8)} {l : Ln} (hr : rightL l) (h : l.sq ≤ (ofA S l.au).length) : checkH S hs l = note hs (bytesL l) := if_pos ⟨hr, h⟩
theorem checkH_new {S : Bk} {hs : List (List UInt8)} {l : Ln} (h : ¬ (rightL l ∧ l.sq ≤ (ofA S l.au).length)) : checkH S hs l = hs := if_neg h
end Go.Proofs.Ytabcbpcfleociaa
