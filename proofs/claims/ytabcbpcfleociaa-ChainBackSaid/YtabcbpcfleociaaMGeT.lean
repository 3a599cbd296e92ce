/- A book in bytes is read as it was: plain. -/
import Derived.Test.YtabcbpcfleociaaMGet
import Derived.Test.YtabcbpcfleociaaMGrP
import Derived.Test.YtabcbpcfleociaaMHd
namespace Go.Proofs.Ytabcbpcfleociaa
set_option linter.unusedSimpArgs false
set_option linter.unusedVariables false
theorem numS_put {l pre rest : List UInt8} {n : Nat} (e : l = pre ++ (numL (n : Int) ++ rest)) (hn : n ≤ 1099511627776) {lo hi : Int} (h1 : lo ≤ n) (h2 : (n : Int) ≤ hi) : numS l pre.length 0 lo hi = (n, pre.length + (numL (n : Int)).length, 0) := by
  have hd : numL (n : Int) = dig n := by unfold numL clampN; congr 1; omega
  have hx : nxt (l.drop pre.length) 0 0 = (n, (dig n).length, 0) := by rw [e, List.drop_left, hd]; exact nxt_put n rest hn
  unfold numS
  rw [if_pos rfl, hx]
  simp only
  rw [if_pos trivial, if_neg (by omega), hd]
theorem txtS_put {l pre b rest : List UInt8} (e : l = pre ++ (textL b ++ rest)) (hb : b.length ≤ 1000000) {hi : Int} (h2 : (b.length : Int) ≤ hi) : txtS l pre.length 0 hi = (b, pre.length + (textL b).length, 0) := by
  have hd : numL (b.length : Int) = dig b.length := by unfold numL clampN; congr 1; omega
  have ht : textL b = dig b.length ++ b := by unfold textL; rw [hd]
  have hx : nxt (l.drop pre.length) 0 0 = (b.length, (dig b.length).length, 0) := by rw [e, List.drop_left, ht, List.append_assoc]; exact nxt_put b.length _ (by omega)
  have hl : l.length = pre.length + ((dig b.length).length + b.length + rest.length) := by rw [e, ht]; simp only [List.length_append]
  unfold txtS
  rw [if_pos rfl, hx]
  simp only
  rw [if_pos trivial, if_neg (by omega), if_neg (by omega)]
  have h3 : l.drop (pre.length + (dig b.length).length) = b ++ rest := by
    rw [e, ht, ← List.drop_drop, List.drop_left, List.append_assoc, List.drop_left]
  rw [h3, List.take_left, ht, List.length_append, Nat.add_assoc]
/-- An author's links as they are read. -/
def toLn (au : Int) : Nat → List Kn → List Ln
  | _, [] => []
  | i, k :: t => ⟨au, (i : Int) + 1, k.ep, [], k.bd⟩ :: toLn au (i + 1) t
def upE : Int → List Kn → Prop
  | _, [] => True
  | e, k :: t => e ≤ k.ep ∧ upE k.ep t
theorem lnks_put {l rest : List UInt8} {au : Int} : ∀ (L : List Kn) (pre : List UInt8) (i : Nat) (K : List Ln) (last : Nat), l = pre ++ (knsB L ++ rest) → (∀ k ∈ L, k.ok) → upE (last : Int) L →
    lnks l au L.length i ⟨K, pre.length, 0⟩ last = ⟨K ++ toLn au i L, (pre ++ knsB L).length, 0⟩
  | [], pre, i, K, last, e, _, _ => by simp [lnks, toLn, knsB]
  | k :: t, pre, i, K, last, e, hok, hup => by
    obtain ⟨_, hb, h1, h2⟩ := hok k (by simp)
    obtain ⟨hu1, hu2⟩ := hup
    have hs : knsB (k :: t) = textL k.bd ++ (numL k.ep ++ knsB t) := by unfold knsB knB; rw [List.flatMap_cons]; simp
    obtain ⟨E, hE⟩ : ∃ E : Nat, k.ep = (E : Int) := ⟨k.ep.toNat, by omega⟩
    have e1 : l = pre ++ (textL k.bd ++ (numL (E : Int) ++ (knsB t ++ rest))) := by rw [e, hs, hE]; simp
    have e2 : l = (pre ++ textL k.bd) ++ (numL (E : Int) ++ (knsB t ++ rest)) := by rw [e1]; simp
    have e3 : l = ((pre ++ textL k.bd) ++ numL (E : Int)) ++ (knsB t ++ rest) := by rw [e1]; simp
    have ht : lnkT l ⟨K, pre.length, 0⟩ = (k.bd, (pre ++ textL k.bd).length, 0) := by rw [List.length_append]; exact txtS_put e1 (by omega) (by omega)
    have hle : lnkE l ⟨K, pre.length, 0⟩ = 0 := by unfold lnkE; rw [ht]; exact if_pos hb
    have hn : lnkN l ⟨K, pre.length, 0⟩ = (E, ((pre ++ textL k.bd) ++ numL (E : Int)).length, 0) := by
      unfold lnkN
      rw [hle, ht]
      simp only
      have h5 := numS_put (lo := 1) (hi := 65536) e2 (by omega) (by omega) (by omega)
      rw [h5]
      simp only [List.length_append]
    have hf : lnkF l ⟨K, pre.length, 0⟩ last = 0 := by unfold lnkF; rw [hn]; exact if_neg (by simp only; omega)
    have hl : lnkL l ⟨K, pre.length, 0⟩ au i = ⟨au, (i : Int) + 1, k.ep, [], k.bd⟩ := by unfold lnkL; rw [hn, ht, hE]
    rw [List.length_cons]
    unfold lnks
    rw [if_pos hf, hl, hn]
    simp only
    rw [lnks_put t _ (i + 1) _ E e3 (fun k hk => hok k (by simp [hk])) (by rw [← hE]; exact hu2)]
    rw [hs, hE]
    simp [toLn, hE]
def backL (S : Bk) : Nat → List Ln
  | 0 => []
  | a + 1 => backL S a ++ toLn (a : Int) 0 (ofA S a)
theorem auths_put {S : Bk} {l behind : List UInt8} (hS : S.ok) (hn : S.length ≤ 1048576) (hup : ∀ a : Int, upE 1 (ofA S a)) : ∀ (k a : Nat), a + k = 5 → l = putL S ++ behind → 
    auths l k a ⟨backL S a, (putP S a).length, 0⟩ = ⟨backL S 5, (putL S).length, 0⟩ := by
  intro k
  induction k with
  | zero => intro a ha e; obtain rfl : a = 5 := by omega
            rfl
  | succ k ih =>
    intro a ha e
    have hpre : ∀ (k a : Nat), a + k = 5 → ∃ r, putL S = putP S a ++ r := by
      intro k
      induction k with
      | zero => intro a ha; exact ⟨[], by obtain rfl : a = 5 := by omega
                                          simp [putL]⟩
      | succ k ih =>
        intro a ha
        obtain ⟨r, hr⟩ := ih (a + 1) (by omega)
        exact ⟨numL (ofA S a).length ++ knsB (ofA S a) ++ r, by rw [hr]; simp [putP]⟩
    obtain ⟨r, hr⟩ := hpre k (a + 1) (by omega)
    have e1 : l = putP S a ++ (numL ((ofA S a).length : Int) ++ (knsB (ofA S a) ++ (r ++ behind))) := by rw [e, hr]; simp [putP]
    have e2 : l = (putP S a ++ numL ((ofA S a).length : Int)) ++ (knsB (ofA S a) ++ (r ++ behind)) := by rw [e1]; simp
    have hlen := ofA_len S a
    have hc : cnt l ⟨backL S a, (putP S a).length, 0⟩ = ((ofA S a).length, (putP S a ++ numL ((ofA S a).length : Int)).length, 0) := by
      rw [List.length_append]; exact numS_put e1 (by omega) (by omega) (by omega)
    unfold auths
    rw [hc]
    simp only
    rw [lnks_put (ofA S a) _ 0 _ 1 e2 (fun k hk => hS.of hk) (hup a)]
    have := ih (a + 1) (by omega) e
    exact this
theorem parse_put {S : Bk} (behind : List UInt8) (hS : S.ok) (hn : S.length ≤ 1048576) (hup : ∀ a : Int, upE 1 (ofA S a)) : parse (putL S ++ behind) = ⟨backL S 5, (putL S).length, 0⟩ := auths_put hS hn hup 5 0 rfl rfl
end Go.Proofs.Ytabcbpcfleociaa

/- A book read back is the book: nothing new is hashed. Plain. -/
namespace Go.Proofs.Ytabcbpcfleociaa
set_option linter.unusedSimpArgs false
set_option linter.unusedVariables false
/-- The link that was put as an author's i-th known one. -/
def lnAt (L : List Kn) (a : Int) (i : Nat) (k : Kn) : Ln := ⟨a, (i : Int) + 1, k.ep, lastDg (L.take i), k.bd⟩
/-- Each known link's digest is its hash's, in what was hashed. -/
def Kp (S : Bk) (hs : List (List UInt8)) : Prop := ∀ (a : Int) (i : Nat) (k : Kn), (ofA S a)[i]? = some k → bytesL (lnAt (ofA S a) a i k) ∈ hs ∧ k.dg = digL hs (lnAt (ofA S a) a i k)
theorem Kp.note {S : Bk} {hs : List (List UInt8)} (h : Kp S hs) (b : List UInt8) : Kp S (note hs b) := fun a i k hk =>
  ⟨note_sub (h a i k hk).1, by rw [(h a i k hk).2, digL, digL, note_idx_mem (h a i k hk).1]⟩
theorem Kp.check {S : Bk} {hs : List (List UInt8)} (h : Kp S hs) (l : Ln) : Kp S (checkH S hs l) := by
  unfold checkH
  split
  · exact h.note _
  · exact h
theorem Kp.put {S : Bk} {hs : List (List UInt8)} (h : Kp S hs) {l : Ln} (h1 : l.sq = ((ofA S l.au).length : Int) + 1) (h2 : lastDg (ofA S l.au) = l.pv) : Kp (S ++ [(l.au, knL hs l)]) (Go.Proofs.Ytabcbpcfleociaa.note hs (bytesL l)) := by
  intro a i k hk
  by_cases ha : l.au = a
  · subst ha
    have e3 : ofA (S ++ [(l.au, knL hs l)]) l.au = ofA S l.au ++ [knL hs l] := by rw [ofA_app, ofA_one, if_pos rfl]
    rw [e3] at hk ⊢
    rcases Nat.lt_or_ge i (ofA S l.au).length with hi | hi
    · rw [List.getElem?_append_left hi] at hk
      have e4 : lnAt (ofA S l.au ++ [knL hs l]) l.au i k = lnAt (ofA S l.au) l.au i k := by unfold lnAt; rw [List.take_append_of_le_length (by omega)]
      rw [e4]
      exact h.note _ l.au i k hk
    · rw [List.getElem?_append_right hi] at hk
      obtain rfl : i = (ofA S l.au).length := by
        rcases hz : i - (ofA S l.au).length with _ | z
        · omega
        · rw [hz] at hk; simp at hk
      simp at hk
      subst hk
      have e4 : lnAt (ofA S l.au ++ [knL hs l]) l.au (ofA S l.au).length (knL hs l) = l := by
        unfold lnAt
        rw [List.take_left, h2, ← h1]
        rfl
      rw [e4]
      exact ⟨note_mem _ _, by show digL hs l = digL _ l; rw [digL, digL, note_idx]⟩
  · have e3 : ofA (S ++ [(l.au, knL hs l)]) a = ofA S a := by rw [ofA_app, ofA_one, if_neg ha, List.append_nil]
    rw [e3] at hk ⊢
    exact h.note _ a i k hk
theorem Kp.take {S : Bk} {hs : List (List UInt8)} (h : Kp S hs) (l : Ln) : Kp (takeS S hs l) (takeH S hs l) := by
  unfold takeS takeH
  split
  · rename_i hE
    exact h.put (checkE_zero hE).2 (checkE_zero2 hE).1
  · exact h.check l
theorem Reach.kp {n : Nat} {S : Bk} {hs : List (List UInt8)} (h : Reach n S hs) : Kp S hs := by
  induction h with
  | nil => intro a i k hk; simp [ofA] at hk
  | step l h ih => exact (ih.check l).take l
theorem getS_append : ∀ (L1 L2 : List Ln) (S : Bk) (hs : List (List UInt8)), getS (L1 ++ L2) S hs = getS L2 (getS L1 S hs).1 (getS L1 S hs).2
  | [], _, _, _ => rfl
  | x :: t, L2, S, hs => getS_append t L2 _ _
theorem getS_toLn {S : Bk} {hs : List (List UInt8)} (hk : Kp S hs) (a : Int) : ∀ (T P : List Kn) (S0 : Bk), ofA S a = P ++ T → ofA S0 a = P → getS (toLn a P.length T) S0 hs = (S0 ++ T.map (fun k => (a, k)), hs)
  | [], P, S0, _, _ => by simp [toLn, getS]
  | k :: t, P, S0, e, e0 => by
    have hi : (ofA S a)[P.length]? = some k := by rw [e, List.getElem?_append_right (Nat.le_refl _)]; simp
    obtain ⟨h1, h2⟩ := hk a P.length k hi
    have e1 : gLn S0 ⟨a, (P.length : Int) + 1, k.ep, [], k.bd⟩ = lnAt (ofA S a) a P.length k := by
      unfold gLn lnAt
      simp only
      rw [e0, e, List.take_left]
    have e2 : note hs (bytesL (lnAt (ofA S a) a P.length k)) = hs := if_pos h1
    have e3 : knL hs (lnAt (ofA S a) a P.length k) = k := by
      unfold knL
      rw [← h2]
      rfl
    unfold toLn getS
    rw [e1, e2, e3]
    have e4 := getS_toLn hk a t (P ++ [k]) (S0 ++ [(a, k)]) (by rw [e]; simp) (by rw [ofA_app, ofA_one, if_pos rfl, e0])
    rw [List.length_append, List.length_singleton] at e4
    simp only
    rw [e4]
    simp
/-- The book that is read back. -/
def backB (S : Bk) : Nat → Bk
  | 0 => []
  | a + 1 => backB S a ++ (ofA S a).map (fun k => ((a : Int), k))
theorem ofA_map (L : List Kn) (a b : Int) : ofA (L.map fun k => (a, k)) b = if a = b then L else [] := by
  induction L with
  | nil => simp [ofA]
  | cons k t ih =>
    rw [List.map_cons, show ((a, k) :: t.map fun k => (a, k)) = [(a, k)] ++ t.map (fun k => (a, k)) from rfl, ofA_app, ofA_one, ih]
    by_cases h : a = b <;> simp [h]
theorem ofA_backB (S : Bk) (b : Int) : ∀ n : Nat, ofA (backB S n) b = if 0 ≤ b ∧ b < n then ofA S b else []
  | 0 => by rw [if_neg (by omega)]; rfl
  | n + 1 => by
    unfold backB
    rw [ofA_app, ofA_backB S b n, ofA_map]
    by_cases h : (n : Int) = b
    · subst h
      rw [if_neg (by omega), if_pos rfl, if_pos (by omega), List.nil_append]
    · rw [if_neg h, List.append_nil]
      by_cases h2 : 0 ≤ b ∧ b < n
      · rw [if_pos h2, if_pos (by omega)]
      · rw [if_neg h2, if_neg (by omega)]
theorem ofA_back {S : Bk} (hS : S.ok) (b : Int) : ofA (backB S 5) b = ofA S b := by
  rw [ofA_backB]
  split
  · rfl
  · rename_i h; exact (hS.out (by omega)).symm
theorem getS_back {S : Bk} {hs : List (List UInt8)} (hk : Kp S hs) : ∀ n : Nat, getS (backL S n) [] hs = (backB S n, hs)
  | 0 => rfl
  | n + 1 => by
    unfold backL backB
    rw [getS_append, getS_back hk n]
    exact getS_toLn hk n (ofA S n) [] _ rfl (by rw [ofA_backB, if_neg (by omega)])
/-- Epochs never fall: an author's links are read without an error. -/
theorem up_of {e : Int} : ∀ (L : List Kn), (∀ k ∈ L, e ≤ k.ep) → (∀ (i : Nat) (k k' : Kn), L[i]? = some k → L[i + 1]? = some k' → k.ep ≤ k'.ep) → upE e L
  | [], _, _ => trivial
  | k :: t, h1, h2 => by
    refine ⟨h1 k (by simp), ?_⟩
    suffices h : ∀ (t : List Kn) (k : Kn), (∀ (i : Nat) (q q' : Kn), (k :: t)[i]? = some q → (k :: t)[i + 1]? = some q' → q.ep ≤ q'.ep) → upE k.ep t from h t k h2
    intro t
    induction t with
    | nil => intro k _; trivial
    | cons q t ih =>
      intro k h
      exact ⟨h 0 k q rfl rfl, ih q (fun i x y hx hy => h (i + 1) x y (by simpa using hx) (by simpa using hy))⟩
theorem Reach.up {n : Nat} {S : Bk} {hs : List (List UInt8)} (h : Reach n S hs) (a : Int) : upE 1 (ofA S a) :=
  up_of _ (fun k hk => (h.ok.of hk).lo) (h.mono a)
end Go.Proofs.Ytabcbpcfleociaa

/- A reader's Err and Left by its state; books alike in each author are alike in bytes and heads. -/
namespace Go.Proofs.Ytabcbpcfleociaa
open Go.RowKit
set_option linter.unusedSimpArgs false
set_option linter.unusedVariables false
theorem RS.lt {w : World} {g : Nat} {l : List UInt8} {at_ : Nat} {e : Int} (h : RS w g l at_ e) : g < w.heap.size := by obtain ⟨_, _, h, _⟩ := h; exact h.lt
theorem RS.belowS {w w' : World} {g : Nat} {l : List UInt8} {at_ : Nat} {e : Int} (h : RS w g l at_ e) (hb : Below w.heap.size w w') : RS w' g l at_ e := h.block (hb.block g h.lt)
theorem errS_ (g : Nat) (l : List UInt8) (at_ : Nat) (e : Int) (w : World) (h : RS w g l at_ e) :
    Calls Try.prog 50 #[.pointer (some ⟨g, 0, none⟩)] w fun r w' => r = .returned (.int .i64 e) ∧ Below w.heap.size w w' := by
  obtain ⟨A, c, h1, h2⟩ := h
  refine (err_any g A _ c at_ e w h1).mono ?_
  rintro r w' ⟨rfl, rfl⟩
  exact ⟨rfl, Below.refl _ _⟩
theorem leftS_ (g : Nat) (l : List UInt8) (at_ : Nat) (e : Int) (w : World) (h : RS w g l at_ e) (hl : l.length ≤ 1000000) :
    Calls Try.prog 51 #[.pointer (some ⟨g, 0, none⟩)] w fun r w' => r = .returned (.int .i64 ((l.length : Int) - at_)) ∧ Below w.heap.size w w' := by
  obtain ⟨A, c, h1, h2⟩ := h
  refine (Left_any g A _ c at_ e w h1 (by omega) h2).mono ?_
  rintro r w' ⟨rfl, hs⟩
  exact ⟨rfl, hs.below _⟩
theorem putP_same {S T : Bk} (h : ∀ a, ofA S a = ofA T a) : ∀ n, putP S n = putP T n
  | 0 => rfl
  | n + 1 => by unfold putP; rw [putP_same h n, h]
theorem putL_back {S : Bk} (hS : S.ok) : putL (backB S 5) = putL S := putP_same (ofA_back hS) 5
theorem vecP_same {S T : Bk} (h : ∀ a, ofA S a = ofA T a) : ∀ n, vecP S n = vecP T n
  | 0 => rfl
  | n + 1 => by unfold vecP headL; rw [vecP_same h n, h]
theorem vecL_back {S : Bk} (hS : S.ok) : vecL (backB S 5) = vecL S := vecP_same (ofA_back hS) 5
end Go.Proofs.Ytabcbpcfleociaa
