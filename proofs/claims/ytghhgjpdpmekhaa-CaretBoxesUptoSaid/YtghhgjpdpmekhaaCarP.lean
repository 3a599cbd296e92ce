/- The plain law of carets: on lists of runes and whole numbers; no program in sight. -/
import Derived.WalkKit
import Derived.Lib.OthersKept
namespace Go.Proofs.Ytghhgjpdpmekhaa

theorem adv (s : ByteArray) (pos : Nat) (h : pos < s.size) : 1 ≤ (Utf8.decode s pos).2 := by
  by_cases ha : (s[pos]'h).toNat < 128
  · rw [decode_ascii s pos h ha]; exact Nat.le_refl _
  · exact (decode_high s pos h (by omega)).2

/-- The runes of a string from a place on. -/
def decs (s : ByteArray) : Nat → Nat → List Int
  | 0, _ => []
  | f + 1, pos => if pos < s.size then ((Utf8.decode s pos).1 : Int) :: decs s f (pos + (Utf8.decode s pos).2) else []
theorem decs_more (s : ByteArray) : ∀ (f g pos : Nat), s.size - pos ≤ f → s.size - pos ≤ g → decs s f pos = decs s g pos := by
  intro f
  induction f with
  | zero =>
    intro g pos h1 _
    cases g with
    | zero => rfl
    | succ g => simp only [decs]; rw [if_neg (by omega)]
  | succ f ih =>
    intro g pos h1 h2
    cases g with
    | zero => simp only [decs]; rw [if_neg (by omega)]
    | succ g =>
      simp only [decs]
      by_cases hp : pos < s.size
      · rw [if_pos hp, if_pos hp]
        have := adv s pos hp
        rw [ih g _ (by omega) (by omega)]
      · rw [if_neg hp, if_neg hp]
def runes (s : ByteArray) (pos : Nat) : List Int := decs s (s.size - pos) pos
theorem runes_next (s : ByteArray) (pos : Nat) (h : pos < s.size) : runes s pos = ((Utf8.decode s pos).1 : Int) :: runes s (pos + (Utf8.decode s pos).2) := by
  have ha := adv s pos h
  unfold runes
  obtain ⟨f, hf⟩ : ∃ f, s.size - pos = f + 1 := ⟨s.size - pos - 1, by omega⟩
  rw [hf]
  simp only [decs]
  rw [if_pos h, decs_more s f (s.size - (pos + (Utf8.decode s pos).2)) _ (by omega) (by omega)]
theorem runes_end (s : ByteArray) (pos : Nat) (h : ¬ pos < s.size) : runes s pos = [] := by
  unfold runes
  rw [show s.size - pos = 0 by omega]; rfl
theorem runes_len (s : ByteArray) : ∀ (f pos : Nat), s.size - pos ≤ f → (runes s pos).length ≤ s.size - pos := by
  intro f
  induction f with
  | zero => intro pos h; rw [runes_end s pos (by omega)]; simp
  | succ f ih =>
    intro pos h
    by_cases hp : pos < s.size
    · rw [runes_next s pos hp]
      have := adv s pos hp
      have := ih (pos + (Utf8.decode s pos).2) (by omega)
      simp only [List.length_cons]; omega
    · rw [runes_end s pos hp]; simp

def wid (c : Int) : Int := if c = 10 then 0 else if 4352 ≤ c then 2 else 1
theorem wid_bd (c : Int) : 0 ≤ wid c ∧ wid c ≤ 2 := by unfold wid; (repeat' split) <;> omega

abbrev Pen := Int × Int
/-- Where the pen stands for a rune: at the next line's beginning if there is no room. -/
def penAt (cols : Int) (c : Int) (p : Pen) : Pen := if c ≠ 10 ∧ cols < p.1 + wid c then (0, p.2 + 1) else p
def penOn (c : Int) (p : Pen) : Pen := if c = 10 then (0, p.2 + 1) else (p.1 + wid c, p.2)
def placesL (cols : Int) : List Int → Pen → List Pen
  | [], p => [p]
  | c :: cs, p => penAt cols c p :: placesL cols cs (penOn c (penAt cols c p))
theorem placesL_len (cols : Int) : ∀ (cs : List Int) (p : Pen), (placesL cols cs p).length = cs.length + 1
  | [], _ => rfl
  | c :: cs, p => by simp [placesL, placesL_len cols cs]
def carets (s : ByteArray) (cols : Int) : List Pen := placesL cols (runes s 0) (0, 0)
theorem carets_len (s : ByteArray) (cols : Int) : (carets s cols).length = (runes s 0).length + 1 := placesL_len _ _ _
theorem carets_le (s : ByteArray) (cols : Int) : (carets s cols).length ≤ s.size + 1 := by
  have := runes_len s s.size 0 (by omega)
  rw [carets_len]; omega

theorem penAt_bd {cols c : Int} {p : Pen} {m : Int} (h2 : 2 ≤ cols) (hx : 0 ≤ p.1 ∧ p.1 ≤ cols) (hy : 0 ≤ p.2 ∧ p.2 ≤ m) :
    (0 ≤ (penAt cols c p).1 ∧ (penAt cols c p).1 + wid c ≤ cols) ∧ (0 ≤ (penAt cols c p).2 ∧ (penAt cols c p).2 ≤ m + 1) := by
  have hw := wid_bd c
  unfold penAt
  split
  · rename_i h; (try simp only); omega
  · rename_i h
    have : c = 10 → wid c = 0 := by intro h; subst h; rfl
    by_cases hc : c = 10
    · have := this hc; omega
    · have : ¬ cols < p.1 + wid c := fun h' => h ⟨hc, h'⟩
      omega
theorem penOn_bd {cols c : Int} {p : Pen} {m : Int} (hx : 0 ≤ p.1 ∧ p.1 + wid c ≤ cols) (h2 : 0 ≤ cols) (hy : 0 ≤ p.2 ∧ p.2 ≤ m) :
    (0 ≤ (penOn c p).1 ∧ (penOn c p).1 ≤ cols) ∧ (0 ≤ (penOn c p).2 ∧ (penOn c p).2 ≤ m + 1) := by
  have hw := wid_bd c
  unfold penOn
  split <;> (try simp only) <;> omega
/-- A rune moves the pen at most one line in all. -/
theorem pen_line {cols c : Int} {p : Pen} (h2 : 2 ≤ cols) : (penOn c (penAt cols c p)).2 ≤ p.2 + 1 := by
  unfold penOn penAt
  by_cases hc : c = 10
  · simp [hc]
  · rw [if_neg hc]
    split <;> simp only <;> omega

/-- How a caret stands to the one behind it. -/
def Nx (p q : Pen) : Prop := (q.2 = p.2 ∧ p.1 ≤ q.1) ∨ (q.2 = p.2 + 1 ∧ q.1 = 0)
def Ok (cols : Int) (p : Pen) : Prop := 0 ≤ p.1 ∧ p.1 ≤ cols ∧ 0 ≤ p.2

theorem placesL_head (cols : Int) (h2 : 2 ≤ cols) : ∀ (cs : List Int) (p : Pen), Ok cols p → ∃ q t, placesL cols cs p = q :: t ∧ (q = p ∨ (q = (0, p.2 + 1) ∧ 0 < p.1))
  | [], p, _ => ⟨p, [], rfl, .inl rfl⟩
  | c :: cs, p, ho => by
    refine ⟨penAt cols c p, _, rfl, ?_⟩
    unfold penAt
    split
    · rename_i h
      have := wid_bd c
      exact .inr ⟨rfl, by omega⟩
    · exact .inl rfl
theorem placesL_ok (cols : Int) (h2 : 2 ≤ cols) : ∀ (cs : List Int) (p : Pen), Ok cols p → ∀ q ∈ placesL cols cs p, Ok cols q
  | [], p, ho => by intro q hq; simp [placesL] at hq; subst hq; exact ho
  | c :: cs, p, ho => by
    intro q hq
    obtain ⟨ho1, ho2, ho3⟩ := ho
    have h1 := penAt_bd (c := c) (p := p) (m := p.2) h2 ⟨ho1, ho2⟩ ⟨ho3, by omega⟩
    have h3 := penOn_bd (m := (penAt cols c p).2) h1.1 (by omega) ⟨h1.2.1, by omega⟩
    simp only [placesL, List.mem_cons] at hq
    rcases hq with rfl | hq
    · have := wid_bd c; exact ⟨h1.1.1, by omega, h1.2.1⟩
    · exact placesL_ok cols h2 cs _ ⟨h3.1.1, h3.1.2, h3.2.1⟩ q hq
theorem placesL_nx (cols : Int) (h2 : 2 ≤ cols) : ∀ (cs : List Int) (p : Pen), Ok cols p → ∀ (i : Nat) (a b : Pen), (placesL cols cs p)[i]? = some a → (placesL cols cs p)[i + 1]? = some b → Nx a b
  | [], p, _ => by intro i a b _ hb; simp [placesL] at hb
  | c :: cs, p, ho => by
    obtain ⟨ho1, ho2, ho3⟩ := ho
    have h1 := penAt_bd (c := c) (p := p) (m := p.2) h2 ⟨ho1, ho2⟩ ⟨ho3, by omega⟩
    have h3 := penOn_bd (m := (penAt cols c p).2) h1.1 (by omega) ⟨h1.2.1, by omega⟩
    have hok : Ok cols (penOn c (penAt cols c p)) := ⟨h3.1.1, h3.1.2, h3.2.1⟩
    intro i a b ha hb
    cases i with
    | succ i =>
      simp only [placesL, List.getElem?_cons_succ] at ha hb
      exact placesL_nx cols h2 cs _ hok i a b ha hb
    | zero =>
      obtain ⟨q, t, hq, hq2⟩ := placesL_head cols h2 cs _ hok
      simp only [placesL, List.getElem?_cons_zero, List.getElem?_cons_succ, hq, Option.some.injEq] at ha hb
      subst ha hb
      have hw := wid_bd c
      unfold Nx
      rcases hq2 with rfl | ⟨rfl, hpos⟩
      · unfold penOn
        split
        · right; exact ⟨rfl, rfl⟩
        · left; exact ⟨rfl, by (try simp only); omega⟩
      · right
        unfold penOn at hpos ⊢
        split at hpos
        · simp at hpos
        · rename_i hc
          rw [if_neg hc]; exact ⟨rfl, rfl⟩

theorem step_carets {s : ByteArray} {cols : Int} {L acc : List Pen} {pos : Nat} {p q r : Pen} (h : L = acc ++ placesL cols (runes s pos) p) (hp : pos < s.size)
    (hq : penAt cols ((Utf8.decode s pos).1 : Int) p = q) (hr : penOn ((Utf8.decode s pos).1 : Int) q = r) : L = (acc ++ [q]) ++ placesL cols (runes s (pos + (Utf8.decode s pos).2)) r := by
  rw [runes_next s pos hp] at h
  simp only [placesL] at h
  rw [hq, hr] at h
  rw [h, List.append_assoc]; rfl
end Go.Proofs.Ytghhgjpdpmekhaa
