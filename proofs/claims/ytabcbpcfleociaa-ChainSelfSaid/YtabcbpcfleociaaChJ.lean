/- A book and an ideal suite, side by side; the law's awake. -/
import Derived.Test.YtabcbpcfleociaaChI
namespace Go.Proofs.Ytabcbpcfleociaa
open Go.RowKit Go.Maps
attribute [local go_sem ↓] Go.wp_at_zero Go.wp_at_succ
set_option linter.unusedSimpArgs false
set_option linter.unusedVariables false
theorem BookAt.anyR {w : World} {g : Nat} {own R : List Nat} (h : BookAt w g [] own R) (R' : List Nat) : BookAt w g [] own R' := by
  obtain ⟨b, n, f, hv⟩ := h
  refine ⟨b, n, f, hv.blk, hv.map, hv.le, hv.sm, fun a => ?_, hv.ok, hv.og, hv.ob, hv.lt⟩
  obtain ⟨A, c, e, hc, hr⟩ := hv.rows a
  exact ⟨A, c, e, hc, hr.1, fun b o h => absurd h (by rw [ofA_nil]; simp)⟩
theorem IdealAt.anyR {w : World} {g : Nat} {own R : List Nat} (h : IdealAt w g [] own R) (R' : List Nat) : IdealAt w g [] own R' := by
  obtain ⟨A, c, b, Qs, f, hv⟩ := h
  exact ⟨A, c, b, Qs, f, hv.blk, hv.map, hv.at_, hv.row, hv.qs, fun i q h hq hh => by simp at hh, hv.og, hv.ob, hv.oA, hv.lt⟩
/-- A book and a suite; X: the blocks that others own. -/
structure PairAt (w : World) (gb gi : Nat) (S : Bk) (hs : List (List UInt8)) (ob oi X : List Nat) : Prop where
  bk : BookAt w gb S ob (oi ++ X)
  id : IdealAt w gi hs oi (ob ++ X)
  dj : ∀ k, k ∈ oi → k ∉ ob
  xl : ∀ k, k ∈ X → k < w.heap.size
  xd : ∀ k, k ∈ X → k ∉ ob ∧ k ∉ oi
theorem PairAt.keep {w w' : World} {gb gi : Nat} {S : Bk} {hs : List (List UInt8)} {ob oi X o2 o2' X' : List Nat} (h : PairAt w gb gi S hs ob oi X) (hf : Fr o2 w w' o2') (h1 : ∀ k, k ∈ o2 → k ∈ X) (h3 : ∀ k, k ∈ X' → k ∈ X ∨ w.heap.size ≤ k) (h4 : ∀ k, k ∈ X' → k < w'.heap.size) : PairAt w' gb gi S hs ob oi X' := by
  refine ⟨h.bk.keep hf (fun k hk => List.mem_append.2 (Or.inr (h1 k hk))) (fun k hk => (h.xd k (h1 k hk)).1) (fun k hk => ?_), h.id.keep hf (fun k hk => List.mem_append.2 (Or.inr (h1 k hk))) (fun k hk => (h.xd k (h1 k hk)).2) (fun k hk => ?_), h.dj, h4, fun k hk => ?_⟩
  · rcases List.mem_append.1 hk with h5 | h5
    · exact Or.inl (List.mem_append.2 (Or.inl h5))
    · exact (h3 k h5).imp (fun h6 => List.mem_append.2 (Or.inr h6)) fun h => h
  · rcases List.mem_append.1 hk with h5 | h5
    · exact Or.inl (List.mem_append.2 (Or.inl h5))
    · exact (h3 k h5).imp (fun h6 => List.mem_append.2 (Or.inr h6)) fun h => h
  · rcases h3 k hk with h5 | h5
    · exact h.xd k h5
    · exact ⟨fun hm => absurd (h.bk.lt k hm) (by omega), fun hm => absurd (note_lt h.id k hm) (by omega)⟩
theorem PairAt.below {w w' : World} {gb gi : Nat} {S : Bk} {hs : List (List UInt8)} {ob oi X : List Nat} (h : PairAt w gb gi S hs ob oi X) (hb : Below w.heap.size w w') : PairAt w' gb gi S hs ob oi X :=
  h.keep (o2 := []) (o2' := []) (Fr.below hb) (fun _ h => absurd h (by simp)) (fun k hk => Or.inl hk) (fun k hk => Nat.lt_of_lt_of_le (h.xl k hk) hb.size)
theorem PairAt.check {w : World} {gb gi : Nat} {S : Bk} {hs : List (List UInt8)} {ob oi X : List Nat} (h : PairAt w gb gi S hs ob oi X) (l : Ln) (A : Option Addr) (n c : Nat) (B : Option Addr) (m d : Nat)
    (hp : Rd w w.heap.size 1 A n (l.pv.map B8)) (hq : Rd w w.heap.size 1 B m (l.bd.map B8)) (hn : hs.length ≤ 1000000) :
    Calls Try.prog 20 #[.pointer (some ⟨gb, 0, none⟩), .iface 27 (.pointer (some ⟨gi, 0, none⟩)), lnV l A n c B m d] w fun e w' => ∃ oi', e = .returned (.int .i64 (checkE S hs l)) ∧ PairAt w' gb gi S (checkH S hs l) ob oi' X ∧ Fr oi w w' oi' := by
  refine (check_ gb S ob (oi ++ X) gi hs oi (ob ++ X) l A n c B m d w h.bk h.id hp hq (fun k hk => List.mem_append.2 (Or.inl hk)) hn (fun k hk => ?_)).mono ?_
  · rcases List.mem_append.1 hk with h1 | h1
    · exact h.bk.lt k h1
    · exact h.xl k h1
  · rintro e w' ⟨oi', rfl, hi, hf⟩
    refine ⟨oi', rfl, ⟨h.bk.keep hf (fun k hk => List.mem_append.2 (Or.inl hk)) h.dj (fun k hk => ?_), hi, fun k hk hm => ?_, fun k hk => Nat.lt_of_lt_of_le (h.xl k hk) hf.size, fun k hk => ⟨(h.xd k hk).1, fun hm => ?_⟩⟩, hf⟩
    · rcases List.mem_append.1 hk with h1 | h1
      · exact (hf.sub k h1).imp (fun h2 => List.mem_append.2 (Or.inl h2)) fun h => h
      · exact Or.inl (List.mem_append.2 (Or.inr h1))
    · rcases hf.sub k hk with h1 | h1
      · exact h.dj k h1 hm
      · exact absurd (h.bk.lt k hm) (by omega)
    · rcases hf.sub k hm with h1 | h1
      · exact (h.xd k hk).2 h1
      · exact absurd (h.xl k hk) (by omega)
theorem PairAt.take {w : World} {gb gi : Nat} {S : Bk} {hs : List (List UInt8)} {ob oi X : List Nat} (h : PairAt w gb gi S hs ob oi X) (l : Ln) (A : Option Addr) (n c : Nat) (B : Option Addr) (m d : Nat)
    (hp : RdN oi w 1 A n (l.pv.map B8)) (hq : RdN oi w 1 B m (l.bd.map B8)) (hn : hs.length ≤ 1000000) (hS : S.length < 1048576) :
    Calls Try.prog 21 #[.pointer (some ⟨gb, 0, none⟩), .iface 27 (.pointer (some ⟨gi, 0, none⟩)), lnV l A n c B m d] w fun e w' => ∃ oi', e = .returned (.int .i64 (checkE S hs l)) ∧ PairAt w' gb gi (takeS S hs l) (takeH S hs l) ob oi' X ∧ Fr (ob ++ oi) w w' (ob ++ oi') := by
  refine (take_ gb S ob (oi ++ X) gi hs oi (ob ++ X) l A n c B m d w h.bk h.id hp hq (fun k hk => List.mem_append.2 (Or.inl hk)) (fun k hk => List.mem_append.2 (Or.inl hk)) h.dj hn hS (fun k hk => ?_) (fun k hk => ?_)).mono ?_
  · rcases List.mem_append.1 hk with h1 | h1
    · exact h.bk.lt k h1
    · exact h.xl k h1
  · rcases List.mem_append.1 hk with h1 | h1
    · exact note_lt h.id k h1
    · exact h.xl k h1
  · rintro e w' ⟨oi', rfl, hi, hb, hf, hs'⟩
    refine ⟨oi', rfl, ⟨hb.keep (own2 := []) (own2' := []) (Fr.below (Below.refl _ _)) (fun _ h => absurd h (by simp)) (fun _ h => absurd h (by simp)) (fun k hk => ?_), hi, fun k hk hm => ?_, fun k hk => Nat.lt_of_lt_of_le (h.xl k hk) hf.size, fun k hk => ⟨(h.xd k hk).1, fun hm => ?_⟩⟩, hf⟩
    · rcases List.mem_append.1 hk with h1 | h1
      · exact Or.inl (List.mem_append.2 (Or.inr h1))
      · exact Or.inl (List.mem_append.2 (Or.inl (List.mem_append.2 (Or.inr h1))))
    · rcases hs' k hk with h1 | h1
      · exact h.dj k h1 hm
      · exact absurd (h.bk.lt k hm) (by omega)
    · rcases hs' k hm with h1 | h1
      · exact (h.xd k hk).2 h1
      · exact absurd (h.xl k hk) (by omega)
theorem PairAt.begun {w w1 w2 : World} {gb gi : Nat} {ob oi X : List Nat} (hb : BookAt w1 gb [] ob []) (h1 : Below w.heap.size w w1) (hbn : ∀ k, k ∈ ob → w.heap.size ≤ k) (hi : IdealAt w2 gi [] oi []) (h2 : Below w1.heap.size w1 w2) (hin : ∀ k, k ∈ oi → w1.heap.size ≤ k) (hX : ∀ k, k ∈ X → k < w.heap.size) : PairAt w2 gb gi [] [] ob oi X :=
  ⟨(hb.below h2).anyR _, hi.anyR _, fun k hk hm => absurd (hb.lt k hm) (by have := hin k hk; omega), fun k hk => Nat.lt_of_lt_of_le (hX k hk) (Nat.le_trans h1.size h2.size), fun k hk => ⟨fun hm => absurd (hX k hk) (by have := hbn k hm; omega), fun hm => absurd (hX k hk) (by have := hin k hm; have := h1.size; omega)⟩⟩
theorem PairAt.begun' {w w1 w2 : World} {gb gi : Nat} {ob oi X : List Nat} (hi : IdealAt w1 gi [] oi []) (h1 : Below w.heap.size w w1) (hin : ∀ k, k ∈ oi → w.heap.size ≤ k) (hb : BookAt w2 gb [] ob []) (h2 : Below w1.heap.size w1 w2) (hbn : ∀ k, k ∈ ob → w1.heap.size ≤ k) (hX : ∀ k, k ∈ X → k < w.heap.size) : PairAt w2 gb gi [] [] ob oi X :=
  ⟨hb.anyR _, (hi.below h2).anyR _, fun k hk hm => absurd (note_lt hi k hk) (by have := hbn k hm; omega), fun k hk => Nat.lt_of_lt_of_le (hX k hk) (Nat.le_trans h1.size h2.size), fun k hk => ⟨fun hm => absurd (hX k hk) (by have := hbn k hm; have := h1.size; omega), fun hm => absurd (hX k hk) (by have := hin k hm; omega)⟩⟩
/-- The body of a link of the laws. -/
def body8 (b : UInt8) : List UInt8 := List.replicate 31 0 ++ [b]
theorem body8_len (b : UInt8) : (body8 b).length = 32 := rfl
theorem cells_zero31 : (madeCells (Value.int .u8 0).cells (31 * 1)).toList = (List.replicate 31 (0 : UInt8)).map B8 := by
  show (madeCells #[Value.int .u8 0] (31 * 1)).toList = _
  rw [Nat.mul_one, toList_madeCells_one]
  simp only [List.map_replicate]
  rfl
set_option maxRecDepth 4000 in
set_option maxHeartbeats 1000000 in
theorem body_ (b : UInt8) (x : Int) (hx : x = b.toNat) (w : World) : Calls Try.prog 53 #[.int .u8 x] w fun e w' => ∃ A c, e = .returned (.slice A 32 c) ∧ OwnS w' w.heap.size A 32 c ((body8 b).map B8) ∧ Below w.heap.size w w' := by
  subst hx
  obtain ⟨i, hi, hz, hsize, hby⟩ := info_parts info8
  go_enter Try.func53, Try.ntmps53
  go_wp2_with (first
    | (at_make
       refine wpList_make_full _ rfl (.const (.int .i64 31)) (.const (.int .i64 31)) 38 rfl w.heap.size 5 i (.int .u8 0) 1 Try.underlying38 hi hz hsize _ _ _ _ 31 rfl rfl rfl rfl (by rw [hby]; omega) (by simp only [maxLen]; omega) (Nat.le_refl _) ?_
       intro w1 h1 hg1
       have B1 : Hid (Below w.heap.size w w1) := (Below.refl _ _).grown hg1 (Nat.le_refl _) (fun k hk => by cases hk)
       have O1 : Hid (w1.ownsRow w.heap.size 5 1 (.slice (some ⟨w.heap.size, 0, none⟩) 31 31) 31 ((List.replicate 31 (0 : UInt8)).map B8)) := by rw [← cells_zero31]; exact h1
       clear h1)
    | (at_builtin
       have hlit := Lib.hid (one_lit w1 b)
       have OA := Lib.hid (own_below O1.out ((Below.refl w1.heap.size w1).alloc (Nat.le_refl _) (.cells #[.int .u8 (b.toNat : Int)] 5)))
       have BA := Lib.hid (B1.out.alloc B1.out.size (.cells #[.int .u8 (b.toNat : Int)] 5))
       refine wpList_app rfl (.tmp 3) (.tmp 5) 38 rfl w.heap.size 5 1 1 (.int .u8 0) Try.underlying38 infoB rfl (by decide) _ 31 _ rfl OA.out _ (some ⟨w1.heap.size, 0, none⟩) 1 1 (([b] : List UInt8).map B8) rfl hlit.out (oneB [b]) (by simp only [maxLen]; omega) (by omega) BA.out.size ?_
       intro A2 c2 w2 h2 hg2 _
       have O2 : Hid (OwnS w2 w.heap.size A2 32 c2 ((body8 b).map B8)) := by
         rw [← List.map_append] at h2
         exact OwnS.of_own h2
       have B2 := Lib.hid (BA.out.trans (below_grown hg2 (own_block_ge OA.out) BA.out.size))
       clear h2 hg2))
  go_ret
  exact ⟨A2, c2, rfl, O2.out, B2.out⟩
end Go.Proofs.Ytabcbpcfleociaa
