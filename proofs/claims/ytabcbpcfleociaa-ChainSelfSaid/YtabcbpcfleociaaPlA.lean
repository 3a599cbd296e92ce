/- The law's pair: a book and a suite, and the document's; begun. -/
import Derived.Test.YtabcbpcfleociaaRbD
namespace Go.Proofs.Ytabcbpcfleociaa
open Go.RowKit
attribute [local go_sem ↓] Go.wp_at_zero Go.wp_at_succ
set_option linter.unusedSimpArgs false
set_option linter.unusedVariables false
/-- The law's pair: where the book and the suite lie, their blocks; the document's links and vault. -/
structure Pl where
  gb : Nat
  gi : Nat
  A : Option Addr
  n : Nat
  c : Nat
  V : Option Addr
  vn : Nat
  vc : Nat
  ob : List Nat
  oi : List Nat
def plC (p : Pl) : List Value := [.pointer (some ⟨p.gb, 0, none⟩), .pointer (some ⟨p.gi, 0, none⟩), .slice p.A p.n p.c, .slice p.V p.vn p.vc, .int .i64 0]
def plV (p : Pl) : Value := .agg #[.pointer (some ⟨p.gb, 0, none⟩), .pointer (some ⟨p.gi, 0, none⟩), .slice p.A p.n p.c, .slice p.V p.vn p.vc, .int .i64 0]
/-- Both know S, and have hashed hs. B: all of theirs lies at or above it; X: the blocks of others. -/
structure Play (w : World) (B : Nat) (p : Pl) (S : Bk) (hs : List (List UInt8)) (X : List Nat) : Prop where
  pr : PairAt w p.gb p.gi S hs p.ob p.oi X
  rk : RkN (p.ob ++ p.oi ++ X) w p.A p.n S
  vt : VtN (p.ob ++ p.oi ++ X) w p.V p.vn hs
  vc : p.vn ≤ p.vc
  lo : ∀ k, k ∈ p.ob ++ p.oi → B ≤ k
theorem VtN.len {no : List Nat} {w : World} {A : Option Addr} {n : Nat} {hs : List (List UInt8)} (h : VtN no w A n hs) : hs.length = n := by obtain ⟨_, _, h, _⟩ := h; exact h
theorem Play.lt {w : World} {B : Nat} {p : Pl} {S : Bk} {hs : List (List UInt8)} {X : List Nat} (h : Play w B p S hs X) : ∀ k, k ∈ p.ob ++ p.oi ++ X → k < w.heap.size := by
  intro k hk
  rcases List.mem_append.1 hk with h1 | h1
  · rcases List.mem_append.1 h1 with h2 | h2
    · exact h.pr.bk.lt k h2
    · exact note_lt h.pr.id k h2
  · exact h.pr.xl k h1
theorem Play.below {w w' : World} {B : Nat} {p : Pl} {S : Bk} {hs : List (List UInt8)} {X : List Nat} (h : Play w B p S hs X) (hb : Below w.heap.size w w') : Play w' B p S hs X :=
  ⟨h.pr.below hb, h.rk.below hb, h.vt.below hb, h.vc, h.lo⟩
set_option maxRecDepth 4000 in
set_option maxHeartbeats 1000000 in
theorem begun_ (X : List Nat) (w : World) (hX : ∀ k, k ∈ X → k < w.heap.size) :
    Calls Try.prog 16 #[] w fun e w' => ∃ p, e = .returned (plV p) ∧ Play w' w.heap.size p [] [] X ∧ Below w.heap.size w w' := by
  obtain ⟨W, hW⟩ : ∃ W, Hid (W = w.alloc (.cells #[.pointer none, .pointer none, .slice none 0 0, .slice none 0 0, .int .i64 0] 35)) := ⟨_, Lib.hid rfl⟩
  obtain ⟨G, hG⟩ : ∃ g, Hid (g = w.heap.size) := ⟨_, Lib.hid rfl⟩
  have BW : Hid (Below w.heap.size w W) := by rw [hW.out]; exact (Below.refl _ _).alloc (Nat.le_refl _) _
  have RW : Hid (W.heap[G]? = some (.cells #[.pointer none, .pointer none, .slice none 0 0, .slice none 0 0, .int .i64 0] 35 (0, 0))) := by unfold Hid; rw [hW.out, hG.out]; exact heap_alloc_new _ _
  have hGW : Hid (G < W.heap.size) := lt_of_blk RW.out
  have HX := Lib.hid hX
  clear hX
  go_enter Try.func16, Try.ntmps16
  go_wp2_with fail
  rw [← hW.out, ← hG.out]
  refine (new_ W).mono ?_
  rintro e u ⟨gb, ob, rfl, k1, h1, b1⟩
  have K1 := Lib.hid k1
  have H1 := Lib.hid h1
  have B1 := Lib.hid b1
  clear k1 h1 b1
  go_wp2_with fail
  refine (newIdeal_ u).mono ?_
  rintro e v ⟨gi, oi, rfl, i2, h2, b2⟩
  have P2 : Hid (PairAt v gb gi [] [] ob oi (G :: X)) := PairAt.begun K1.out B1.out H1.out i2 b2 h2 (fun k hk => by rcases List.mem_cons.1 hk with h | h; exact h ▸ hGW.out; exact Nat.lt_of_lt_of_le (HX.out k h) BW.out.size)
  have H2 := Lib.hid h2
  have B2 := Lib.hid (B1.out.trans (b2.mono B1.out.size))
  have hg : v.heap[G]? = some (.cells #[.pointer none, .pointer none, .slice none 0 0, .slice none 0 0, .int .i64 0] 35 (0, 0)) := (B2.out.block G hGW.out).trans RW.out
  clear i2 h2 b2
  go_wp2_with (refine wpList_store_row rfl 35 (.tmp 0) (.tmp 3) rfl G #[.pointer (some ⟨gb, 0, none⟩), .pointer (some ⟨gi, 0, none⟩), .slice none 0 0, .slice none 0 0, .int .i64 0] rfl (by first | rfl | kernel_rfl) _ _ hg (by kernel_rfl) rfl (by kernel_rfl) ?_)
  generalize hQ : World.setRow _ _ _ = Z
  have hQg : Z.heap[G]? = some (.cells #[.pointer (some ⟨gb, 0, none⟩), .pointer (some ⟨gi, 0, none⟩), .slice none 0 0, .slice none 0 0, .int .i64 0] 35 (0, 0)) := by rw [← hQ]; exact setRow_heap _ _ _ _ _ _ hg
  have hF : Fr [G] v Z [G] := by rw [← hQ]; exact setRow_fr _ _ _
  have hQb : Below w.heap.size w Z := by rw [← hQ]; exact below_setRow (BW.out.trans (B2.out.mono BW.out.size)) (by have := hG.out; omega) _
  have hlo : ∀ k, k ∈ ob ++ oi → W.heap.size ≤ k := fun k hk => by
    rcases List.mem_append.1 hk with h | h
    · exact H1.out k h
    · exact Nat.le_trans B1.out.size (H2.out k h)
  refine bodyPost_ret (v := plV ⟨gb, gi, none, 0, 0, none, 0, 0, ob, oi⟩) (results_cell Try.results16 rfl (run_loadVar_mid (P := Try.prog) Z G 0 35 _ _ (range_of hQg) Try.underlying35 rfl (by kernel_rfl))) rfl ?_
  refine ⟨_, rfl, ⟨?_, RkN.nil _ _ _, VtN.nil _ _ _, Nat.le_refl _, fun k hk => Nat.le_trans BW.out.size (hlo k hk)⟩, hQb⟩
  exact P2.out.keep hF (fun k hk => by simp at hk; simp [hk]) (fun k hk => Or.inl (List.mem_cons_of_mem _ hk)) (fun k hk => Nat.lt_of_lt_of_le (HX.out k hk) hQb.size)
end Go.Proofs.Ytabcbpcfleociaa
