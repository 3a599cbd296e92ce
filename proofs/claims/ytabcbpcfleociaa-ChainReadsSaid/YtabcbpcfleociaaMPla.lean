/- The law's pair: a book and a suite, and the document's; begun. -/
import Derived.Test.YtabcbpcfleociaaMRbD
import Derived.Test.YtabcbpcfleociaaMReg
import Derived.Test.YtabcbpcfleociaaMFro
import Derived.Test.YtabcbpcfleociaaMSui
import Derived.Deep.Cut
namespace Go.Proofs.Ytabcbpcfleociaa
open Go.RowKit
attribute [local go_sem ↓] Go.wp_at_zero Go.wp_at_succ
set_option linter.unusedSimpArgs false
set_option linter.unusedVariables false
/-- The law's pair: where the book and the suite lie, their blocks; the document's links and vault. -/
structure Pl where
  gb : Nat
  gi : Nat
  A : Option Addr
  n : Nat
  c : Nat
  V : Option Addr
  vn : Nat
  vc : Nat
  ob : List Nat
  oi : List Nat
def plC (p : Pl) : List Value := [.pointer (some ⟨p.gb, 0, none⟩), .pointer (some ⟨p.gi, 0, none⟩), .slice p.A p.n p.c, .slice p.V p.vn p.vc, .int .i64 0]
def plV (p : Pl) : Value := .agg #[.pointer (some ⟨p.gb, 0, none⟩), .pointer (some ⟨p.gi, 0, none⟩), .slice p.A p.n p.c, .slice p.V p.vn p.vc, .int .i64 0]
/-- Both know S, and have hashed hs. B: all of theirs lies at or above it; X: the blocks of others. -/
structure Play (w : World) (B : Nat) (p : Pl) (S : Bk) (hs : List (List UInt8)) (X : List Nat) : Prop where
  pr : PairAt w p.gb p.gi S hs p.ob p.oi X
  rk : RkN (p.ob ++ p.oi ++ X) w p.A p.n S
  vt : VtN (p.ob ++ p.oi ++ X) w p.V p.vn hs
  vc : p.vn ≤ p.vc
  lo : ∀ k, k ∈ p.ob ++ p.oi → B ≤ k
theorem VtN.len {no : List Nat} {w : World} {A : Option Addr} {n : Nat} {hs : List (List UInt8)} (h : VtN no w A n hs) : hs.length = n := by obtain ⟨_, _, h, _⟩ := h; exact h
theorem Play.lt {w : World} {B : Nat} {p : Pl} {S : Bk} {hs : List (List UInt8)} {X : List Nat} (h : Play w B p S hs X) : ∀ k, k ∈ p.ob ++ p.oi ++ X → k < w.heap.size := by
  intro k hk
  rcases List.mem_append.1 hk with h1 | h1
  · rcases List.mem_append.1 h1 with h2 | h2
    · exact h.pr.bk.lt k h2
    · exact note_lt h.pr.id k h2
  · exact h.pr.xl k h1
theorem Play.below {w w' : World} {B : Nat} {p : Pl} {S : Bk} {hs : List (List UInt8)} {X : List Nat} (h : Play w B p S hs X) (hb : Below w.heap.size w w') : Play w' B p S hs X :=
  ⟨h.pr.below hb, h.rk.below hb, h.vt.below hb, h.vc, h.lo⟩
set_option maxRecDepth 4000 in
set_option maxHeartbeats 1000000 in
theorem begun_ (X : List Nat) (w : World) (hX : ∀ k, k ∈ X → k < w.heap.size) :
    Calls Try.prog 16 #[] w fun e w' => ∃ p, e = .returned (plV p) ∧ Play w' w.heap.size p [] [] X ∧ Below w.heap.size w w' := by
  obtain ⟨W, hW⟩ : ∃ W, Hid (W = w.alloc (.cells #[.pointer none, .pointer none, .slice none 0 0, .slice none 0 0, .int .i64 0] 35)) := ⟨_, Lib.hid rfl⟩
  obtain ⟨G, hG⟩ : ∃ g, Hid (g = w.heap.size) := ⟨_, Lib.hid rfl⟩
  have BW : Hid (Below w.heap.size w W) := by rw [hW.out]; exact (Below.refl _ _).alloc (Nat.le_refl _) _
  have RW : Hid (W.heap[G]? = some (.cells #[.pointer none, .pointer none, .slice none 0 0, .slice none 0 0, .int .i64 0] 35 (0, 0))) := by unfold Hid; rw [hW.out, hG.out]; exact heap_alloc_new _ _
  have hGW : Hid (G < W.heap.size) := lt_of_blk RW.out
  have HX := Lib.hid hX
  clear hX
  go_enter Try.func16, Try.ntmps16
  go_wp2_with fail
  rw [← hW.out, ← hG.out]
  refine (new_ W).mono ?_
  rintro e u ⟨gb, ob, rfl, k1, h1, b1⟩
  have K1 := Lib.hid k1
  have H1 := Lib.hid h1
  have B1 := Lib.hid b1
  clear k1 h1 b1
  go_wp2_with fail
  refine (newIdeal_ u).mono ?_
  rintro e v ⟨gi, oi, rfl, i2, h2, b2⟩
  have P2 : Hid (PairAt v gb gi [] [] ob oi (G :: X)) := PairAt.begun K1.out B1.out H1.out i2 b2 h2 (fun k hk => by rcases List.mem_cons.1 hk with h | h; exact h ▸ hGW.out; exact Nat.lt_of_lt_of_le (HX.out k h) BW.out.size)
  have H2 := Lib.hid h2
  have B2 := Lib.hid (B1.out.trans (b2.mono B1.out.size))
  have hg : v.heap[G]? = some (.cells #[.pointer none, .pointer none, .slice none 0 0, .slice none 0 0, .int .i64 0] 35 (0, 0)) := (B2.out.block G hGW.out).trans RW.out
  clear i2 h2 b2
  go_wp2_with (refine wpList_store_row rfl 35 (.tmp 0) (.tmp 3) rfl G #[.pointer (some ⟨gb, 0, none⟩), .pointer (some ⟨gi, 0, none⟩), .slice none 0 0, .slice none 0 0, .int .i64 0] rfl (by first | rfl | kernel_rfl) _ _ hg (by kernel_rfl) rfl (by kernel_rfl) ?_)
  generalize hQ : World.setRow _ _ _ = Z
  have hQg : Z.heap[G]? = some (.cells #[.pointer (some ⟨gb, 0, none⟩), .pointer (some ⟨gi, 0, none⟩), .slice none 0 0, .slice none 0 0, .int .i64 0] 35 (0, 0)) := by rw [← hQ]; exact setRow_heap _ _ _ _ _ _ hg
  have hF : Fr [G] v Z [G] := by rw [← hQ]; exact setRow_fr _ _ _
  have hQb : Below w.heap.size w Z := by rw [← hQ]; exact below_setRow (BW.out.trans (B2.out.mono BW.out.size)) (by have := hG.out; omega) _
  have hlo : ∀ k, k ∈ ob ++ oi → W.heap.size ≤ k := fun k hk => by
    rcases List.mem_append.1 hk with h | h
    · exact H1.out k h
    · exact Nat.le_trans B1.out.size (H2.out k h)
  refine bodyPost_ret (v := plV ⟨gb, gi, none, 0, 0, none, 0, 0, ob, oi⟩) (results_cell Try.results16 rfl (run_loadVar_mid (P := Try.prog) Z G 0 35 _ _ (range_of hQg) Try.underlying35 rfl (by kernel_rfl))) rfl ?_
  refine ⟨_, rfl, ⟨?_, RkN.nil _ _ _, VtN.nil _ _ _, Nat.le_refl _, fun k hk => Nat.le_trans BW.out.size (hlo k hk)⟩, hQb⟩
  exact P2.out.keep hF (fun k hk => by simp at hk; simp [hk]) (fun k hk => Or.inl (List.mem_cons_of_mem _ hk)) (fun k hk => Nat.lt_of_lt_of_le (HX.out k hk) hQb.size)
end Go.Proofs.Ytabcbpcfleociaa

/- Regions that draw their order: the condition on the world is asked only until one operation (a store) has come up. No program in sight. -/
namespace Go.Proofs.Ytabcbpcfleociaa
section
variable {P : Program} {ops : Array Oper} {Q : Exit → Act → World → Prop} {md : Region.Mode} {S : World → Prop} {s : Nat}
/-- Whatever order is picked from here on, and S holds behind every operation until number s has come up. -/
def wpAnyG (P : Program) (md : Region.Mode) (ops : Array Oper) (Q : Exit → Act → World → Prop) (S : World → Prop) (s : Nat) : Nat → Array Bool → Act → World → Prop
  | 0, listed, a, w => Region.ready md ops listed = [] ∧ Q .normal a w
  | fuel + 1, listed, a, w =>
    (Region.ready md ops listed = [] → Q .normal a w) ∧
    ∀ i ∈ Region.ready md ops listed, wpOp P ops Q i (fun a' w' => ((listed.setIfInBounds i true).getD s false = false → S w') ∧ wpAnyG P md ops Q S s fuel (listed.setIfInBounds i true) a' w') a w
theorem wpAny_of_G : ∀ (fuel : Nat) (listed : Array Bool) (a : Act) (w : World), wpAnyG P md ops Q S s fuel listed a w → wpAny P md ops Q fuel listed a w
  | 0, _, _, _, h => h
  | fuel + 1, _, _, _, h => ⟨h.1, fun i hi => wpOp_mono (fun a' w' h' => wpAny_of_G fuel _ a' w' h'.2) (h.2 i hi)⟩
theorem wpAnyG_first {i : Nat} {oi : Oper} {v : Value} (hi : ops[i]? = some oi) (hsel : ∀ (j : Nat) (o : Oper) cs b, ops[j]? = some o → o.op ≠ .select cs b)
    (hQ : ∀ c a w, Q (.panic c) (a.put oi.dst v) w → Q (.panic c) a w) (his : i ≠ s) (hse : ∀ os, ops[s]? = some os → ∃ e, e ∈ os.after ∧ Region.binds md e = true ∧ e.on = i) :
    ∀ (fuel : Nat) (listed : Array Bool) (a : Act) (w : World),
      (∀ j oj, ops[j]? = some oj → j ≠ i → listed.getD j true = false → (∀ e ∈ oj.after, Region.binds md e = true → e.on ≠ i) → oi.apart ops oj = true) →
      i ∈ Region.ready md ops listed → listed.getD s false = false → YieldsIf P ops S oi v a → S w →
      wpAnyG P md ops Q S s fuel (listed.setIfInBounds i true) (a.put oi.dst v) w → wpAnyG P md ops Q S s (fuel + 1) listed a w := by
  intro fuel
  induction fuel with
  | zero =>
    intro listed a w _ hr _ hy hS H
    refine ⟨fun h => (by rw [h] at hr; cases hr), fun j hj => ?_⟩
    by_cases hji : j = i
    · subst hji; exact hy.wpOp hi hS ⟨fun _ => hS, H⟩
    · have := ready_mono hj hji
      rw [H.1] at this
      cases this
  | succ fuel ih =>
    intro listed a w hfree hr hls hy hS H
    refine ⟨fun h => (by rw [h] at hr; cases hr), fun j hj => ?_⟩
    by_cases hji : j = i
    · subst hji; exact hy.wpOp hi hS ⟨fun _ => hS, H⟩
    · have h1 := H.2 j (ready_mono hj hji)
      obtain ⟨hjun, oj, hoj, hall⟩ := mem_ready.1 hj
      have hnot : ∀ e ∈ oj.after, Region.binds md e = true → e.on ≠ i := fun e he hb heq => by
        have h1 := hall e he hb
        have h0 := (mem_ready.1 hr).1
        rw [heq] at h1
        rcases Nat.lt_or_ge i listed.size with h' | h'
        · simp [h'] at h0 h1; rw [h0] at h1; cases h1
        · simp [Array.getElem?_eq_none h'] at h1
      have hjs : j ≠ s := fun e => by
        subst e
        obtain ⟨e, he, hb, heq⟩ := hse oj hoj
        exact hnot e he hb heq
      have h2 := wpOp_putIf hoj (hfree j oj hoj hji hjun hnot) (fun cs b => hsel i oi cs b hi) (fun cs b => hsel j oj cs b hoj) hQ hy h1
      have hfree' : ∀ k ok, ops[k]? = some ok → k ≠ i → (listed.setIfInBounds j true).getD k true = false →
          (∀ e ∈ ok.after, Region.binds md e = true → e.on ≠ i) → oi.apart ops ok = true := fun k ok hk hki hun hno => by
        refine hfree k ok hk hki ?_ hno
        by_cases hjk : j = k
        · subst hjk; exact hjun
        · rw [getD_set_ne true hjk] at hun; exact hun
      have hls2 : (listed.setIfInBounds j true).getD s false = false := by rw [getD_set_ne false hjs]; exact hls
      have hls3 : ((listed.setIfInBounds i true).setIfInBounds j true).getD s false = false := by rw [getD_set_ne false hjs, getD_set_ne false his]; exact hls
      refine wpOp_mono (fun a' w' h3 => ⟨fun _ => h3.2.1 hls3, ih (listed.setIfInBounds j true) a' w' hfree' (ready_mono hr (Ne.symm hji)) hls2 h3.1 (h3.2.1 hls3) ?_⟩) h2
      rw [Array.setIfInBounds_comm _ _ hji]
      exact h3.2.2
theorem wpAnyG_take {i : Nat} {oi : Oper} {v : Value} {fuel : Nat} {listed : Array Bool} {a : Act} {w : World} (hi : ops[i]? = some oi)
    (hs : Region.noSelect ops = true) (hf : Region.free md ops listed i = true) (hr : (Region.ready md ops listed).contains i = true)
    (hQ : ∀ c a w, Q (.panic c) (a.put oi.dst v) w → Q (.panic c) a w) (hls : ((i != s) && (match ops[s]? with | some os => os.after.any fun e => Region.binds md e && (e.on == i) | none => true) && !(listed.getD s false)) = true) (hy : YieldsIf P ops S oi v a) (hS : S w)
    (h : wpAnyG P md ops Q S s fuel (listed.setIfInBounds i true) (a.put oi.dst v) w) : wpAnyG P md ops Q S s (fuel + 1) listed a w := by
  simp only [Bool.and_eq_true, bne_iff_ne, Bool.not_eq_true'] at hls
  refine wpAnyG_first hi (Region.noSelect_spec hs) hQ hls.1.1 (fun os ho => ?_) fuel listed a w (Region.free_spec hi hf) (by simpa using hr) hls.2 hy hS h
  have h1 := hls.1.2
  rw [ho] at h1
  obtain ⟨k, hk, h2⟩ := Array.any_eq_true.1 h1
  simp only [Bool.and_eq_true, beq_iff_eq] at h2
  exact ⟨os.after[k], Array.getElem_mem hk, h2.1, h2.2⟩
def AllReadyG (P : Program) (md : Region.Mode) (ops : Array Oper) (Q : Exit → Act → World → Prop) (S : World → Prop) (s : Nat) (fuel : Nat) (listed : Array Bool) (a : Act) (w : World) (rs : List Nat) : Prop :=
  ∀ i ∈ rs, wpOp P ops Q i (fun a' w' => ((listed.setIfInBounds i true).getD s false = false → S w') ∧ wpAnyG P md ops Q S s fuel (listed.setIfInBounds i true) a' w') a w
theorem AllReadyG.nil {fuel : Nat} {listed : Array Bool} {a : Act} {w : World} : AllReadyG P md ops Q S s fuel listed a w [] := fun _ h => by cases h
theorem AllReadyG.cons {fuel : Nat} {listed : Array Bool} {a : Act} {w : World} {i : Nat} {o : Oper} {rs : List Nat} (ho : ops[i]? = some o)
    (h : ∀ K' : Act → World → Prop, Shut (∀ a w, ((listed.setIfInBounds i true).getD s false = false → S w) → wpAnyG P md ops Q S s fuel (listed.setIfInBounds i true) a w → K' a w) → if Region.wanted o (yielded ops a.tmps) = true then Oper.wp P o a w K' Q else K' (a.put o.dst undef) w)
    (hs : AllReadyG P md ops Q S s fuel listed a w rs) : AllReadyG P md ops Q S s fuel listed a w (i :: rs) := fun j hj => by
  rcases List.mem_cons.1 hj with rfl | hj
  · exact wpOp_step ho (fun K' hK => h K' (fun a w hS hW => hK a w ⟨hS, hW⟩))
  · exact hs j hj
theorem wpAnyG_ready {rs : List Nat} {fuel : Nat} {listed : Array Bool} {a : Act} {w : World} (hr : Region.ready md ops listed = rs) (hne : rs ≠ [])
    (h : AllReadyG P md ops Q S s fuel listed a w rs) : wpAnyG P md ops Q S s (fuel + 1) listed a w := ⟨fun h0 => absurd (hr ▸ h0) hne, hr ▸ h⟩
theorem wpAnyG_done {listed : Array Bool} {a : Act} {w : World} (hr : Region.ready md ops listed = []) (h : Q .normal a w) :
    ∀ fuel, wpAnyG P md ops Q S s fuel listed a w
  | 0 => ⟨hr, h⟩
  | _ + 1 => ⟨fun _ => h, by rw [hr]; simp⟩
theorem wp_region_G {id : Nat} {a : Act} {w : World} (hm : P.follows .mixedOrders = true) (h : wpAnyG P .any ops Q S s ops.size (Array.replicate ops.size false) a w.drew) : (Code.region id ops true).wp P Q a w :=
  wp_region_any hm (wpAny_of_G _ _ _ _ h)
end
end Go.Proofs.Ytabcbpcfleociaa

/- The law's link of a step. (Printed by gen_plb.py.) -/
namespace Go.Proofs.Ytabcbpcfleociaa
open Go.RowKit
attribute [local go_sem ↓] Go.wp_at_zero Go.wp_at_succ
set_option linter.unusedSimpArgs false
set_option linter.unusedVariables false
def doC (l : Ln) (nx : Bool) (A : Option Addr) (n c : Nat) (B : Option Addr) (m d : Nat) : List Value := [.int .i64 l.au, .int .i64 l.sq, .int .i64 l.ep, .slice A n c, .slice B m d, .bool nx]
def doV (l : Ln) (nx : Bool) (A : Option Addr) (n c : Nat) (B : Option Addr) (m d : Nat) : Value := .agg #[.int .i64 l.au, .int .i64 l.sq, .int .i64 l.ep, .slice A n c, .slice B m d, .bool nx]
/-- The link of a step behind what is known. -/
def linkL (S : Bk) (l : Ln) (nx : Bool) : Ln := if nx then { l with sq := ((ofA S l.au).length : Int) + 1, pv := lastDg (ofA S l.au) } else l
theorem linkL_bd (S : Bk) (l : Ln) (nx : Bool) : (linkL S l nx).bd = l.bd := by cases nx <;> rfl
theorem linkL_au (S : Bk) (l : Ln) (nx : Bool) : (linkL S l nx).au = l.au := by cases nx <;> rfl
theorem linkL_ep (S : Bk) (l : Ln) (nx : Bool) : (linkL S l nx).ep = l.ep := by cases nx <;> rfl
theorem refHead_any (A : Option Addr) (n c : Nat) (S : Bk) (a : Int) (no : List Nat) (w : World) (hv : RkN no w A n S) (hn : n ≤ 1000000) (hno : ∀ k, k ∈ no → k < w.heap.size) (hok : S.ok) :
    Calls Try.prog 33 #[.agg #[.slice A n c], .int .i64 a] w fun e w' => ∃ a' D dn dc, e = .returned (.agg #[.int .i64 a', .int .i64 (ofA S a).length, .slice D dn dc]) ∧ dn ≤ dc ∧ RdN no w' 1 D dn ((lastDg (ofA S a)).map B8) ∧ Below w.heap.size w w' := by
  by_cases h : 0 ≤ a ∧ a < 5
  · refine (refHead_in A n c S a no w hv hn hno h.1 h.2).mono ?_
    rintro e w' ⟨D, dn, dc, rfl, r⟩
    exact ⟨a, D, dn, dc, rfl, r⟩
  · refine (refHead_off A n c a w (by omega)).mono ?_
    rintro e w' ⟨rfl, r⟩
    have hz := hok.out h
    exact ⟨0, none, 0, 0, by rw [hz]; rfl, Nat.le_refl _, by rw [hz]; exact RdN.nil _ _ _, r⟩
theorem setCell_fr (w : World) (g j : Nat) (v : Value) : Fr [g] w (w.setCell ⟨g, j, none⟩ v) [g] :=
  ⟨rfl, rfl, rfl, by simp [World.setCell], fun k _ hn => Below.heap_setCell _ _ _ _ (by simpa using hn), fun k hk => Or.inl hk⟩
theorem lastDg_le {S : Bk} (hok : S.ok) (a : Int) : (lastDg (ofA S a)).length ≤ 32 := by
  unfold lastDg
  rcases h : (ofA S a).getLast? with _ | k
  · simp
  · have := (hok.of (a := a) (k := k) (List.mem_of_getLast? h)).1
    simp; omega
set_option maxRecDepth 20000 in
set_option maxHeartbeats 8000000 in
theorem link_ (p : Pl) (S : Bk) (l : Ln) (nx : Bool) (pA : Option Addr) (pn pc : Nat) (bA : Option Addr) (bn bc : Nat) (no : List Nat) (w : World) (hk : RkN no w p.A p.n S) (hok : S.ok)
    (hp : RdN no w 1 pA pn (l.pv.map B8)) (hb : RdN no w 1 bA bn (l.bd.map B8)) (hn : p.n ≤ 1000000) (hpn : pn ≤ 140737488351232) (hbn : bn ≤ 140737488351232) (hno : ∀ k, k ∈ no → k < w.heap.size) :
    Calls Try.prog 17 #[plV p, doV l nx pA pn pc bA bn bc] w fun e w' => ∃ A1 n1 c1 A2 c2, e = .returned (lnV (linkL S l nx) A1 n1 c1 A2 bn c2) ∧ n1 ≤ c1 ∧ bn ≤ c2 ∧ RdN no w' 1 A1 n1 ((linkL S l nx).pv.map B8) ∧ RdN no w' 1 A2 bn ((linkL S l nx).bd.map B8) ∧ Below w.heap.size w w' := by
  obtain ⟨W, hW⟩ : ∃ W, Hid (W = ((((w.alloc (.cells #[.pointer (some ⟨p.gb, 0, none⟩), .pointer (some ⟨p.gi, 0, none⟩), .slice p.A p.n p.c, .slice p.V p.vn p.vc, .int .i64 0] 35)).alloc (.cells #[.int .i64 l.au, .int .i64 l.sq, .int .i64 l.ep, .slice pA pn pc, .slice bA bn bc, .bool nx] 42)).alloc (.cells #[.int .i64 0, .int .i64 0, .int .i64 0, .slice none 0 0, .slice none 0 0] 40)).alloc (.cells #[.int .i64 l.au, .int .i64 l.sq, .int .i64 l.ep, .slice pA pn pc, .slice bA bn bc] 40))) := ⟨_, Lib.hid rfl⟩
  have hs1 : (w.alloc (.cells #[.pointer (some ⟨p.gb, 0, none⟩), .pointer (some ⟨p.gi, 0, none⟩), .slice p.A p.n p.c, .slice p.V p.vn p.vc, .int .i64 0] 35)).heap.size = w.heap.size + 1 := szAlloc _ _
  have hs2 : ((w.alloc (.cells #[.pointer (some ⟨p.gb, 0, none⟩), .pointer (some ⟨p.gi, 0, none⟩), .slice p.A p.n p.c, .slice p.V p.vn p.vc, .int .i64 0] 35)).alloc (.cells #[.int .i64 l.au, .int .i64 l.sq, .int .i64 l.ep, .slice pA pn pc, .slice bA bn bc, .bool nx] 42)).heap.size = w.heap.size + 2 := by rw [szAlloc, hs1]
  have hs3 : (((w.alloc (.cells #[.pointer (some ⟨p.gb, 0, none⟩), .pointer (some ⟨p.gi, 0, none⟩), .slice p.A p.n p.c, .slice p.V p.vn p.vc, .int .i64 0] 35)).alloc (.cells #[.int .i64 l.au, .int .i64 l.sq, .int .i64 l.ep, .slice pA pn pc, .slice bA bn bc, .bool nx] 42)).alloc (.cells #[.int .i64 0, .int .i64 0, .int .i64 0, .slice none 0 0, .slice none 0 0] 40)).heap.size = w.heap.size + 3 := by rw [szAlloc, hs2]
  obtain ⟨G, hG⟩ : ∃ g, Hid (g = w.heap.size) := ⟨_, Lib.hid rfl⟩
  have hWs : Hid (W.heap.size = G + 4) := by unfold Hid; rw [hW.out, szAlloc, hs3, hG.out]
  have BW : Hid (Below w.heap.size w W) := by rw [hW.out]; exact ((((Below.refl _ _).alloc (Nat.le_refl _) _).alloc (by rw [hs1]; omega) _).alloc (by rw [hs2]; omega) _).alloc (by rw [hs3]; omega) _
  have d1 : (((w.alloc (.cells #[.pointer (some ⟨p.gb, 0, none⟩), .pointer (some ⟨p.gi, 0, none⟩), .slice p.A p.n p.c, .slice p.V p.vn p.vc, .int .i64 0] 35)).alloc (.cells #[.int .i64 l.au, .int .i64 l.sq, .int .i64 l.ep, .slice pA pn pc, .slice bA bn bc, .bool nx] 42)).alloc (.cells #[.int .i64 0, .int .i64 0, .int .i64 0, .slice none 0 0, .slice none 0 0] 40)).heap[w.heap.size + 1]? = some (.cells #[.int .i64 l.au, .int .i64 l.sq, .int .i64 l.ep, .slice pA pn pc, .slice bA bn bc, .bool nx] 42 (0, 0)) := (heap_alloc_old _ _ (by rw [hs2]; omega)).trans (by rw [← hs1]; exact heap_alloc_new _ _)
  have R0 : Hid (W.heap[G]? = some (.cells #[.pointer (some ⟨p.gb, 0, none⟩), .pointer (some ⟨p.gi, 0, none⟩), .slice p.A p.n p.c, .slice p.V p.vn p.vc, .int .i64 0] 35 (0, 0))) := by unfold Hid; rw [hW.out, hG.out]; exact (heap_alloc_old _ _ (by rw [hs3]; omega)).trans ((heap_alloc_old _ _ (by rw [hs2]; omega)).trans ((heap_alloc_old _ _ (by rw [hs1]; omega)).trans (heap_alloc_new _ _)))
  have R1 : Hid (W.heap[G + 1]? = some (.cells #[.int .i64 l.au, .int .i64 l.sq, .int .i64 l.ep, .slice pA pn pc, .slice bA bn bc, .bool nx] 42 (0, 0))) := by unfold Hid; rw [hW.out, hG.out]; exact (heap_alloc_old _ _ (by rw [hs3]; omega)).trans d1
  have R2 : Hid (W.heap[G + 2]? = some (.cells #[.int .i64 0, .int .i64 0, .int .i64 0, .slice none 0 0, .slice none 0 0] 40 (0, 0))) := by unfold Hid; rw [hW.out, hG.out]; exact (heap_alloc_old _ _ (by rw [hs3]; omega)).trans (by rw [← hs2]; exact heap_alloc_new _ _)
  have R3 : Hid (W.heap[G + 3]? = some (.cells #[.int .i64 l.au, .int .i64 l.sq, .int .i64 l.ep, .slice pA pn pc, .slice bA bn bc] 40 (0, 0))) := by unfold Hid; rw [hW.out, hG.out, ← hs3]; exact heap_alloc_new _ _
  have up : ∀ k, k ∈ ((G + 2) :: (G + 3) :: no) → k ∈ no ∨ w.heap.size ≤ k := fun k hk => by
    simp only [List.mem_cons] at hk
    rcases hk with h | h | h
    · exact Or.inr (by rw [h, hG.out]; omega)
    · exact Or.inr (by rw [h, hG.out]; omega)
    · exact Or.inl h
  have HK := Lib.hid (hk.fr (own := []) (own' := []) (Fr.below BW.out) (fun _ h => absurd h (by simp)) up)
  have HP := Lib.hid (hp.fr (own := []) (own' := []) (Fr.below BW.out) (fun _ h => absurd h (by simp)) up)
  have HB := Lib.hid (hb.fr (own := []) (own' := []) (Fr.below BW.out) (fun _ h => absurd h (by simp)) up)
  have HNO : Hid (∀ k, k ∈ ((G + 2) :: (G + 3) :: no) → k < W.heap.size) := fun k hk => by
    have h5 := hWs.out
    simp only [List.mem_cons] at hk
    rcases hk with h | h | h
    · omega
    · omega
    · exact Nat.lt_of_lt_of_le (hno k h) BW.out.size
  have hlen : Hid (S.length = p.n) := hk.len
  have HN := Lib.hid hn
  have HPN := Lib.hid hpn
  have HBN := Lib.hid hbn
  have HOK := Lib.hid hok
  have e0 := cell_blk d1 0 rfl
  have e1 := cell_blk d1 1 rfl
  have e2 := cell_blk d1 2 rfl
  have e3 := cell_blk d1 3 rfl
  have e4 := cell_blk d1 4 rfl
  have m5 := cell_blk R1.out 5 rfl
  rw [hW.out, hG.out] at m5
  clear hk hp hb hno hs1 hs2 hs3 up hn hpn hbn d1 hok
  go_enter Try.func17, Try.ntmps17
  unfold plV doV
  go_upto_if 10 with fail
  rw [← hW.out, ← hG.out]
  clear e0 e1 e2 e3 e4 m5
  go_cut [6] from 11 (fun x6 wx => ∃ pA' pn' pc', Hid (pn' ≤ 140737488351232) ∧ Hid (wx.heap[G + 3]? = some (.cells #[.int .i64 l.au, .int .i64 (linkL S l nx).sq, .int .i64 l.ep, .slice pA' pn' pc', .slice bA bn bc] 40 (0, 0))) ∧ Hid (wx.heap[G + 2]? = some (.cells #[.int .i64 0, .int .i64 0, .int .i64 0, .slice none 0 0, .slice none 0 0] 40 (0, 0))) ∧ Hid (RdN ((G + 2) :: (G + 3) :: no) wx 1 pA' pn' ((linkL S l nx).pv.map B8)) ∧ Hid (RdN ((G + 2) :: (G + 3) :: no) wx 1 bA bn (l.bd.map B8)) ∧ Hid (Below w.heap.size w wx) ∧ Hid (G + 4 ≤ wx.heap.size))
  case first =>
    cases nx
    · go_wp2_with fail
      go_meet
      case rel => exact ⟨pA, pn, pc, HPN, R3, R2, HP, HB, BW, Nat.le_of_eq hWs.out.symm⟩
    · have a2 := cell_blk R0.out 2 rfl
      have l0 := cell_blk R3.out 0 rfl
      go_wp2_with fail
      clear a2 l0
      refine (refHead_any p.A p.n p.c S l.au ((G + 2) :: (G + 3) :: no) W HK.out HN.out HNO.out HOK.out).mono ?_
      rintro e u ⟨a', Dg, dn, dc, rfl, hdc, hd, bu⟩
      have BU := Lib.hid bu
      have HD := Lib.hid hd
      clear bu hd
      obtain ⟨L, hL⟩ : ∃ L, Hid ((ofA S l.au).length = L) := ⟨_, Lib.hid rfl⟩
      rw [hL.out]
      have hLn : L ≤ 1000000 := by have h1 := ofA_len S l.au; have h2 := hL.out; have h3 := hlen.out; have h4 := HN.out; omega
      have hwr : IntKind.i64.wrap ((L : Int) + 1) = (L : Int) + 1 := IntWalk.i64_in _ (by omega)
      go_wp2_with fail
      obtain ⟨u2, hu2⟩ : ∃ W0, Hid (W0 = u.alloc (.cells #[.int .i64 a', .int .i64 L, .slice Dg dn dc] 45)) := ⟨_, Lib.hid rfl⟩
      obtain ⟨h, hh⟩ : ∃ q, Hid (q = u.heap.size) := ⟨_, Lib.hid rfl⟩
      rw [← hu2.out, ← hh.out]
      have bu2 : Below u.heap.size u u2 := by rw [hu2.out]; exact (Below.refl _ _).alloc (Nat.le_refl _) _
      have Rh : Hid (u2.heap[h]? = some (.cells #[.int .i64 a', .int .i64 L, .slice Dg dn dc] 45 (0, 0))) := by unfold Hid; rw [hu2.out, hh.out]; exact heap_alloc_new _ _
      obtain ⟨X, hX⟩ : ∃ W, Hid (W = u2.drew) := ⟨_, Lib.hid rfl⟩
      have dX : Below u2.heap.size u2 X := by rw [hX.out]; exact below_drew (Below.refl _ _)
      have BX : Hid (Below W.heap.size W X) := BU.out.trans ((bu2.trans (dX.mono bu2.size)).mono BU.out.size)
      have Xh : Hid (X.heap[h]? = some (.cells #[.int .i64 a', .int .i64 L, .slice Dg dn dc] 45 (0, 0))) := (dX.block h (lt_of_blk Rh.out)).trans Rh.out
      have hGh : Hid (G + 4 ≤ h) := by unfold Hid; rw [hh.out, ← hWs.out]; exact BU.out.size
      have X3 : Hid (X.heap[G + 3]? = some (.cells #[.int .i64 l.au, .int .i64 l.sq, .int .i64 l.ep, .slice pA pn pc, .slice bA bn bc] 40 (0, 0))) := (BX.out.block (G + 3) (by have := hWs.out; omega)).trans R3.out
      have X2 : Hid (X.heap[G + 2]? = some (.cells #[.int .i64 0, .int .i64 0, .int .i64 0, .slice none 0 0, .slice none 0 0] 40 (0, 0))) := (BX.out.block (G + 2) (by have := hWs.out; omega)).trans R2.out
      have XD : Hid (RdN ((G + 2) :: (G + 3) :: no) X 1 Dg dn ((lastDg (ofA S l.au)).map B8)) := HD.out.below (bu2.trans (dX.mono bu2.size))
      have XB := Lib.hid (HB.out.below BX.out)
      have SX : X.rangeAt h 0 [.int .i64 a', .int .i64 L, .slice Dg dn dc] := range_of Xh.out
      refine wp_region_noPanic ?_
      refine wp_region_held_drew (S := fun w' => w'.rangeAt h 0 [.int .i64 a', .int .i64 L, .slice Dg dn dc]) (by kernel_rfl) (by rw [← hX.out]; exact SX) (fun hS => ?_)
      rw [← hX.out]
      clear hS
      have hS : X.rangeAt h 0 [.int .i64 a', .int .i64 L, .slice Dg dn dc] := SX
      refine wpAnyH_take (i := 0) (v := ?va0) rfl (by kernel_rfl) (by kernel_rfl) (by kernel_rfl) (fun _ _ _ h => h) (Or.inl ⟨by rfl, ?hya0⟩) hS ?resta0
      case hya0 => (intro w' hSw; go_simp; first | done | with_reducible rfl)
      try simp only [Act.put, List.getElem_toArray, List.getElem_cons_zero, List.getElem_cons_succ, List.setIfInBounds_toArray, List.set_cons_zero, List.set_cons_succ]
      refine wpAnyH_take (i := 1) (v := .int .i64 L) rfl (by kernel_rfl) (by kernel_rfl) (by kernel_rfl) (fun _ _ _ h => h) (Or.inl ⟨by rfl, ?hya1⟩) hS ?resta1
      case hya1 => (intro w' hSw; have c0 := hSw 1 _ rfl; go_simp; first | done | with_reducible rfl)
      try simp only [Act.put, List.getElem_toArray, List.getElem_cons_zero, List.getElem_cons_succ, List.setIfInBounds_toArray, List.set_cons_zero, List.set_cons_succ]
      refine wpAnyH_take (i := 2) (v := .int .i64 ((L : Int) + 1)) rfl (by kernel_rfl) (by kernel_rfl) (by kernel_rfl) (fun _ _ _ h => h) (Or.inl ⟨by rfl, ?hya2⟩) hS ?resta2
      case hya2 => (intro w' hSw; have h1 := hwr; go_simp; first | done | with_reducible rfl)
      try simp only [Act.put, List.getElem_toArray, List.getElem_cons_zero, List.getElem_cons_succ, List.setIfInBounds_toArray, List.set_cons_zero, List.set_cons_succ]
      refine wpAnyH_take (i := 3) (v := ?va3) rfl (by kernel_rfl) (by kernel_rfl) (by kernel_rfl) (fun _ _ _ h => h) (Or.inl ⟨by rfl, ?hya3⟩) hS ?resta3
      case hya3 => (intro w' hSw; go_simp; first | done | with_reducible rfl)
      try simp only [Act.put, List.getElem_toArray, List.getElem_cons_zero, List.getElem_cons_succ, List.setIfInBounds_toArray, List.set_cons_zero, List.set_cons_succ]
      refine wpAnyH_take (i := 4) (v := .slice Dg dn dc) rfl (by kernel_rfl) (by kernel_rfl) (by kernel_rfl) (fun _ _ _ h => h) (Or.inl ⟨by rfl, ?hya4⟩) hS ?resta4
      case hya4 => (intro w' hSw; have c0 := hSw 2 _ rfl; go_simp; first | done | with_reducible rfl)
      try simp only [Act.put, List.getElem_toArray, List.getElem_cons_zero, List.getElem_cons_succ, List.setIfInBounds_toArray, List.set_cons_zero, List.set_cons_succ]
      refine wpAnyH_take (i := 5) (v := ?va5) rfl (by kernel_rfl) (by kernel_rfl) (by kernel_rfl) (fun _ _ _ h => h) (Or.inl ⟨by rfl, ?hya5⟩) hS ?resta5
      case hya5 => (intro w' hSw; go_simp; first | done | with_reducible rfl)
      try simp only [Act.put, List.getElem_toArray, List.getElem_cons_zero, List.getElem_cons_succ, List.setIfInBounds_toArray, List.set_cons_zero, List.set_cons_succ]
      refine wpAnyH_ready (rs := [6]) (by kernel_rfl) (by simp) ?_
      refine AllReadyH.cons rfl (fun K hK => ?_) AllReadyH.nil
      have s0 := cell_blk X3.out 1 rfl
      have s1 := frozen_blk X3.out 1
      go_simp
      clear s0 s1
      obtain ⟨Y, hY⟩ : ∃ W0, Hid (W0 = X.setCell ⟨G + 3, 1, none⟩ (.int .i64 ((L : Int) + 1))) := ⟨_, Lib.hid rfl⟩
      rw [← hY.out]
      have FY : Hid (Fr [G + 3] X Y [G + 3]) := by rw [hY.out]; exact setCell_fr _ _ _ _
      have Y3 : Hid (Y.heap[G + 3]? = some (.cells #[.int .i64 l.au, .int .i64 ((L : Int) + 1), .int .i64 l.ep, .slice pA pn pc, .slice bA bn bc] 40 (0, 0))) := by unfold Hid; rw [hY.out]; exact heap_set X3.out _
      have SY : Y.rangeAt h 0 [.int .i64 a', .int .i64 L, .slice Dg dn dc] := range_fr SX FY.out (lt_of_blk Xh.out) (by have := hGh.out; simp; omega)
      refine hK.out _ _ SY ?_
      intro hS
      clear hK K hS
      try simp only [Act.put, List.getElem_toArray, List.getElem_cons_zero, List.getElem_cons_succ, List.setIfInBounds_toArray, List.set_cons_zero, List.set_cons_succ]
      have hS : Y.rangeAt h 0 [.int .i64 a', .int .i64 L, .slice Dg dn dc] := SY
      refine wpAnyH_take (i := 7) (v := ?vb7) rfl (by kernel_rfl) (by kernel_rfl) (by kernel_rfl) (fun _ _ _ h => h) (Or.inl ⟨by rfl, ?hyb7⟩) hS ?restb7
      case hyb7 => (intro w' hSw; go_simp; first | done | with_reducible rfl)
      try simp only [Act.put, List.getElem_toArray, List.getElem_cons_zero, List.getElem_cons_succ, List.setIfInBounds_toArray, List.set_cons_zero, List.set_cons_succ]
      refine wpAnyH_ready (rs := [8]) (by kernel_rfl) (by simp) ?_
      refine AllReadyH.cons rfl (fun K hK => ?_) AllReadyH.nil
      have s0 := cell_blk Y3.out 3 rfl
      have s1 := frozen_blk Y3.out 3
      go_simp
      clear s0 s1
      obtain ⟨Z, hZ⟩ : ∃ W0, Hid (W0 = Y.setCell ⟨G + 3, 3, none⟩ (.slice Dg dn dc)) := ⟨_, Lib.hid rfl⟩
      rw [← hZ.out]
      have FZ : Hid (Fr [G + 3] Y Z [G + 3]) := by rw [hZ.out]; exact setCell_fr _ _ _ _
      have Z3 : Hid (Z.heap[G + 3]? = some (.cells #[.int .i64 l.au, .int .i64 ((L : Int) + 1), .int .i64 l.ep, .slice Dg dn dc, .slice bA bn bc] 40 (0, 0))) := by unfold Hid; rw [hZ.out]; exact heap_set Y3.out _
      have SZ : Z.rangeAt h 0 [.int .i64 a', .int .i64 L, .slice Dg dn dc] := range_fr SY FZ.out (Nat.lt_of_lt_of_le (lt_of_blk Xh.out) FY.out.size) (by have := hGh.out; simp; omega)
      refine hK.out _ _ SZ ?_
      intro hS
      clear hK K hS
      try simp only [Act.put, List.getElem_toArray, List.getElem_cons_zero, List.getElem_cons_succ, List.setIfInBounds_toArray, List.set_cons_zero, List.set_cons_succ]
      refine wpAnyH_done (by kernel_rfl) (NoPanic.normal ?_) _
      go_wp2_with fail
      go_meet
      have FF : Fr [G + 3] X Z [G + 3] := FY.out.trans FZ.out
      have hdn : Hid (dn ≤ 140737488351232) := by have h1 := XD.out.1.len; rw [List.length_map] at h1; have h2 := lastDg_le HOK.out l.au; unfold Hid; omega
      case rel => exact ⟨Dg, dn, dc, hdn, by rw [show (linkL S l true).sq = (L : Int) + 1 from by rw [← hL.out]; rfl]; exact Z3, (FF.block (G + 2) (by have h1 := hWs.out; have h2 := BX.out.size; omega) (by simp)).trans X2.out, XD.out.fr FF (fun k hk => by simp at hk; simp [hk]) (fun k hk => Or.inl hk), XB.out.fr FF (fun k hk => by simp at hk; simp [hk]) (fun k hk => Or.inl hk), by have h1 := BW.out.trans (BX.out.mono BW.out.size); rw [hZ.out, hY.out]; exact (h1.setCell (by have := hG.out; show _ ≤ G + 3; omega) _).setCell (by have := hG.out; show _ ≤ G + 3; omega) _, by have h1 := hWs.out; have h2 := BX.out.size; have h3 := FF.size; unfold Hid; omega⟩
  case rest =>
    obtain ⟨pA', pn', pc', HPN', C3, C2, CP, CB, CW, CS⟩ := hcut
    obtain ⟨l2, hl2⟩ : ∃ l2, Hid (linkL S l nx = l2) := ⟨_, Lib.hid rfl⟩
    have hl2b : Hid (l2.bd = l.bd ∧ l2.au = l.au ∧ l2.ep = l.ep) := by rw [← hl2.out]; exact ⟨linkL_bd _ _ _, linkL_au _ _ _, linkL_ep _ _ _⟩
    rw [hl2.out] at C3 CP
    obtain ⟨sq, hsq⟩ : ∃ q, Hid (l2.sq = q) := ⟨_, Lib.hid rfl⟩
    rw [hsq.out] at C3
    go_wp2_with fail
    obtain ⟨X, hX⟩ : ∃ W, Hid (W = wc.drew) := ⟨_, Lib.hid rfl⟩
    have dX : Below wc.heap.size wc X := by rw [hX.out]; exact below_drew (Below.refl _ _)
    have HPX := Lib.hid (CP.out.below dX)
    have HBX := Lib.hid (CB.out.below dX)
    have X3 : Hid (X.heap[G + 3]? = some (.cells #[.int .i64 l.au, .int .i64 sq, .int .i64 l.ep, .slice pA' pn' pc', .slice bA bn bc] 40 (0, 0))) := (dX.block (G + 3) (lt_of_blk C3.out)).trans C3.out
    have X2 : Hid (X.heap[G + 2]? = some (.cells #[.int .i64 0, .int .i64 0, .int .i64 0, .slice none 0 0, .slice none 0 0] 40 (0, 0))) := (dX.block (G + 2) (lt_of_blk C2.out)).trans C2.out
    have hGX : Hid (G + 4 ≤ X.heap.size) := Nat.le_trans CS.out dX.size
    have hS : X.rangeAt (G + 3) 0 [.int .i64 l.au, .int .i64 sq, .int .i64 l.ep, .slice pA' pn' pc', .slice bA bn bc] := range_of X3.out
    have hpn := HPN'.out
    have hbn := HBN.out
    have NOX : Hid (∀ k, k ∈ ((G + 2) :: (G + 3) :: no) → k < X.heap.size) := fun k hk => by have h1 := HNO.out k hk; have h2 := hWs.out; have h3 := hGX.out; omega
    refine wp_region_noPanic ?_
    refine wp_region_G (S := fun w' => w'.rangeAt (G + 3) 0 [.int .i64 l.au, .int .i64 sq, .int .i64 l.ep, .slice pA' pn' pc', .slice bA bn bc]) (s := 9) (by kernel_rfl) ?_
    rw [← hX.out]
    refine wpAnyG_take (i := 1) (v := ?vk1) rfl (by kernel_rfl) (by kernel_rfl) (by kernel_rfl) (fun _ _ _ h => h) (by kernel_rfl) (Or.inl ⟨by rfl, ?hyk1⟩) hS ?restk1
    case hyk1 => (intro w' hSw; go_simp; first | done | with_reducible rfl)
    try simp only [Act.put, List.getElem_toArray, List.getElem_cons_zero, List.getElem_cons_succ, List.setIfInBounds_toArray, List.set_cons_zero, List.set_cons_succ]
    refine wpAnyG_take (i := 2) (v := .slice pA' pn' pc') rfl (by kernel_rfl) (by kernel_rfl) (by kernel_rfl) (fun _ _ _ h => h) (by kernel_rfl) (Or.inl ⟨by rfl, ?hyk2⟩) hS ?restk2
    case hyk2 => (intro w' hSw; have c0 := hSw 3 _ rfl; go_simp; first | done | with_reducible rfl)
    try simp only [Act.put, List.getElem_toArray, List.getElem_cons_zero, List.getElem_cons_succ, List.setIfInBounds_toArray, List.set_cons_zero, List.set_cons_succ]
    refine wpAnyG_take (i := 5) (v := ?vk5) rfl (by kernel_rfl) (by kernel_rfl) (by kernel_rfl) (fun _ _ _ h => h) (by kernel_rfl) (Or.inl ⟨by rfl, ?hyk5⟩) hS ?restk5
    case hyk5 => (intro w' hSw; go_simp; first | done | with_reducible rfl)
    try simp only [Act.put, List.getElem_toArray, List.getElem_cons_zero, List.getElem_cons_succ, List.setIfInBounds_toArray, List.set_cons_zero, List.set_cons_succ]
    refine wpAnyG_take (i := 6) (v := .slice bA bn bc) rfl (by kernel_rfl) (by kernel_rfl) (by kernel_rfl) (fun _ _ _ h => h) (by kernel_rfl) (Or.inl ⟨by rfl, ?hyk6⟩) hS ?restk6
    case hyk6 => (intro w' hSw; have c0 := hSw 4 _ rfl; go_simp; first | done | with_reducible rfl)
    try simp only [Act.put, List.getElem_toArray, List.getElem_cons_zero, List.getElem_cons_succ, List.setIfInBounds_toArray, List.set_cons_zero, List.set_cons_succ]
    have PX : Hid (Below X.heap.size X X) := Below.refl _ _
    refine wpAnyG_ready (rs := [0, 4]) (by kernel_rfl) (by simp) ?_
    refine AllReadyG.cons rfl (fun K hK => ?_) (AllReadyG.cons rfl (fun K hK => ?_) AllReadyG.nil)
    · go_simp
      obtain ⟨U, hU⟩ : ∃ W0, Hid (W0 = X.alloc (.cells #[] 5)) := ⟨_, Lib.hid rfl⟩
      obtain ⟨q6, hq6⟩ : ∃ q, Hid (q = X.heap.size) := ⟨_, Lib.hid rfl⟩
      have PU : Hid (Below X.heap.size X U) := by rw [hU.out]; exact PX.out.alloc PX.out.size _
      have L0 : Hid (U.ownsRow X.heap.size 5 1 (.slice (some ⟨q6, 0, none⟩) 0 0) 0 []) := by rw [hU.out, hq6.out]; exact own_mono (World.ownsRow_lit X #[] 0 (Nat.le_refl _) (by simp [maxLen]) rfl) PX.out.size
      have gU : Below X.heap.size X U := by rw [hU.out]; exact (Below.refl _ _).alloc (Nat.le_refl _) _
      have q6c : Hid (q6 < U.heap.size) := by unfold Hid; rw [hq6.out, hU.out, szAlloc]; exact Nat.lt_succ_self _
      have q6X : Hid (X.heap.size ≤ q6) := by unfold Hid; rw [hq6.out]; exact PX.out.size
      rw [← hU.out, ← hq6.out]
      have SU : U.rangeAt (G + 3) 0 [.int .i64 l.au, .int .i64 sq, .int .i64 l.ep, .slice pA' pn' pc', .slice bA bn bc] := range_keep (range_of X3.out) PU.out (by have := hGX.out; omega)
      refine hK.out _ _ (fun _ => SU) ?_
      clear hK K hS
      try simp only [Act.put, List.getElem_toArray, List.getElem_cons_zero, List.getElem_cons_succ, List.setIfInBounds_toArray, List.set_cons_zero, List.set_cons_succ]
      have hS := SU
      refine wpAnyG_ready (rs := [3, 4]) (by kernel_rfl) (by simp) ?_
      refine AllReadyG.cons rfl (fun K hK => ?_) (AllReadyG.cons rfl (fun K hK => ?_) AllReadyG.nil)
      · have hPc := Lib.hid (HPX.out.1.to PU.out)
        refine step_app (.tmp 23) (.tmp 25) 38 rfl rfl X.heap.size 5 1 1 (.int .u8 0) Try.underlying38 infoB rfl (by decide) (.slice (some ⟨q6, 0, none⟩) 0 0) 0 [] rfl L0.out _ pA' pn' pc' (l2.pv.map B8) rfl hPc.out (oneB _) (by simp only [maxLen]; omega) (by omega) PU.out.size ?_
        intro A3 c3 V1 o3 g3 hor
        simp only [Nat.zero_add, List.nil_append] at o3 hor ⊢
        have L3 := Lib.hid o3
        have G3 := Lib.hid g3
        have hor3 := Lib.hid hor
        have PV1 := Lib.hid (PU.out.trans (⟨g3.os, g3.tape, g3.output, g3.size, fun k hk => g3.block k (Nat.lt_of_lt_of_le hk PU.out.size) (fun e => by simp [Value.ownBlock] at e; have := q6X.out; omega)⟩ : Below X.heap.size U V1))
        clear o3 g3 hor
        have SV1 : V1.rangeAt (G + 3) 0 [.int .i64 l.au, .int .i64 sq, .int .i64 l.ep, .slice pA' pn' pc', .slice bA bn bc] := range_keep (range_of X3.out) PV1.out (by have := hGX.out; omega)
        refine hK.out _ _ (fun _ => SV1) ?_
        clear hK K hS
        try simp only [Act.put, List.getElem_toArray, List.getElem_cons_zero, List.getElem_cons_succ, List.setIfInBounds_toArray, List.set_cons_zero, List.set_cons_succ]
        have hS := SV1
        refine wpAnyG_take (i := 8) (v := ?vm8) rfl (by kernel_rfl) (by kernel_rfl) (by kernel_rfl) (fun _ _ _ h => h) (by kernel_rfl) (Or.inl ⟨by rfl, ?hym8⟩) hS ?restm8
        case hym8 => (intro w' hSw; go_simp; first | done | with_reducible rfl)
        try simp only [Act.put, List.getElem_toArray, List.getElem_cons_zero, List.getElem_cons_succ, List.setIfInBounds_toArray, List.set_cons_zero, List.set_cons_succ]
        refine wpAnyG_ready (rs := [4]) (by kernel_rfl) (by simp) ?_
        refine AllReadyG.cons rfl (fun K hK => ?_) AllReadyG.nil
        go_simp
        obtain ⟨V2, hV2⟩ : ∃ W0, Hid (W0 = V1.alloc (.cells #[] 5)) := ⟨_, Lib.hid rfl⟩
        obtain ⟨q7, hq7⟩ : ∃ q, Hid (q = V1.heap.size) := ⟨_, Lib.hid rfl⟩
        have PV2 : Hid (Below X.heap.size X V2) := by rw [hV2.out]; exact PV1.out.alloc PV1.out.size _
        have L4 : Hid (V2.ownsRow X.heap.size 5 1 (.slice (some ⟨q7, 0, none⟩) 0 0) 0 []) := by rw [hV2.out, hq7.out]; exact own_mono (World.ownsRow_lit V1 #[] 0 (Nat.le_refl _) (by simp [maxLen]) rfl) PV1.out.size
        have gV2 : Below V1.heap.size V1 V2 := by rw [hV2.out]; exact (Below.refl _ _).alloc (Nat.le_refl _) _
        have q7c : Hid (q7 < V2.heap.size) := by unfold Hid; rw [hq7.out, hV2.out, szAlloc]; exact Nat.lt_succ_self _
        have q7X : Hid (X.heap.size ≤ q7) := by unfold Hid; rw [hq7.out]; exact PV1.out.size
        rw [← hV2.out, ← hq7.out]
        have ne37 : Hid (∀ b o, A3 = some ⟨b, o, none⟩ → b ≠ q7) := fun b o e => by
          subst e
          have h1 : some b = some _ ∨ some b = some _ := hor3.out
          have h6 := hq6.out
          have h7 := hq7.out
          have h3 := (L3.out.lt b rfl).2
          omega
        replace L3 := Lib.hid (own_to L3.out gV2)
        have SV2 : V2.rangeAt (G + 3) 0 [.int .i64 l.au, .int .i64 sq, .int .i64 l.ep, .slice pA' pn' pc', .slice bA bn bc] := range_keep (range_of X3.out) PV2.out (by have := hGX.out; omega)
        refine hK.out _ _ (fun _ => SV2) ?_
        clear hK K hS
        try simp only [Act.put, List.getElem_toArray, List.getElem_cons_zero, List.getElem_cons_succ, List.setIfInBounds_toArray, List.set_cons_zero, List.set_cons_succ]
        have hS := SV2
        refine wpAnyG_ready (rs := [7]) (by kernel_rfl) (by simp) ?_
        refine AllReadyG.cons rfl (fun K hK => ?_) AllReadyG.nil
        have hBc := Lib.hid (HBX.out.1.to PV2.out)
        refine step_app (.tmp 27) (.tmp 29) 38 rfl rfl X.heap.size 5 1 1 (.int .u8 0) Try.underlying38 infoB rfl (by decide) (.slice (some ⟨q7, 0, none⟩) 0 0) 0 [] rfl L4.out _ bA bn bc (l.bd.map B8) rfl hBc.out (oneB _) (by simp only [maxLen]; omega) (by omega) PV2.out.size ?_
        intro A7 c7 V3 o7 g7 _
        simp only [Nat.zero_add, List.nil_append] at o7 ⊢
        have O7 := Lib.hid (OwnS.of_own o7)
        have G7 := Lib.hid g7
        have PV3 := Lib.hid (PV2.out.trans (⟨g7.os, g7.tape, g7.output, g7.size, fun k hk => g7.block k (Nat.lt_of_lt_of_le hk PV2.out.size) (fun e => by simp [Value.ownBlock] at e; have := q7X.out; omega)⟩ : Below X.heap.size V2 V3))
        have O3 : Hid (OwnS V3 X.heap.size A3 pn' c3 (l2.pv.map B8)) := (OwnS.of_own L3.out).same (fun b o e hb => G7.out.block b hb (fun e2 => (ne37.out b o e) (by simp [Value.ownBlock] at e2; exact e2)))
        clear o7 g7
        have SV3 : V3.rangeAt (G + 3) 0 [.int .i64 l.au, .int .i64 sq, .int .i64 l.ep, .slice pA' pn' pc', .slice bA bn bc] := range_keep (range_of X3.out) PV3.out (by have := hGX.out; omega)
        refine hK.out _ _ (fun _ => SV3) ?_
        clear hK K hS
        try simp only [Act.put, List.getElem_toArray, List.getElem_cons_zero, List.getElem_cons_succ, List.setIfInBounds_toArray, List.set_cons_zero, List.set_cons_succ]
        have hS := SV3
        refine wpAnyG_ready (rs := [9]) (by kernel_rfl) (by simp) ?_
        refine AllReadyG.cons rfl (fun K hK => ?_) AllReadyG.nil
        have V3h : Hid (V3.heap[G + 3]? = some (.cells #[.int .i64 l.au, .int .i64 sq, .int .i64 l.ep, .slice pA' pn' pc', .slice bA bn bc] 40 (0, 0))) := (PV3.out.block (G + 3) (by have := hGX.out; omega)).trans X3.out
        have V2h : Hid (V3.heap[G + 2]? = some (.cells #[.int .i64 0, .int .i64 0, .int .i64 0, .slice none 0 0, .slice none 0 0] 40 (0, 0))) := (PV3.out.block (G + 2) (by have := hGX.out; omega)).trans X2.out
        have s0 := cell_blk V3h.out 3 rfl
        have s1 := frozen_blk V3h.out 3
        go_simp
        clear s0 s1
        obtain ⟨Y, hY⟩ : ∃ W0, Hid (W0 = V3.setCell ⟨G + 3, 3, none⟩ (.slice A3 pn' c3)) := ⟨_, Lib.hid rfl⟩
        rw [← hY.out]
        have FY : Hid (Fr [G + 3] V3 Y [G + 3]) := by rw [hY.out]; exact setCell_fr _ _ _ _
        have Y3 : Hid (Y.heap[G + 3]? = some (.cells #[.int .i64 l.au, .int .i64 sq, .int .i64 l.ep, .slice A3 pn' c3, .slice bA bn bc] 40 (0, 0))) := by unfold Hid; rw [hY.out]; exact heap_set V3h.out _
        refine hK.out _ _ (fun h => absurd (h.symm.trans (by kernel_rfl : _ = true)) (by decide)) ?_
        clear hK K hS
        try simp only [Act.put, List.getElem_toArray, List.getElem_cons_zero, List.getElem_cons_succ, List.setIfInBounds_toArray, List.set_cons_zero, List.set_cons_succ]
        refine wpAnyG_ready (rs := [10]) (by kernel_rfl) (by simp) ?_
        refine AllReadyG.cons rfl (fun K hK => ?_) AllReadyG.nil
        go_simp
        refine hK.out _ _ (fun h => absurd (h.symm.trans (by kernel_rfl : _ = true)) (by decide)) ?_
        clear hK K
        try simp only [Act.put, List.getElem_toArray, List.getElem_cons_zero, List.getElem_cons_succ, List.setIfInBounds_toArray, List.set_cons_zero, List.set_cons_succ]
        refine wpAnyG_ready (rs := [11]) (by kernel_rfl) (by simp) ?_
        refine AllReadyG.cons rfl (fun K hK => ?_) AllReadyG.nil
        have s0 := cell_blk Y3.out 4 rfl
        have s1 := frozen_blk Y3.out 4
        go_simp
        clear s0 s1
        obtain ⟨Z, hZ⟩ : ∃ W0, Hid (W0 = Y.setCell ⟨G + 3, 4, none⟩ (.slice A7 bn c7)) := ⟨_, Lib.hid rfl⟩
        rw [← hZ.out]
        have FZ : Hid (Fr [G + 3] Y Z [G + 3]) := by rw [hZ.out]; exact setCell_fr _ _ _ _
        have Z3 : Hid (Z.heap[G + 3]? = some (.cells #[.int .i64 l.au, .int .i64 sq, .int .i64 l.ep, .slice A3 pn' c3, .slice A7 bn c7] 40 (0, 0))) := by unfold Hid; rw [hZ.out]; exact heap_set Y3.out _
        refine hK.out _ _ (fun h => absurd (h.symm.trans (by kernel_rfl : _ = true)) (by decide)) ?_
        clear hK K
        try simp only [Act.put, List.getElem_toArray, List.getElem_cons_zero, List.getElem_cons_succ, List.setIfInBounds_toArray, List.set_cons_zero, List.set_cons_succ]
        refine wpAnyG_done (by kernel_rfl) (NoPanic.normal ?_) _
        have FF : Hid (Fr [G + 3] V3 Z [G + 3]) := FY.out.trans FZ.out
        have Z2 : Z.heap[G + 2]? = some (.cells #[.int .i64 0, .int .i64 0, .int .i64 0, .slice none 0 0, .slice none 0 0] 40 (0, 0)) := (FF.out.block (G + 2) (lt_of_blk V2h.out) (by simp)).trans V2h.out
        have z0 := cell_blk Z3.out 0 rfl
        have z1 := cell_blk Z3.out 1 rfl
        have z2 := cell_blk Z3.out 2 rfl
        have z3 := cell_blk Z3.out 3 rfl
        have z4 := cell_blk Z3.out 4 rfl
        go_wp2_with (refine wpList_store_row rfl 40 (.tmp 4) (.tmp 33) rfl (G + 2) #[.int .i64 l.au, .int .i64 sq, .int .i64 l.ep, .slice A3 pn' c3, .slice A7 bn c7] rfl (by first | rfl | kernel_rfl) _ _ Z2 (by kernel_rfl) rfl (by kernel_rfl) ?_)
        generalize hQ : World.setRow _ _ _ = Qz
        have hQg : Qz.heap[G + 2]? = some (.cells #[.int .i64 l.au, .int .i64 sq, .int .i64 l.ep, .slice A3 pn' c3, .slice A7 bn c7] 40 (0, 0)) := by rw [← hQ]; exact setRow_heap _ _ _ _ _ _ Z2
        have FQ : Fr [G + 2] Z Qz [G + 2] := by rw [← hQ]; exact setRow_fr _ _ _
        have hQb : Below w.heap.size w Qz := by
          have h0 := hG.out
          have h1 : Below w.heap.size w V3 := (CW.out.trans (dX.mono CW.out.size)).trans (PV3.out.mono (Nat.le_trans CW.out.size dX.size))
          rw [← hQ]
          refine below_setRow ?_ (by omega) _
          rw [hZ.out, hY.out]
          exact (h1.setCell (by show _ ≤ G + 3; omega) _).setCell (by show _ ≤ G + 3; omega) _
        refine bodyPost_ret (v := lnV l2 A3 pn' c3 A7 bn c7) ?_ rfl ?_
        · have hv : lnV l2 A3 pn' c3 A7 bn c7 = .agg #[.int .i64 l.au, .int .i64 sq, .int .i64 l.ep, .slice A3 pn' c3, .slice A7 bn c7] := by rw [← hl2b.out.2.1, ← hl2b.out.2.2, ← hsq.out]; rfl
          rw [hv]
          exact results_cell Try.results17 rfl (run_loadVar_mid (P := Try.prog) Qz (G + 2) 0 40 _ _ (range_of hQg) Try.underlying40 rfl (by kernel_rfl))
        · refine ⟨A3, pn', c3, A7, c7, by rw [hl2.out], O3.out.le, O7.out.le, ?_, ?_, hQb⟩
          · rw [hl2.out]; exact ((O3.out.rdNo NOX.out).fr (no' := ((G + 2) :: (G + 3) :: no)) FF.out (fun k hk => by simp at hk; simp [hk]) (fun k hk => Or.inl hk)).fr FQ (fun k hk => by simp at hk; simp [hk]) (fun k hk => Or.inl (by simp [hk]))
          · rw [hl2.out, hl2b.out.1]; exact ((O7.out.rdNo NOX.out).fr (no' := ((G + 2) :: (G + 3) :: no)) FF.out (fun k hk => by simp at hk; simp [hk]) (fun k hk => Or.inl hk)).fr FQ (fun k hk => by simp at hk; simp [hk]) (fun k hk => Or.inl (by simp [hk]))
      · go_simp
        obtain ⟨V1, hV1⟩ : ∃ W0, Hid (W0 = U.alloc (.cells #[] 5)) := ⟨_, Lib.hid rfl⟩
        obtain ⟨q7, hq7⟩ : ∃ q, Hid (q = U.heap.size) := ⟨_, Lib.hid rfl⟩
        have PV1 : Hid (Below X.heap.size X V1) := by rw [hV1.out]; exact PU.out.alloc PU.out.size _
        have L4 : Hid (V1.ownsRow X.heap.size 5 1 (.slice (some ⟨q7, 0, none⟩) 0 0) 0 []) := by rw [hV1.out, hq7.out]; exact own_mono (World.ownsRow_lit U #[] 0 (Nat.le_refl _) (by simp [maxLen]) rfl) PU.out.size
        have gV1 : Below U.heap.size U V1 := by rw [hV1.out]; exact (Below.refl _ _).alloc (Nat.le_refl _) _
        have q7c : Hid (q7 < V1.heap.size) := by unfold Hid; rw [hq7.out, hV1.out, szAlloc]; exact Nat.lt_succ_self _
        have q7X : Hid (X.heap.size ≤ q7) := by unfold Hid; rw [hq7.out]; exact PU.out.size
        rw [← hV1.out, ← hq7.out]
        replace L0 := Lib.hid (own_to L0.out gV1)
        have SV1 : V1.rangeAt (G + 3) 0 [.int .i64 l.au, .int .i64 sq, .int .i64 l.ep, .slice pA' pn' pc', .slice bA bn bc] := range_keep (range_of X3.out) PV1.out (by have := hGX.out; omega)
        refine hK.out _ _ (fun _ => SV1) ?_
        clear hK K hS
        try simp only [Act.put, List.getElem_toArray, List.getElem_cons_zero, List.getElem_cons_succ, List.setIfInBounds_toArray, List.set_cons_zero, List.set_cons_succ]
        have hS := SV1
        refine wpAnyG_ready (rs := [3]) (by kernel_rfl) (by simp) ?_
        refine AllReadyG.cons rfl (fun K hK => ?_) AllReadyG.nil
        have hPc := Lib.hid (HPX.out.1.to PV1.out)
        refine step_app (.tmp 23) (.tmp 25) 38 rfl rfl X.heap.size 5 1 1 (.int .u8 0) Try.underlying38 infoB rfl (by decide) (.slice (some ⟨q6, 0, none⟩) 0 0) 0 [] rfl L0.out _ pA' pn' pc' (l2.pv.map B8) rfl hPc.out (oneB _) (by simp only [maxLen]; omega) (by omega) PV1.out.size ?_
        intro A3 c3 V2 o3 g3 hor
        simp only [Nat.zero_add, List.nil_append] at o3 hor ⊢
        have L3 := Lib.hid o3
        have G3 := Lib.hid g3
        have hor3 := Lib.hid hor
        have PV2 := Lib.hid (PV1.out.trans (⟨g3.os, g3.tape, g3.output, g3.size, fun k hk => g3.block k (Nat.lt_of_lt_of_le hk PV1.out.size) (fun e => by simp [Value.ownBlock] at e; have := q6X.out; omega)⟩ : Below X.heap.size V1 V2))
        clear o3 g3 hor
        have ne37 : Hid (∀ b o, A3 = some ⟨b, o, none⟩ → b ≠ q7) := fun b o e => by
          subst e
          have h1 : some b = some _ ∨ some b = some _ := hor3.out
          have h6 := hq6.out
          have h7 := hq7.out
          have h8 := hU.out
          have h9 : U.heap.size = X.heap.size + 1 := by rw [h8, szAlloc]
          have h10 := q7c.out
          rcases h1 with h1 | h1
          · injection h1 with h1; change b = q6 at h1; omega
          · injection h1 with h1; change b = V1.heap.size at h1; omega
        replace L4 : Hid (V2.ownsRow X.heap.size 5 1 (.slice (some ⟨q7, 0, none⟩) 0 0) 0 []) := L4.out.kept G3.out (by simp [Value.ownBlock]; have h8 := hU.out; have h9 : U.heap.size = X.heap.size + 1 := (by rw [h8, szAlloc]); have h6 := hq6.out; have h7 := hq7.out; omega)
        have SV2 : V2.rangeAt (G + 3) 0 [.int .i64 l.au, .int .i64 sq, .int .i64 l.ep, .slice pA' pn' pc', .slice bA bn bc] := range_keep (range_of X3.out) PV2.out (by have := hGX.out; omega)
        refine hK.out _ _ (fun _ => SV2) ?_
        clear hK K hS
        try simp only [Act.put, List.getElem_toArray, List.getElem_cons_zero, List.getElem_cons_succ, List.setIfInBounds_toArray, List.set_cons_zero, List.set_cons_succ]
        have hS := SV2
        refine wpAnyG_take (i := 8) (v := ?vn8) rfl (by kernel_rfl) (by kernel_rfl) (by kernel_rfl) (fun _ _ _ h => h) (by kernel_rfl) (Or.inl ⟨by rfl, ?hyn8⟩) hS ?restn8
        case hyn8 => (intro w' hSw; go_simp; first | done | with_reducible rfl)
        try simp only [Act.put, List.getElem_toArray, List.getElem_cons_zero, List.getElem_cons_succ, List.setIfInBounds_toArray, List.set_cons_zero, List.set_cons_succ]
        refine wpAnyG_ready (rs := [7]) (by kernel_rfl) (by simp) ?_
        refine AllReadyG.cons rfl (fun K hK => ?_) AllReadyG.nil
        have hBc := Lib.hid (HBX.out.1.to PV2.out)
        refine step_app (.tmp 27) (.tmp 29) 38 rfl rfl X.heap.size 5 1 1 (.int .u8 0) Try.underlying38 infoB rfl (by decide) (.slice (some ⟨q7, 0, none⟩) 0 0) 0 [] rfl L4.out _ bA bn bc (l.bd.map B8) rfl hBc.out (oneB _) (by simp only [maxLen]; omega) (by omega) PV2.out.size ?_
        intro A7 c7 V3 o7 g7 _
        simp only [Nat.zero_add, List.nil_append] at o7 ⊢
        have O7 := Lib.hid (OwnS.of_own o7)
        have G7 := Lib.hid g7
        have PV3 := Lib.hid (PV2.out.trans (⟨g7.os, g7.tape, g7.output, g7.size, fun k hk => g7.block k (Nat.lt_of_lt_of_le hk PV2.out.size) (fun e => by simp [Value.ownBlock] at e; have := q7X.out; omega)⟩ : Below X.heap.size V2 V3))
        have O3 : Hid (OwnS V3 X.heap.size A3 pn' c3 (l2.pv.map B8)) := (OwnS.of_own L3.out).same (fun b o e hb => G7.out.block b hb (fun e2 => (ne37.out b o e) (by simp [Value.ownBlock] at e2; exact e2)))
        clear o7 g7
        have SV3 : V3.rangeAt (G + 3) 0 [.int .i64 l.au, .int .i64 sq, .int .i64 l.ep, .slice pA' pn' pc', .slice bA bn bc] := range_keep (range_of X3.out) PV3.out (by have := hGX.out; omega)
        refine hK.out _ _ (fun _ => SV3) ?_
        clear hK K hS
        try simp only [Act.put, List.getElem_toArray, List.getElem_cons_zero, List.getElem_cons_succ, List.setIfInBounds_toArray, List.set_cons_zero, List.set_cons_succ]
        have hS := SV3
        refine wpAnyG_ready (rs := [9]) (by kernel_rfl) (by simp) ?_
        refine AllReadyG.cons rfl (fun K hK => ?_) AllReadyG.nil
        have V3h : Hid (V3.heap[G + 3]? = some (.cells #[.int .i64 l.au, .int .i64 sq, .int .i64 l.ep, .slice pA' pn' pc', .slice bA bn bc] 40 (0, 0))) := (PV3.out.block (G + 3) (by have := hGX.out; omega)).trans X3.out
        have V2h : Hid (V3.heap[G + 2]? = some (.cells #[.int .i64 0, .int .i64 0, .int .i64 0, .slice none 0 0, .slice none 0 0] 40 (0, 0))) := (PV3.out.block (G + 2) (by have := hGX.out; omega)).trans X2.out
        have s0 := cell_blk V3h.out 3 rfl
        have s1 := frozen_blk V3h.out 3
        go_simp
        clear s0 s1
        obtain ⟨Y, hY⟩ : ∃ W0, Hid (W0 = V3.setCell ⟨G + 3, 3, none⟩ (.slice A3 pn' c3)) := ⟨_, Lib.hid rfl⟩
        rw [← hY.out]
        have FY : Hid (Fr [G + 3] V3 Y [G + 3]) := by rw [hY.out]; exact setCell_fr _ _ _ _
        have Y3 : Hid (Y.heap[G + 3]? = some (.cells #[.int .i64 l.au, .int .i64 sq, .int .i64 l.ep, .slice A3 pn' c3, .slice bA bn bc] 40 (0, 0))) := by unfold Hid; rw [hY.out]; exact heap_set V3h.out _
        refine hK.out _ _ (fun h => absurd (h.symm.trans (by kernel_rfl : _ = true)) (by decide)) ?_
        clear hK K hS
        try simp only [Act.put, List.getElem_toArray, List.getElem_cons_zero, List.getElem_cons_succ, List.setIfInBounds_toArray, List.set_cons_zero, List.set_cons_succ]
        refine wpAnyG_ready (rs := [10]) (by kernel_rfl) (by simp) ?_
        refine AllReadyG.cons rfl (fun K hK => ?_) AllReadyG.nil
        go_simp
        refine hK.out _ _ (fun h => absurd (h.symm.trans (by kernel_rfl : _ = true)) (by decide)) ?_
        clear hK K
        try simp only [Act.put, List.getElem_toArray, List.getElem_cons_zero, List.getElem_cons_succ, List.setIfInBounds_toArray, List.set_cons_zero, List.set_cons_succ]
        refine wpAnyG_ready (rs := [11]) (by kernel_rfl) (by simp) ?_
        refine AllReadyG.cons rfl (fun K hK => ?_) AllReadyG.nil
        have s0 := cell_blk Y3.out 4 rfl
        have s1 := frozen_blk Y3.out 4
        go_simp
        clear s0 s1
        obtain ⟨Z, hZ⟩ : ∃ W0, Hid (W0 = Y.setCell ⟨G + 3, 4, none⟩ (.slice A7 bn c7)) := ⟨_, Lib.hid rfl⟩
        rw [← hZ.out]
        have FZ : Hid (Fr [G + 3] Y Z [G + 3]) := by rw [hZ.out]; exact setCell_fr _ _ _ _
        have Z3 : Hid (Z.heap[G + 3]? = some (.cells #[.int .i64 l.au, .int .i64 sq, .int .i64 l.ep, .slice A3 pn' c3, .slice A7 bn c7] 40 (0, 0))) := by unfold Hid; rw [hZ.out]; exact heap_set Y3.out _
        refine hK.out _ _ (fun h => absurd (h.symm.trans (by kernel_rfl : _ = true)) (by decide)) ?_
        clear hK K
        try simp only [Act.put, List.getElem_toArray, List.getElem_cons_zero, List.getElem_cons_succ, List.setIfInBounds_toArray, List.set_cons_zero, List.set_cons_succ]
        refine wpAnyG_done (by kernel_rfl) (NoPanic.normal ?_) _
        have FF : Hid (Fr [G + 3] V3 Z [G + 3]) := FY.out.trans FZ.out
        have Z2 : Z.heap[G + 2]? = some (.cells #[.int .i64 0, .int .i64 0, .int .i64 0, .slice none 0 0, .slice none 0 0] 40 (0, 0)) := (FF.out.block (G + 2) (lt_of_blk V2h.out) (by simp)).trans V2h.out
        have z0 := cell_blk Z3.out 0 rfl
        have z1 := cell_blk Z3.out 1 rfl
        have z2 := cell_blk Z3.out 2 rfl
        have z3 := cell_blk Z3.out 3 rfl
        have z4 := cell_blk Z3.out 4 rfl
        go_wp2_with (refine wpList_store_row rfl 40 (.tmp 4) (.tmp 33) rfl (G + 2) #[.int .i64 l.au, .int .i64 sq, .int .i64 l.ep, .slice A3 pn' c3, .slice A7 bn c7] rfl (by first | rfl | kernel_rfl) _ _ Z2 (by kernel_rfl) rfl (by kernel_rfl) ?_)
        generalize hQ : World.setRow _ _ _ = Qz
        have hQg : Qz.heap[G + 2]? = some (.cells #[.int .i64 l.au, .int .i64 sq, .int .i64 l.ep, .slice A3 pn' c3, .slice A7 bn c7] 40 (0, 0)) := by rw [← hQ]; exact setRow_heap _ _ _ _ _ _ Z2
        have FQ : Fr [G + 2] Z Qz [G + 2] := by rw [← hQ]; exact setRow_fr _ _ _
        have hQb : Below w.heap.size w Qz := by
          have h0 := hG.out
          have h1 : Below w.heap.size w V3 := (CW.out.trans (dX.mono CW.out.size)).trans (PV3.out.mono (Nat.le_trans CW.out.size dX.size))
          rw [← hQ]
          refine below_setRow ?_ (by omega) _
          rw [hZ.out, hY.out]
          exact (h1.setCell (by show _ ≤ G + 3; omega) _).setCell (by show _ ≤ G + 3; omega) _
        refine bodyPost_ret (v := lnV l2 A3 pn' c3 A7 bn c7) ?_ rfl ?_
        · have hv : lnV l2 A3 pn' c3 A7 bn c7 = .agg #[.int .i64 l.au, .int .i64 sq, .int .i64 l.ep, .slice A3 pn' c3, .slice A7 bn c7] := by rw [← hl2b.out.2.1, ← hl2b.out.2.2, ← hsq.out]; rfl
          rw [hv]
          exact results_cell Try.results17 rfl (run_loadVar_mid (P := Try.prog) Qz (G + 2) 0 40 _ _ (range_of hQg) Try.underlying40 rfl (by kernel_rfl))
        · refine ⟨A3, pn', c3, A7, c7, by rw [hl2.out], O3.out.le, O7.out.le, ?_, ?_, hQb⟩
          · rw [hl2.out]; exact ((O3.out.rdNo NOX.out).fr (no' := ((G + 2) :: (G + 3) :: no)) FF.out (fun k hk => by simp at hk; simp [hk]) (fun k hk => Or.inl hk)).fr FQ (fun k hk => by simp at hk; simp [hk]) (fun k hk => Or.inl (by simp [hk]))
          · rw [hl2.out, hl2b.out.1]; exact ((O7.out.rdNo NOX.out).fr (no' := ((G + 2) :: (G + 3) :: no)) FF.out (fun k hk => by simp at hk; simp [hk]) (fun k hk => Or.inl hk)).fr FQ (fun k hk => by simp at hk; simp [hk]) (fun k hk => Or.inl (by simp [hk]))
    · go_simp
      obtain ⟨U, hU⟩ : ∃ W0, Hid (W0 = X.alloc (.cells #[] 5)) := ⟨_, Lib.hid rfl⟩
      obtain ⟨q7, hq7⟩ : ∃ q, Hid (q = X.heap.size) := ⟨_, Lib.hid rfl⟩
      have PU : Hid (Below X.heap.size X U) := by rw [hU.out]; exact PX.out.alloc PX.out.size _
      have L4 : Hid (U.ownsRow X.heap.size 5 1 (.slice (some ⟨q7, 0, none⟩) 0 0) 0 []) := by rw [hU.out, hq7.out]; exact own_mono (World.ownsRow_lit X #[] 0 (Nat.le_refl _) (by simp [maxLen]) rfl) PX.out.size
      have gU : Below X.heap.size X U := by rw [hU.out]; exact (Below.refl _ _).alloc (Nat.le_refl _) _
      have q7c : Hid (q7 < U.heap.size) := by unfold Hid; rw [hq7.out, hU.out, szAlloc]; exact Nat.lt_succ_self _
      have q7X : Hid (X.heap.size ≤ q7) := by unfold Hid; rw [hq7.out]; exact PX.out.size
      rw [← hU.out, ← hq7.out]
      have SU : U.rangeAt (G + 3) 0 [.int .i64 l.au, .int .i64 sq, .int .i64 l.ep, .slice pA' pn' pc', .slice bA bn bc] := range_keep (range_of X3.out) PU.out (by have := hGX.out; omega)
      refine hK.out _ _ (fun _ => SU) ?_
      clear hK K hS
      try simp only [Act.put, List.getElem_toArray, List.getElem_cons_zero, List.getElem_cons_succ, List.setIfInBounds_toArray, List.set_cons_zero, List.set_cons_succ]
      have hS := SU
      refine wpAnyG_ready (rs := [0]) (by kernel_rfl) (by simp) ?_
      refine AllReadyG.cons rfl (fun K hK => ?_) AllReadyG.nil
      go_simp
      obtain ⟨V1, hV1⟩ : ∃ W0, Hid (W0 = U.alloc (.cells #[] 5)) := ⟨_, Lib.hid rfl⟩
      obtain ⟨q6, hq6⟩ : ∃ q, Hid (q = U.heap.size) := ⟨_, Lib.hid rfl⟩
      have PV1 : Hid (Below X.heap.size X V1) := by rw [hV1.out]; exact PU.out.alloc PU.out.size _
      have L0 : Hid (V1.ownsRow X.heap.size 5 1 (.slice (some ⟨q6, 0, none⟩) 0 0) 0 []) := by rw [hV1.out, hq6.out]; exact own_mono (World.ownsRow_lit U #[] 0 (Nat.le_refl _) (by simp [maxLen]) rfl) PU.out.size
      have gV1 : Below U.heap.size U V1 := by rw [hV1.out]; exact (Below.refl _ _).alloc (Nat.le_refl _) _
      have q6c : Hid (q6 < V1.heap.size) := by unfold Hid; rw [hq6.out, hV1.out, szAlloc]; exact Nat.lt_succ_self _
      have q6X : Hid (X.heap.size ≤ q6) := by unfold Hid; rw [hq6.out]; exact PU.out.size
      rw [← hV1.out, ← hq6.out]
      replace L4 := Lib.hid (own_to L4.out gV1)
      have SV1 : V1.rangeAt (G + 3) 0 [.int .i64 l.au, .int .i64 sq, .int .i64 l.ep, .slice pA' pn' pc', .slice bA bn bc] := range_keep (range_of X3.out) PV1.out (by have := hGX.out; omega)
      refine hK.out _ _ (fun _ => SV1) ?_
      clear hK K hS
      try simp only [Act.put, List.getElem_toArray, List.getElem_cons_zero, List.getElem_cons_succ, List.setIfInBounds_toArray, List.set_cons_zero, List.set_cons_succ]
      have hS := SV1
      refine wpAnyG_ready (rs := [3]) (by kernel_rfl) (by simp) ?_
      refine AllReadyG.cons rfl (fun K hK => ?_) AllReadyG.nil
      have hPc := Lib.hid (HPX.out.1.to PV1.out)
      refine step_app (.tmp 23) (.tmp 25) 38 rfl rfl X.heap.size 5 1 1 (.int .u8 0) Try.underlying38 infoB rfl (by decide) (.slice (some ⟨q6, 0, none⟩) 0 0) 0 [] rfl L0.out _ pA' pn' pc' (l2.pv.map B8) rfl hPc.out (oneB _) (by simp only [maxLen]; omega) (by omega) PV1.out.size ?_
      intro A3 c3 V2 o3 g3 hor
      simp only [Nat.zero_add, List.nil_append] at o3 hor ⊢
      have L3 := Lib.hid o3
      have G3 := Lib.hid g3
      have hor3 := Lib.hid hor
      have PV2 := Lib.hid (PV1.out.trans (⟨g3.os, g3.tape, g3.output, g3.size, fun k hk => g3.block k (Nat.lt_of_lt_of_le hk PV1.out.size) (fun e => by simp [Value.ownBlock] at e; have := q6X.out; omega)⟩ : Below X.heap.size V1 V2))
      clear o3 g3 hor
      have ne37 : Hid (∀ b o, A3 = some ⟨b, o, none⟩ → b ≠ q7) := fun b o e => by
        subst e
        have h1 : some b = some _ ∨ some b = some _ := hor3.out
        have h6 := hq6.out
        have h7 := hq7.out
        have h8 := hU.out
        have h9 : U.heap.size = X.heap.size + 1 := by rw [h8, szAlloc]
        have h10 := q6c.out
        rcases h1 with h1 | h1
        · injection h1 with h1; change b = q6 at h1; omega
        · injection h1 with h1; change b = V1.heap.size at h1; omega
      replace L4 : Hid (V2.ownsRow X.heap.size 5 1 (.slice (some ⟨q7, 0, none⟩) 0 0) 0 []) := L4.out.kept G3.out (by simp [Value.ownBlock]; have h8 := hU.out; have h9 : U.heap.size = X.heap.size + 1 := (by rw [h8, szAlloc]); have h6 := hq6.out; have h7 := hq7.out; omega)
      have SV2 : V2.rangeAt (G + 3) 0 [.int .i64 l.au, .int .i64 sq, .int .i64 l.ep, .slice pA' pn' pc', .slice bA bn bc] := range_keep (range_of X3.out) PV2.out (by have := hGX.out; omega)
      refine hK.out _ _ (fun _ => SV2) ?_
      clear hK K hS
      try simp only [Act.put, List.getElem_toArray, List.getElem_cons_zero, List.getElem_cons_succ, List.setIfInBounds_toArray, List.set_cons_zero, List.set_cons_succ]
      have hS := SV2
      refine wpAnyG_take (i := 8) (v := ?vp8) rfl (by kernel_rfl) (by kernel_rfl) (by kernel_rfl) (fun _ _ _ h => h) (by kernel_rfl) (Or.inl ⟨by rfl, ?hyp8⟩) hS ?restp8
      case hyp8 => (intro w' hSw; go_simp; first | done | with_reducible rfl)
      try simp only [Act.put, List.getElem_toArray, List.getElem_cons_zero, List.getElem_cons_succ, List.setIfInBounds_toArray, List.set_cons_zero, List.set_cons_succ]
      refine wpAnyG_ready (rs := [7]) (by kernel_rfl) (by simp) ?_
      refine AllReadyG.cons rfl (fun K hK => ?_) AllReadyG.nil
      have hBc := Lib.hid (HBX.out.1.to PV2.out)
      refine step_app (.tmp 27) (.tmp 29) 38 rfl rfl X.heap.size 5 1 1 (.int .u8 0) Try.underlying38 infoB rfl (by decide) (.slice (some ⟨q7, 0, none⟩) 0 0) 0 [] rfl L4.out _ bA bn bc (l.bd.map B8) rfl hBc.out (oneB _) (by simp only [maxLen]; omega) (by omega) PV2.out.size ?_
      intro A7 c7 V3 o7 g7 _
      simp only [Nat.zero_add, List.nil_append] at o7 ⊢
      have O7 := Lib.hid (OwnS.of_own o7)
      have G7 := Lib.hid g7
      have PV3 := Lib.hid (PV2.out.trans (⟨g7.os, g7.tape, g7.output, g7.size, fun k hk => g7.block k (Nat.lt_of_lt_of_le hk PV2.out.size) (fun e => by simp [Value.ownBlock] at e; have := q7X.out; omega)⟩ : Below X.heap.size V2 V3))
      have O3 : Hid (OwnS V3 X.heap.size A3 pn' c3 (l2.pv.map B8)) := (OwnS.of_own L3.out).same (fun b o e hb => G7.out.block b hb (fun e2 => (ne37.out b o e) (by simp [Value.ownBlock] at e2; exact e2)))
      clear o7 g7
      have SV3 : V3.rangeAt (G + 3) 0 [.int .i64 l.au, .int .i64 sq, .int .i64 l.ep, .slice pA' pn' pc', .slice bA bn bc] := range_keep (range_of X3.out) PV3.out (by have := hGX.out; omega)
      refine hK.out _ _ (fun _ => SV3) ?_
      clear hK K hS
      try simp only [Act.put, List.getElem_toArray, List.getElem_cons_zero, List.getElem_cons_succ, List.setIfInBounds_toArray, List.set_cons_zero, List.set_cons_succ]
      have hS := SV3
      refine wpAnyG_ready (rs := [9]) (by kernel_rfl) (by simp) ?_
      refine AllReadyG.cons rfl (fun K hK => ?_) AllReadyG.nil
      have V3h : Hid (V3.heap[G + 3]? = some (.cells #[.int .i64 l.au, .int .i64 sq, .int .i64 l.ep, .slice pA' pn' pc', .slice bA bn bc] 40 (0, 0))) := (PV3.out.block (G + 3) (by have := hGX.out; omega)).trans X3.out
      have V2h : Hid (V3.heap[G + 2]? = some (.cells #[.int .i64 0, .int .i64 0, .int .i64 0, .slice none 0 0, .slice none 0 0] 40 (0, 0))) := (PV3.out.block (G + 2) (by have := hGX.out; omega)).trans X2.out
      have s0 := cell_blk V3h.out 3 rfl
      have s1 := frozen_blk V3h.out 3
      go_simp
      clear s0 s1
      obtain ⟨Y, hY⟩ : ∃ W0, Hid (W0 = V3.setCell ⟨G + 3, 3, none⟩ (.slice A3 pn' c3)) := ⟨_, Lib.hid rfl⟩
      rw [← hY.out]
      have FY : Hid (Fr [G + 3] V3 Y [G + 3]) := by rw [hY.out]; exact setCell_fr _ _ _ _
      have Y3 : Hid (Y.heap[G + 3]? = some (.cells #[.int .i64 l.au, .int .i64 sq, .int .i64 l.ep, .slice A3 pn' c3, .slice bA bn bc] 40 (0, 0))) := by unfold Hid; rw [hY.out]; exact heap_set V3h.out _
      refine hK.out _ _ (fun h => absurd (h.symm.trans (by kernel_rfl : _ = true)) (by decide)) ?_
      clear hK K hS
      try simp only [Act.put, List.getElem_toArray, List.getElem_cons_zero, List.getElem_cons_succ, List.setIfInBounds_toArray, List.set_cons_zero, List.set_cons_succ]
      refine wpAnyG_ready (rs := [10]) (by kernel_rfl) (by simp) ?_
      refine AllReadyG.cons rfl (fun K hK => ?_) AllReadyG.nil
      go_simp
      refine hK.out _ _ (fun h => absurd (h.symm.trans (by kernel_rfl : _ = true)) (by decide)) ?_
      clear hK K
      try simp only [Act.put, List.getElem_toArray, List.getElem_cons_zero, List.getElem_cons_succ, List.setIfInBounds_toArray, List.set_cons_zero, List.set_cons_succ]
      refine wpAnyG_ready (rs := [11]) (by kernel_rfl) (by simp) ?_
      refine AllReadyG.cons rfl (fun K hK => ?_) AllReadyG.nil
      have s0 := cell_blk Y3.out 4 rfl
      have s1 := frozen_blk Y3.out 4
      go_simp
      clear s0 s1
      obtain ⟨Z, hZ⟩ : ∃ W0, Hid (W0 = Y.setCell ⟨G + 3, 4, none⟩ (.slice A7 bn c7)) := ⟨_, Lib.hid rfl⟩
      rw [← hZ.out]
      have FZ : Hid (Fr [G + 3] Y Z [G + 3]) := by rw [hZ.out]; exact setCell_fr _ _ _ _
      have Z3 : Hid (Z.heap[G + 3]? = some (.cells #[.int .i64 l.au, .int .i64 sq, .int .i64 l.ep, .slice A3 pn' c3, .slice A7 bn c7] 40 (0, 0))) := by unfold Hid; rw [hZ.out]; exact heap_set Y3.out _
      refine hK.out _ _ (fun h => absurd (h.symm.trans (by kernel_rfl : _ = true)) (by decide)) ?_
      clear hK K
      try simp only [Act.put, List.getElem_toArray, List.getElem_cons_zero, List.getElem_cons_succ, List.setIfInBounds_toArray, List.set_cons_zero, List.set_cons_succ]
      refine wpAnyG_done (by kernel_rfl) (NoPanic.normal ?_) _
      have FF : Hid (Fr [G + 3] V3 Z [G + 3]) := FY.out.trans FZ.out
      have Z2 : Z.heap[G + 2]? = some (.cells #[.int .i64 0, .int .i64 0, .int .i64 0, .slice none 0 0, .slice none 0 0] 40 (0, 0)) := (FF.out.block (G + 2) (lt_of_blk V2h.out) (by simp)).trans V2h.out
      have z0 := cell_blk Z3.out 0 rfl
      have z1 := cell_blk Z3.out 1 rfl
      have z2 := cell_blk Z3.out 2 rfl
      have z3 := cell_blk Z3.out 3 rfl
      have z4 := cell_blk Z3.out 4 rfl
      go_wp2_with (refine wpList_store_row rfl 40 (.tmp 4) (.tmp 33) rfl (G + 2) #[.int .i64 l.au, .int .i64 sq, .int .i64 l.ep, .slice A3 pn' c3, .slice A7 bn c7] rfl (by first | rfl | kernel_rfl) _ _ Z2 (by kernel_rfl) rfl (by kernel_rfl) ?_)
      generalize hQ : World.setRow _ _ _ = Qz
      have hQg : Qz.heap[G + 2]? = some (.cells #[.int .i64 l.au, .int .i64 sq, .int .i64 l.ep, .slice A3 pn' c3, .slice A7 bn c7] 40 (0, 0)) := by rw [← hQ]; exact setRow_heap _ _ _ _ _ _ Z2
      have FQ : Fr [G + 2] Z Qz [G + 2] := by rw [← hQ]; exact setRow_fr _ _ _
      have hQb : Below w.heap.size w Qz := by
        have h0 := hG.out
        have h1 : Below w.heap.size w V3 := (CW.out.trans (dX.mono CW.out.size)).trans (PV3.out.mono (Nat.le_trans CW.out.size dX.size))
        rw [← hQ]
        refine below_setRow ?_ (by omega) _
        rw [hZ.out, hY.out]
        exact (h1.setCell (by show _ ≤ G + 3; omega) _).setCell (by show _ ≤ G + 3; omega) _
      refine bodyPost_ret (v := lnV l2 A3 pn' c3 A7 bn c7) ?_ rfl ?_
      · have hv : lnV l2 A3 pn' c3 A7 bn c7 = .agg #[.int .i64 l.au, .int .i64 sq, .int .i64 l.ep, .slice A3 pn' c3, .slice A7 bn c7] := by rw [← hl2b.out.2.1, ← hl2b.out.2.2, ← hsq.out]; rfl
        rw [hv]
        exact results_cell Try.results17 rfl (run_loadVar_mid (P := Try.prog) Qz (G + 2) 0 40 _ _ (range_of hQg) Try.underlying40 rfl (by kernel_rfl))
      · refine ⟨A3, pn', c3, A7, c7, by rw [hl2.out], O3.out.le, O7.out.le, ?_, ?_, hQb⟩
        · rw [hl2.out]; exact ((O3.out.rdNo NOX.out).fr (no' := ((G + 2) :: (G + 3) :: no)) FF.out (fun k hk => by simp at hk; simp [hk]) (fun k hk => Or.inl hk)).fr FQ (fun k hk => by simp at hk; simp [hk]) (fun k hk => Or.inl (by simp [hk]))
        · rw [hl2.out, hl2b.out.1]; exact ((O7.out.rdNo NOX.out).fr (no' := ((G + 2) :: (G + 3) :: no)) FF.out (fun k hk => by simp at hk; simp [hk]) (fun k hk => Or.inl hk)).fr FQ (fun k hk => by simp at hk; simp [hk]) (fun k hk => Or.inl (by simp [hk]))
end Go.Proofs.Ytabcbpcfleociaa

/- The law's small: may these steps be gone through? -/
namespace Go.Proofs.Ytabcbpcfleociaa
open Go.RowKit
attribute [local go_sem ↓] Go.wp_at_zero Go.wp_at_succ
set_option linter.unusedSimpArgs false
set_option linter.unusedVariables false
/-- It tells a Boolean; if true, there are no more than 40 steps. -/
def Smalls (n : Nat) (e : Ending) : Prop := ∃ b, e = .returned (.bool b) ∧ (b = true → n ≤ 40)
set_option maxRecDepth 4000 in
set_option maxHeartbeats 2000000 in
theorem small_ (A : Option Addr) (n c : Nat) (ls : List Dn) (w : World) (hr : RdD w w.heap.size A n ls) (hn : n ≤ 140737488351232) :
    Calls Try.prog 14 #[.slice A n c] w fun e w' => Smalls n e ∧ Below w.heap.size w w' := by
  have HR := Lib.hid hr
  clear hr
  go_enter Try.func14, Try.ntmps14
  go_wp2_with fail
  go_loopw [3, 4] (fun x3 x4 wr => ∃ (i : Nat) (z : Int), x3 = .int .i64 z ∧ x4 = .int .i64 i ∧ i ≤ n ∧ i ≤ 41 ∧ Hid (Below w.heap.size w wr)) (fun _ x4 _ => 41 - (intOf x4).toNat)
  case atStart => exact ⟨0, 0, rfl, rfl, by omega, by omega, Below.refl _ _⟩
  case round =>
    obtain ⟨i, z, rfl, rfl, hi, hi41, hb⟩ := hrel
    by_cases hin : i < n ∧ i ≤ 40
    · have hin' : (i : Int) < (n : Int) := by omega
      have h40 : (i : Int) ≤ 40 := by omega
      have hi0 : (0 : Int) ≤ (i : Int) := by omega
      have hin2 : i < n := hin.1
      have e14 : IntKind.i64.wrap ((i : Int) + 1) = ((i + 1 : Nat) : Int) := by rw [IntWalk.i64_in _ (by omega)]; omega
      obtain ⟨x, hx⟩ : ∃ x, ls[i]? = some x := ⟨_, List.getElem?_eq_getElem (by rw [HR.out.1]; exact hin2)⟩
      obtain ⟨b, o, Ap, np, cp, Ab, nb, cb, rfl, hB, hrg, _⟩ := HR.out.2 i x hx
      have c3 : wr.cell? ⟨b, o + i * 6 + 3, none⟩ = some (.slice Ap np cp) := (World.cell?_of_block (a := ⟨b, o + i * 6 + 3, none⟩) (hb.out.block b hB)).trans (hrg 3 _ rfl)
      have c4 : wr.cell? ⟨b, o + i * 6 + 4, none⟩ = some (.slice Ab nb cb) := (World.cell?_of_block (a := ⟨b, o + i * 6 + 4, none⟩) (hb.out.block b hB)).trans (hrg 4 _ rfl)
      clear hrg hx
      go_wp2_with fail
      go_quiet (fail)
      go_wp2_with fail
      go_roundw
      case rel => exact ⟨i + 1, _, rfl, by go_num, hin2, by omega, below_drewN hb.out _⟩
      case measure => simp only [intOf]; omega
    · by_cases h1 : i < n
      · have hin' : (i : Int) < (n : Int) := by omega
        have h40 : ¬ (i : Int) ≤ 40 := by omega
        have h41 : ¬ (n : Int) ≤ 40 := by omega
        go_wp2_with fail
        go_ret
        exact ⟨⟨_, rfl, by simp⟩, hb.out⟩
      · have hin' : ¬ (i : Int) < (n : Int) := by omega
        by_cases h40 : (n : Int) ≤ 40
        · go_wp2_with fail
          go_ret
          exact ⟨⟨_, rfl, fun _ => by omega⟩, hb.out⟩
        · go_wp2_with fail
          go_ret
          exact ⟨⟨_, rfl, by simp⟩, hb.out⟩
end Go.Proofs.Ytabcbpcfleociaa
