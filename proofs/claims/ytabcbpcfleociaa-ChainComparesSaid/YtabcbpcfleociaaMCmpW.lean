/- Are two lists of forks the same; the document's At, clear of blocks. -/
import Derived.Test.YtabcbpcfleociaaMHd
import Derived.Test.YtabcbpcfleociaaMPv
import Derived.Test.YtabcbpcfleociaaMFro
import Derived.Test.YtabcbpcfleociaaMRc
import Derived.Test.YtabcbpcfleociaaMPlyW
namespace Go.Proofs.Ytabcbpcfleociaa
open Go.RowKit Go.Maps
attribute [local go_sem ↓] Go.wp_at_zero Go.wp_at_succ
set_option linter.unusedSimpArgs false
set_option linter.unusedVariables false
theorem rat_anyN (A : Option Addr) (n c : Nat) (S : Bk) (a q : Int) (no : List Nat) (w : World) (hv : RkN no w A n S) (hn : n ≤ 1000000) (hno : ∀ k, k ∈ no → k < w.heap.size) :
    Calls Try.prog 34 #[.agg #[.slice A n c], .int .i64 a, .int .i64 q] w fun e w' => ∃ D dn dc, e = .returned (.tuple #[.slice D dn dc, .int .i64 (atE S a q)]) ∧ RdN no w' 1 D dn ((atD S a q).map B8) ∧ Below w.heap.size w w' := by
  by_cases h : q < 1 ∨ (ofA S a).length < q
  · refine (refAt_no A n c S a q no w hv hn hno h).mono ?_
    rintro e w' ⟨rfl, hb⟩
    have hz := atK_no h
    exact ⟨none, 0, 0, by rw [atE, hz]; rfl, by rw [atD, hz]; exact RdN.nil _ _ _, hb⟩
  · obtain ⟨i, k, rfl, hk, hz⟩ := atK_in h
    refine (refAt_ A n c S a i k no w hv hn hno hk).mono ?_
    rintro e w' ⟨D, dn, dc, rfl, _, hr, hb⟩
    exact ⟨D, dn, dc, by rw [atE, hz]; rfl, by rw [atD, hz]; exact hr, hb⟩
set_option maxRecDepth 8000 in
set_option maxHeartbeats 4000000 in
theorem sameForks_ (A : Option Addr) (n c : Nat) (A' : Option Addr) (c' : Nat) (Fs : List (Int × Int)) (w : World) (hv : Rd w w.heap.size 2 A n (Fs.flatMap fkC)) (hv' : Rd w w.heap.size 2 A' n (Fs.flatMap fkC)) (hl : Fs.length = n) (hn : n ≤ 1000000) :
    Calls Try.prog 44 #[.slice A n c, .slice A' n c'] w fun e w' => e = .returned (.bool true) ∧ Below w.heap.size w w' := by
  have HV := Lib.hid hv
  have HV' := Lib.hid hv'
  have HL := Lib.hid hl
  clear hv hv' hl
  go_enter Try.func44, Try.ntmps44
  go_wp2_with fail
  go_loopw [5] (fun x5 wr => ∃ (i : Nat), x5 = .int .i64 i ∧ i ≤ n ∧ Hid (Below w.heap.size w wr)) (fun x5 _ => n - (intOf x5).toNat)
  case atStart => exact ⟨0, rfl, by omega, Below.refl _ _⟩
  case round =>
    obtain ⟨i, rfl, hi, hb⟩ := hrel
    by_cases hin : i < n
    · have hin' : (i : Int) < (n : Int) := by omega
      have hi0 : (0 : Int) ≤ (i : Int) := by omega
      have e8 : IntKind.i64.wrap ((i : Int) + 1) = ((i + 1 : Nat) : Int) := by rw [IntWalk.i64_in _ (by omega)]; omega
      obtain ⟨⟨xa, xs⟩, hx⟩ : ∃ x, Fs[i]? = some x := ⟨_, List.getElem?_eq_getElem (by rw [HL.out]; exact hin)⟩
      obtain ⟨b, o, rfl, hbb, hrb⟩ := HV.out.elem (f := fkC) (fun _ _ => rfl) HL.out hx
      obtain ⟨b', o', rfl, hbb', hrb'⟩ := HV'.out.elem (f := fkC) (fun _ _ => rfl) HL.out hx
      have c0 : wr.cell? ⟨b, o + i * 2, none⟩ = some (.int .i64 xa) := (World.cell?_of_block (a := ⟨b, o + i * 2 + 0, none⟩) (hb.out.block b hbb)).trans (hrb 0 _ rfl)
      have c1 : wr.cell? ⟨b, o + i * 2 + 1, none⟩ = some (.int .i64 xs) := (World.cell?_of_block (a := ⟨b, o + i * 2 + 1, none⟩) (hb.out.block b hbb)).trans (hrb 1 _ rfl)
      have d0 : wr.cell? ⟨b', o' + i * 2, none⟩ = some (.int .i64 xa) := (World.cell?_of_block (a := ⟨b', o' + i * 2 + 0, none⟩) (hb.out.block b' hbb')).trans (hrb' 0 _ rfl)
      have d1 : wr.cell? ⟨b', o' + i * 2 + 1, none⟩ = some (.int .i64 xs) := (World.cell?_of_block (a := ⟨b', o' + i * 2 + 1, none⟩) (hb.out.block b' hbb')).trans (hrb' 1 _ rfl)
      clear hrb hrb' hbb hbb' hx
      go_wp2_with fail
      go_quiet (fail)
      go_wp2_with fail
      go_roundw
      case rel => exact ⟨i + 1, by go_num, hin, below_drewN hb.out _⟩
      case measure => simp only [intOf]; omega
    · have hin' : ¬ (i : Int) < (n : Int) := by omega
      go_wp2_with fail
      go_ret
      exact ⟨rfl, hb.out⟩
end Go.Proofs.Ytabcbpcfleociaa

/- Arguments opened: lists of asked heads. No function of the program. -/
namespace Go.Proofs.Ytabcbpcfleociaa
open Go.ChangeShapes Go.WideShapes Go.ChangeAt Go.RowKit
set_option linter.unusedSimpArgs false
set_option linter.unusedVariables false
structure Ak where
  h : Hd
  own : Bool
def RdK (w : World) (B : Nat) (A : Option Addr) (n : Nat) (ls : List Ak) : Prop :=
  ls.length = n ∧ ∀ (i : Nat) (x : Ak), ls[i]? = some x → ∃ b o D m c, A = some ⟨b, o, none⟩ ∧ b < B ∧ w.rangeAt b (o + i * 4) [.int .i64 x.h.au, .int .i64 x.h.sq, .slice D m c, .bool x.own] ∧ inI x.h.au ∧ Rd w B 1 D m (x.h.dg.map B8)
theorem RdK.to {w w' : World} {B n : Nat} {A : Option Addr} {ls : List Ak} (h : RdK w B A n ls) (hb : Below B w w') : RdK w' B A n ls := by
  refine ⟨h.1, fun i x hx => ?_⟩
  obtain ⟨b, o, D, m, c, e, hB, hr, i1, r1⟩ := h.2 i x hx
  exact ⟨b, o, D, m, c, e, hB, fun j v hj => (World.cell?_of_block (a := ⟨b, o + i * 4 + j, none⟩) (hb.block b hB)).trans (hr j v hj), i1, r1.below hb⟩
section
variable {H : Type} {enc : TypeId × Value → H} {w : World} {sp : Nat → Bool} {held : Bool}
set_option maxRecDepth 100000 in
theorem open_head {cs : List Value} {x : DataW H × List MemPlace} {fuel : Nat} (h : DataW.trod enc Try.prog w 0 sp held fuel 45 cs = some x) :
    ∃ (l : Hd) (A : Option Addr) (n c : Nat), cs = [.int .i64 l.au, .int .i64 l.sq, .slice A n c] ∧ inI l.au ∧ Rd w w.heap.size 1 A n (l.dg.map B8) := by
  obtain ⟨xs, k, _, _, hl, hxl, hf⟩ := DataW.trod_struct Try.underlying45 h
  have hC : Try.prog.cellsOf 45 = 3 := by kernel_rfl
  rw [hC] at hl
  have c3 : Try.prog.cellsOf 3 = 1 := by kernel_rfl
  have cS : Try.prog.cellsOf 38 = 1 := by kernel_rfl
  match cs, hl, xs, hxl with
  | [v0, v1, v2], _, [y0, y1, y2], _ =>
    have h0 : DataW.trod enc Try.prog w 0 sp held k 3 (List.take (Try.prog.cellsOf 3) (List.drop 0 [v0, v1, v2])) = some y0 := hf 0 _ rfl
    rw [c3] at h0
    have h1 : DataW.trod enc Try.prog w 0 sp held k 3 (List.take (Try.prog.cellsOf 3) (List.drop 1 [v0, v1, v2])) = some y1 := hf 1 _ rfl
    rw [c3] at h1
    have h2 : DataW.trod enc Try.prog w 0 sp held k 38 (List.take (Try.prog.cellsOf 38) (List.drop 2 [v0, v1, v2])) = some y2 := hf 2 _ rfl
    rw [cS] at h2
    obtain ⟨x0, e0, _, w0⟩ := DataW.trod_int Try.underlying3 h0
    obtain ⟨x1, e1, _, w1⟩ := DataW.trod_int Try.underlying3 h1
    obtain ⟨A, n, c, dg, e2, r2, q2⟩ := field_bytes' Try.underlying38 Try.underlying5 (by kernel_rfl) h2
    simp at e0 e1
    subst e0 e1 e2
    exact ⟨⟨x0, x1, dg⟩, A, n, c, rfl, wf_inI w0, r2⟩
set_option maxRecDepth 100000 in
set_option maxHeartbeats 1000000 in
theorem open_asks {A : Option Addr} {n c : Nat} {x : DataW H × List MemPlace} {fuel : Nat} (h : DataW.trod enc Try.prog w 0 sp held fuel 77 [.slice A n c] = some x) :
    ∃ ls, RdK w w.heap.size A n ls ∧ n ≤ c := by
  have hC : Try.prog.cellsOf 79 = 4 := by kernel_rfl
  have cL : Try.prog.cellsOf 45 = 3 := by kernel_rfl
  have cB : Try.prog.cellsOf 4 = 1 := by kernel_rfl
  rcases Go.Deep.open_slice Try.underlying77 h with ⟨hcs, _⟩ | ⟨a, len, cap, m, k, D, Pl, hcs, _, hl, _, hm, _, hx⟩
  · simp at hcs
    obtain ⟨rfl, rfl, rfl⟩ := hcs
    exact ⟨[], ⟨rfl, fun i l h => by simp at h⟩, Nat.le_refl _⟩
  · simp at hcs
    obtain ⟨rfl, rfl, rfl⟩ := hcs
    have hnm : n ≤ m := by rw [hm]; split <;> omega
    obtain ⟨ls, h1, h2⟩ := list_of (P := fun i (x : Ak) => ∃ b o D m c, some a = some ⟨b, o, none⟩ ∧ b < w.heap.size ∧ w.rangeAt b (o + i * 4) [.int .i64 x.h.au, .int .i64 x.h.sq, .slice D m c, .bool x.own] ∧ inI x.h.au ∧ Rd w w.heap.size 1 D m (x.h.dg.map B8)) n (by
      intro i hi
      obtain ⟨cs', hcells, htr⟩ := hx i (by omega)
      rw [hC] at hcells
      obtain ⟨_, hlen, hcell⟩ := World.cells?_some hcells
      obtain ⟨xs, k2, _, _, _, hxl, hf⟩ := DataW.trod_struct Try.underlying79 htr
      match cs', hlen, xs, hxl with
      | [v0, v1, v2, v3], _, [y0, y1], _ =>
        have g0 : DataW.trod enc Try.prog w 0 sp held k2 45 (List.take (Try.prog.cellsOf 45) (List.drop 0 [v0, v1, v2, v3])) = some y0 := hf 0 _ rfl
        have g1 : DataW.trod enc Try.prog w 0 sp held k2 4 (List.take (Try.prog.cellsOf 4) (List.drop 3 [v0, v1, v2, v3])) = some y1 := hf 1 _ rfl
        rw [cL] at g0
        rw [cB] at g1
        obtain ⟨l, D, dm, dc, e, i1, r1⟩ := open_head g0
        obtain ⟨nx, e2, _⟩ := DataW.trod_bool Try.underlying4 g1
        obtain ⟨bb, off, spot⟩ := a
        have hc0 := hcell 0 (by omega)
        have hspot : spot = none := by
          obtain ⟨cs0, hcells0, _⟩ := hx 0 (by omega)
          rw [hC] at hcells0
          obtain ⟨_, hlen0, hcell0⟩ := World.cells?_some hcells0
          have h00 := (hcell0 0 (by omega)).trans (List.getElem?_eq_getElem (by omega))
          simpa [Addr.add] using World.cell?_spot h00
        subst hspot
        have e' : [v0, v1, v2] = [.int .i64 l.au, .int .i64 l.sq, .slice D dm dc] := by simpa using e
        have e2' : v3 = .bool nx := by simpa using e2
        have hall : [v0, v1, v2, v3] = [.int .i64 l.au, .int .i64 l.sq, .slice D dm dc, .bool nx] := by
          simp at e'
          obtain ⟨r0, r1, r2⟩ := e'
          rw [r0, r1, r2, e2']
        refine ⟨⟨l, nx⟩, bb, off, D, dm, dc, rfl, ?_, ?_, i1, r1⟩
        · rw [addr_add, addr_add, List.getElem?_cons_zero] at hc0
          exact World.block_lt_of_cell? _ _ hc0
        · intro j v hj
          have hj4 : j < 4 := by
            rcases Nat.lt_or_ge j 4 with h | h
            · exact h
            · rw [List.getElem?_eq_none (by simp; omega)] at hj; cases hj
          have := hcell j hj4
          rw [addr_add, addr_add, hall, hj] at this
          exact this)
    exact ⟨ls, ⟨h1, h2⟩, hl⟩
end
end Go.Proofs.Ytabcbpcfleociaa

/- The law ChainCompares, walked. (Printed by gen_cmp.py.) -/
namespace Go.Proofs.Ytabcbpcfleociaa
open Go.RowKit
attribute [local go_sem ↓] Go.wp_at_zero Go.wp_at_succ
set_option linter.unusedSimpArgs false
set_option linter.unusedVariables false
def askH (S : Bk) (a : Ak) : Hd := ⟨a.h.au, a.h.sq, if a.own = true ∧ 0 < atE S a.h.au a.h.sq then atD S a.h.au a.h.sq else a.h.dg⟩
set_option maxRecDepth 20000 in
set_option maxHeartbeats 16000000 in
theorem chainCompares_walk (A : Option Addr) (n c : Nat) (ls : List Dn) (Av : Option Addr) (nv cv : Nat) (ak : List Ak) (w : World) (hr : RdD w w.heap.size A n ls) (hc : n ≤ c) (hq : n ≤ 140737488351232 ∧ Reaches w A n) (hrk : RdK w w.heap.size Av nv ak) (hck : nv ≤ cv) :
    Calls Try.prog 8 #[.slice A n c, .slice Av nv cv] w fun e w' => e = .returned (.bool true) ∧ Below w.heap.size w w' := by
  have HR := Lib.hid hr
  have HQ := Lib.hid hq
  have HK := Lib.hid hrk
  clear hr hq hrk
  go_enter Try.func8, Try.ntmps8
  go_wp2_with fail
  refine (small_ A n c ls w HR.out HQ.out.1).mono ?_
  rintro e w1 ⟨⟨b, rfl, hb40⟩, b1⟩
  have B1 := Lib.hid b1
  clear b1
  rcases b with _ | _
  · clear hb40
    go_wp2_with fail
    refine (awake_ w1).mono ?_
    rintro e w2 ⟨rfl, b2⟩
    have B2 := Lib.hid b2
    clear b2
    go_wp2_with fail
    go_ret
    exact ⟨rfl, B1.out.trans (B2.out.mono B1.out.size)⟩
  · have HN : Hid (n ≤ 40) := hb40 rfl
    clear hb40
    by_cases hv10 : 10 < nv
    · have hv10' : (10 : Int) < (nv : Int) := by omega
      go_wp2_with fail
      refine (awake_ w1).mono ?_
      rintro e w2 ⟨rfl, b2⟩
      have B2 := Lib.hid b2
      clear b2
      go_wp2_with fail
      go_ret
      exact ⟨rfl, B1.out.trans (B2.out.mono B1.out.size)⟩
    · have hv10' : ¬ (10 : Int) < (nv : Int) := by omega
      have HNV : Hid (nv ≤ 10) := by unfold Hid; omega
      go_wp2_with fail
      refine (played_ A n c ls w1 ((HR.out.to B1.out).more B1.out.size) ((HQ.out.2).to HR.out B1.out) HN.out).mono ?_
      rintro e w2 ⟨p, S, hs, rfl, hp, hre, b2⟩
      have HRe := Lib.hid hre
      have B2 := Lib.hid (B1.out.trans (b2.mono B1.out.size))
      obtain ⟨U, hU⟩ : ∃ U, Hid (U = w2.alloc (.cells #[.pointer (some ⟨p.gb, 0, none⟩), .pointer (some ⟨p.gi, 0, none⟩), .slice p.A p.n p.c, .slice p.V p.vn p.vc, .int .i64 0] 35)) := ⟨_, Lib.hid rfl⟩
      obtain ⟨G, hG⟩ : ∃ g, Hid (g = w2.heap.size) := ⟨_, Lib.hid rfl⟩
      have BU1 : Below w2.heap.size w2 U := by rw [hU.out]; exact (Below.refl _ _).alloc (Nat.le_refl _) _
      have RU : Hid (U.heap[G]? = some (.cells (plC p).toArray 35 (0, 0))) := by unfold Hid; rw [hU.out, hG.out]; exact heap_alloc_new _ _
      have BU : Hid (Below w.heap.size w U) := B2.out.trans (BU1.mono B2.out.size)
      have HBk := Lib.hid (hp.pr.bk.below BU1)
      have HRK : Hid (RkN [] U p.A p.n S) := (hp.rk.below BU1).fr (own := []) (own' := []) (Fr.below (Below.refl _ _)) (fun _ h => absurd h (by simp)) (fun _ h => absurd h (by simp))
      have hSok : Hid S.ok := HRe.out.ok
      have hpn : Hid (p.n ≤ 1000000) := by have h1 := hp.rk.len; have h2 := HRe.out.len; have h3 := HN.out; unfold Hid; omega
      clear hp hre b2 BU1
      unfold plV
      go_wp2_with fail
      rw [← hU.out, ← hG.out]
      clear hU hG
      go_loopw [7, 35] (fun x7 x35 wr => ∃ (i m : Nat) (F : Option Addr) (d : Nat), x7 = .slice F m d ∧ x35 = .int .i64 i ∧ i ≤ nv ∧ m ≤ i ∧ Hid (Below U.heap.size U wr) ∧ Hid (∃ Qs, OwnH [] U.heap.size wr F m d ((ak.take i).map (askH S)) Qs)) (fun _ x35 _ => nv - (intOf x35).toNat)
      case atStart => exact ⟨0, 0, none, 0, rfl, rfl, by omega, by omega, Below.refl _ _, [], OwnH.nil _ _ _⟩
      case round =>
        obtain ⟨i, m, F, d, rfl, rfl, hi, hmi, hb, hQ⟩ := hrel
        by_cases hin : i < nv
        · have hin' : (i : Int) < (nv : Int) := by omega
          have hi0 : (0 : Int) ≤ (i : Int) := by omega
          have e8 : IntKind.i64.wrap ((i : Int) + 1) = ((i + 1 : Nat) : Int) := by have := HNV.out; rw [IntWalk.i64_in _ (by omega)]; omega
          have hm11 : Hid (m + 1 ≤ 11) := by have := HNV.out; unfold Hid; omega
          obtain ⟨x, hx⟩ : ∃ x, ak[i]? = some x := ⟨_, List.getElem?_eq_getElem (by rw [HK.out.1]; exact hin)⟩
          obtain ⟨b, o, D, dm, dc, rfl, hB, hrg, hau, hrd⟩ := HK.out.2 i x hx
          have hts := Lib.hid (take_snoc hx)
          obtain ⟨⟨au, sq, dg⟩, ow⟩ := x
          have hwU := BU.out.trans (hb.out.mono BU.out.size)
          have hww : ∀ j v, ([.int .i64 au, .int .i64 sq, .slice D dm dc, .bool ow] : List Value)[j]? = some v → wr.cell? ⟨b, o + i * 4 + j, none⟩ = some v := fun j v hj => (World.cell?_of_block (a := ⟨b, o + i * 4 + j, none⟩) (hwU.block b hB)).trans (hrg j v hj)
          have c0 : wr.cell? ⟨b, o + i * 4, none⟩ = some (.int .i64 au) := hww 0 _ rfl
          have c1 : wr.cell? ⟨b, o + i * 4 + 1, none⟩ = some (.int .i64 sq) := hww 1 _ rfl
          have c2 : wr.cell? ⟨b, o + i * 4 + 2, none⟩ = some (.slice D dm dc) := hww 2 _ rfl
          have c3 : wr.cell? ⟨b, o + i * 4 + 3, none⟩ = some (.bool ow) := hww 3 _ rfl
          have HD := Lib.hid hrd
          have hwUh := Lib.hid hwU
          clear hx hB hrg hww hau hrd hwU
          obtain ⟨V, hV⟩ : ∃ V, Hid (V = (wr.alloc (.cells #[.int .i64 au, .int .i64 sq, .slice D dm dc, .bool ow] 79)).alloc (.cells #[.int .i64 au, .int .i64 sq, .slice D dm dc] 45)) := ⟨_, Lib.hid rfl⟩
          obtain ⟨G9, hG9⟩ : ∃ g, Hid (g = wr.heap.size) := ⟨_, Lib.hid rfl⟩
          have hs1 : (wr.alloc (.cells #[.int .i64 au, .int .i64 sq, .slice D dm dc, .bool ow] 79)).heap.size = wr.heap.size + 1 := szAlloc _ _
          have BV : Hid (Below wr.heap.size wr V) := by rw [hV.out]; exact ((Below.refl _ _).alloc (Nat.le_refl _) _).alloc (by rw [hs1]; omega) _
          have V9 : Hid (V.heap[G9]? = some (.cells #[.int .i64 au, .int .i64 sq, .slice D dm dc, .bool ow] 79 (0, 0))) := by unfold Hid; rw [hV.out, hG9.out]; exact (heap_alloc_old _ _ (by rw [hs1]; omega)).trans (heap_alloc_new _ _)
          have V10 : Hid (V.heap[G9 + 1]? = some (.cells #[.int .i64 au, .int .i64 sq, .slice D dm dc] 45 (0, 0))) := by unfold Hid; rw [hV.out, hG9.out, ← hs1]; exact heap_alloc_new _ _
          have VG : Hid (V.heap[G]? = some (.cells (plC p).toArray 35 (0, 0))) := (BV.out.block G (Nat.lt_of_lt_of_le (lt_of_blk RU.out) hb.out.size)).trans ((hb.out.block G (lt_of_blk RU.out)).trans RU.out)
          have g0 : V.cell? ⟨G, 2, none⟩ = some (.slice p.A p.n p.c) := cell_blk VG.out 2 rfl
          have hG9w : Hid (G9 + 2 ≤ V.heap.size) := lt_of_blk V10.out
          rw [hV.out] at g0
          go_wp2_with fail
          clear c0 c1 c2 c3 g0 hs1
          rw [← hV.out, ← hG9.out]
          obtain ⟨Qs, hq0⟩ := hQ.out
          have HQ0 := Lib.hid (hq0.to BV.out)
          have hge := Lib.hid (own_block_ge2 hq0.row)
          have BUV : Hid (Below U.heap.size U V) := hb.out.trans (BV.out.mono hb.out.size)
          have hRKV : Hid (RkN ((G9 + 1) :: ((Value.slice F m d).ownBlock.toList ++ [])) V p.A p.n S) := HRK.out.fr (own := []) (own' := []) ⟨BUV.out.os, BUV.out.tape, BUV.out.output, BUV.out.size, fun k hk _ => BUV.out.block k hk, fun _ h => absurd h (by simp)⟩ (fun _ h => absurd h (by simp)) (fun k hk => by
            rcases List.mem_cons.1 hk with h | h
            · exact Or.inr (by have h1 := hG9.out; have h2 := hb.out.size; omega)
            · rw [List.append_nil] at h; simp at h; exact Or.inr (hge.out k h))
          have hbk : ∀ k, k ∈ (G9 + 1) :: ((Value.slice F m d).ownBlock.toList ++ []) → k < V.heap.size := fun k hk => by
            rcases List.mem_cons.1 hk with h | h
            · have := hG9w.out; omega
            · exact HQ0.out.blk (fun k hk => absurd hk (by simp)) k h
          have hq1 := Lib.hid hq0
          clear hq0
          refine (rat_anyN p.A p.n p.c S au sq _ V hRKV.out hpn.out hbk).mono ?_
          rintro e v ⟨Dd, dn, dd, rfl, hdd, b3⟩
          have B3 := Lib.hid b3
          have HDD := Lib.hid hdd
          have v9 := (b3.block G9 (lt_of_blk V9.out)).trans V9.out
          have v10 : Hid (v.heap[G9 + 1]? = some (.cells #[.int .i64 au, .int .i64 sq, .slice D dm dc] 45 (0, 0))) := (b3.block (G9 + 1) (lt_of_blk V10.out)).trans V10.out
          have HQ1 := Lib.hid (HQ0.out.to b3)
          have BUv : Hid (Below U.heap.size U v) := BUV.out.trans (b3.mono BUV.out.size)
          have HDo : Hid (RdN ((Value.slice F m d).ownBlock.toList ++ []) v 1 D dm (dg.map B8)) := by
            have h1 : Below w.heap.size w v := BU.out.trans (BUv.out.mono BU.out.size)
            refine (HD.out.below h1).lowN h1.size (fun k hk => ?_)
            rw [List.append_nil] at hk; simp at hk
            exact Nat.le_trans BU.out.size (hge.out k hk)
          obtain ⟨ep, hep⟩ : ∃ e, Hid (atE S au sq = e) := ⟨_, Lib.hid rfl⟩
          rw [hep.out]
          have k3 := cell_blk v9 3 rfl
          have k0 := cell_blk v10.out 0 rfl
          have k1 := cell_blk v10.out 1 rfl
          have k2 := cell_blk v10.out 2 rfl
          have kf := frozen_blk v10.out 2
          have hge1 := Lib.hid (own_block_ge2 HQ1.out.row)
          clear b3 hdd v9 hbk
          rcases ow with _ | _
          · have hxx : Hid (askH S ⟨⟨au, sq, dg⟩, false⟩ = ⟨au, sq, dg⟩) := by
              unfold Hid askH; simp
            go_wp2_with (at_builtin
                         have hq' := HQ1.out.to ((Below.refl _ _).alloc (Nat.le_refl _) (.cells #[.int .i64 au, .int .i64 sq, .slice D dm dc] 45))
                         have rowh := rowH v ⟨au, sq, D, dm, dc⟩ 45
                         refine wpList_app rfl (.tmp 59) (.tmp 61) 71 rfl U.heap.size 45 3 40 _ Try.underlying71 infoH rfl (by decide) (.slice F m d) m _ rfl hq'.row _ (some ⟨v.heap.size, 0, none⟩) 1 1 (hqC ⟨au, sq, D, dm, dc⟩) rfl rowh (hqC_one _) (by have := hm11.out; simp only [maxLen]; omega) (by have := hm11.out; omega) (by rw [szAlloc]; exact Nat.le_succ_of_le BUv.out.size) ?_
                         intro F6 d6 w6 o6 g6 k6
                         have B6 : Hid (Below U.heap.size U w6) := (BUv.out.alloc BUv.out.size _).trans (below_grown g6 (own_block_ge2 hq'.row) (by rw [szAlloc]; exact Nat.le_succ_of_le BUv.out.size))
                         have Q6 : Hid (∃ Qs, OwnH [] U.heap.size w6 F6 (m + 1) d6 ((ak.take (i + 1)).map (askH S)) Qs) := by
                           rw [hts.out, List.map_append, List.map_cons, List.map_nil, hxx.out]
                           exact ⟨_, hq'.snoc (q := ⟨au, sq, D, dm, dc⟩) ⟨rfl, rfl, HDo.out.fr (own := []) (own' := []) (Fr.below ((Below.refl _ _).alloc (Nat.le_refl _) _)) (fun _ h => absurd h (by simp)) (fun _ h => Or.inl h)⟩ g6 k6 o6⟩
                         clear o6 g6 k6 hq')
            go_roundw
            case rel => exact ⟨i + 1, m + 1, F6, d6, rfl, by go_num, hin, by omega, B6, Q6⟩
            case measure => simp only [intOf]; omega
          · by_cases hep0 : 0 < ep
            · have sx : ∀ u, (v.setCell ⟨G9 + 1, 2, none⟩ u).cell? ⟨G9 + 1, 0, none⟩ = some (.int .i64 au) := fun u => (World.cell?_setCell_other _ _ _ _ (fun e => by injection e with e1 e2; omega)).trans k0
              have sy : ∀ u, (v.setCell ⟨G9 + 1, 2, none⟩ u).cell? ⟨G9 + 1, 1, none⟩ = some (.int .i64 sq) := fun u => (World.cell?_setCell_other _ _ _ _ (fun e => by injection e with e1 e2; omega)).trans k1
              obtain ⟨Z, hZ⟩ : ∃ Z, Hid (Z = v.setCell ⟨G9 + 1, 2, none⟩ (.slice Dd dn dd)) := ⟨_, Lib.hid rfl⟩
              have FZ : Fr [G9 + 1] v Z [G9 + 1] := by rw [hZ.out]; exact setCell_fr _ _ _ _
              have sz : (v.setCell ⟨G9 + 1, 2, none⟩ (.slice Dd dn dd)).cell? ⟨G9 + 1, 2, none⟩ = some (.slice Dd dn dd) := cell_blk (heap_set v10.out _) 2 rfl
              have hZs : Z.heap.size = v.heap.size := by rw [hZ.out]; simp [World.setCell]
              have BwZ : Below wr.heap.size wr Z := (BV.out.trans (B3.out.mono BV.out.size)).trans (FZ.toBelow (fun k hk => by simp at hk; have h1 := hG9.out; omega) (Nat.le_trans BV.out.size B3.out.size))
              have BUZ : Hid (Below U.heap.size U Z) := hb.out.trans (BwZ.mono hb.out.size)
              have HQZ : Hid (OwnH [] U.heap.size Z F m d ((ak.take i).map (askH S)) Qs) := hq1.out.to BwZ
              have HDZ : Hid (RdN ((Value.slice F m d).ownBlock.toList ++ []) Z 1 Dd dn ((atD S au sq).map B8)) := HDD.out.fr FZ (fun k hk => by simp at hk; simp [hk]) (fun k hk => Or.inl (List.mem_cons_of_mem _ hk))
              clear FZ BwZ
              have hxx : Hid (askH S ⟨⟨au, sq, dg⟩, true⟩ = ⟨au, sq, (atD S au sq)⟩) := by
                unfold Hid askH; simp only [hep.out]; rw [if_pos ⟨trivial, hep0⟩]
              go_wp2_with (at_builtin
                           rw [← hZ.out]
                           have hq' := HQZ.out.to ((Below.refl _ _).alloc (Nat.le_refl _) (.cells #[.int .i64 au, .int .i64 sq, .slice Dd dn dd] 45))
                           have rowh := rowH Z ⟨au, sq, Dd, dn, dd⟩ 45
                           rw [hZs] at rowh
                           refine wpList_app rfl (.tmp 59) (.tmp 61) 71 rfl U.heap.size 45 3 40 _ Try.underlying71 infoH rfl (by decide) (.slice F m d) m _ rfl hq'.row _ (some ⟨v.heap.size, 0, none⟩) 1 1 (hqC ⟨au, sq, Dd, dn, dd⟩) rfl rowh (hqC_one _) (by have := hm11.out; simp only [maxLen]; omega) (by have := hm11.out; omega) (by rw [szAlloc]; exact Nat.le_succ_of_le BUZ.out.size) ?_
                           intro F6 d6 w6 o6 g6 k6
                           have B6 : Hid (Below U.heap.size U w6) := (BUZ.out.alloc BUZ.out.size _).trans (below_grown g6 (own_block_ge2 hq'.row) (by rw [szAlloc]; exact Nat.le_succ_of_le BUZ.out.size))
                           have Q6 : Hid (∃ Qs, OwnH [] U.heap.size w6 F6 (m + 1) d6 ((ak.take (i + 1)).map (askH S)) Qs) := by
                             rw [hts.out, List.map_append, List.map_cons, List.map_nil, hxx.out]
                             exact ⟨_, hq'.snoc (q := ⟨au, sq, Dd, dn, dd⟩) ⟨rfl, rfl, HDZ.out.fr (own := []) (own' := []) (Fr.below ((Below.refl _ _).alloc (Nat.le_refl _) _)) (fun _ h => absurd h (by simp)) (fun _ h => Or.inl h)⟩ g6 k6 o6⟩
                           clear o6 g6 k6 hq')
              go_roundw
              case rel => exact ⟨i + 1, m + 1, F6, d6, rfl, by go_num, hin, by omega, B6, Q6⟩
              case measure => simp only [intOf]; omega
            · have hxx : Hid (askH S ⟨⟨au, sq, dg⟩, true⟩ = ⟨au, sq, dg⟩) := by
                unfold Hid askH; simp only [hep.out]; rw [if_neg (fun h => hep0 h.2)]
              go_wp2_with (at_builtin
                           have hq' := HQ1.out.to ((Below.refl _ _).alloc (Nat.le_refl _) (.cells #[.int .i64 au, .int .i64 sq, .slice D dm dc] 45))
                           have rowh := rowH v ⟨au, sq, D, dm, dc⟩ 45
                           refine wpList_app rfl (.tmp 59) (.tmp 61) 71 rfl U.heap.size 45 3 40 _ Try.underlying71 infoH rfl (by decide) (.slice F m d) m _ rfl hq'.row _ (some ⟨v.heap.size, 0, none⟩) 1 1 (hqC ⟨au, sq, D, dm, dc⟩) rfl rowh (hqC_one _) (by have := hm11.out; simp only [maxLen]; omega) (by have := hm11.out; omega) (by rw [szAlloc]; exact Nat.le_succ_of_le BUv.out.size) ?_
                           intro F6 d6 w6 o6 g6 k6
                           have B6 : Hid (Below U.heap.size U w6) := (BUv.out.alloc BUv.out.size _).trans (below_grown g6 (own_block_ge2 hq'.row) (by rw [szAlloc]; exact Nat.le_succ_of_le BUv.out.size))
                           have Q6 : Hid (∃ Qs, OwnH [] U.heap.size w6 F6 (m + 1) d6 ((ak.take (i + 1)).map (askH S)) Qs) := by
                             rw [hts.out, List.map_append, List.map_cons, List.map_nil, hxx.out]
                             exact ⟨_, hq'.snoc (q := ⟨au, sq, D, dm, dc⟩) ⟨rfl, rfl, HDo.out.fr (own := []) (own' := []) (Fr.below ((Below.refl _ _).alloc (Nat.le_refl _) _)) (fun _ h => absurd h (by simp)) (fun _ h => Or.inl h)⟩ g6 k6 o6⟩
                           clear o6 g6 k6 hq')
              go_roundw
              case rel => exact ⟨i + 1, m + 1, F6, d6, rfl, by go_num, hin, by omega, B6, Q6⟩
              case measure => simp only [intOf]; omega
        · have hiS : Hid (i = nv) := (by omega : i = nv)
          have hin' : ¬ (i : Int) < (nv : Int) := by omega
          have hmb : Hid (m ≤ 1000000) := by have := HNV.out; unfold Hid; omega
          have HH : Hid (HdN [] wr F m (ak.map (askH S))) := by
            obtain ⟨Qs, hq⟩ := hQ.out
            have h1 := hq.hdN (fun k hk => absurd hk (by simp))
            rw [List.take_of_length_le (by rw [HK.out.1, hiS.out]; exact Nat.le_refl _)] at h1
            exact h1
          obtain ⟨Hs, hHs⟩ : ∃ H, Hid (ak.map (askH S) = H) := ⟨_, Lib.hid rfl⟩
          rw [hHs.out] at HH
          have VG : Hid (wr.heap[G]? = some (.cells (plC p).toArray 35 (0, 0))) := (hb.out.block G (lt_of_blk RU.out)).trans RU.out
          have c0 : wr.cell? ⟨G, 0, none⟩ = some (.pointer (some ⟨p.gb, 0, none⟩)) := cell_blk VG.out 0 rfl
          go_wp2_with fail
          clear c0
          refine (compare_ p.gb S p.ob _ F m d Hs [] wr (HBk.out.below hb.out) HH.out hmb.out).mono ?_
          rintro e w3 ⟨F1, f1, d1, rfl, hr1, hl1, hd1, b3⟩
          obtain ⟨bb, hbb⟩ : ∃ x, Hid (cmpB S Hs = x) := ⟨_, Lib.hid rfl⟩
          obtain ⟨ba, hba⟩ : ∃ x, Hid (cmpA S Hs = x) := ⟨_, Lib.hid rfl⟩
          obtain ⟨be, hbe⟩ : ∃ x, Hid (cmpE Hs = x) := ⟨_, Lib.hid rfl⟩
          rw [hbb.out, hba.out, hbe.out]
          obtain ⟨V3, hV3⟩ : ∃ U, Hid (U = w3.alloc (.cells #[.bool bb, .bool ba] 81)) := ⟨_, Lib.hid rfl⟩
          obtain ⟨G13, hG13⟩ : ∃ g, Hid (g = w3.heap.size) := ⟨_, Lib.hid rfl⟩
          have BV3 : Below w3.heap.size w3 V3 := by rw [hV3.out]; exact (Below.refl _ _).alloc (Nat.le_refl _) _
          have BwV3 : Hid (Below wr.heap.size wr V3) := b3.trans (BV3.mono b3.size)
          have V13 : Hid (V3.heap[G13]? = some (.cells #[.bool bb, .bool ba] 81 (0, 0))) := by unfold Hid; rw [hV3.out, hG13.out]; exact heap_alloc_new _ _
          have R1 : Hid (Rd V3 V3.heap.size 2 F1 f1 ((cmpF S Hs).flatMap fkC)) := hr1.to BV3
          have HL1 := Lib.hid hl1
          have V3G : Hid (V3.heap[G]? = some (.cells (plC p).toArray 35 (0, 0))) := (BwV3.out.block G (lt_of_blk VG.out)).trans VG.out
          have c2 : V3.cell? ⟨G, 2, none⟩ = some (.slice p.A p.n p.c) := cell_blk V3G.out 2 rfl
          rw [hV3.out] at c2
          clear b3 hr1 hl1 BV3
          go_wp2_with fail
          rw [← hV3.out, ← hG13.out]
          clear c2
          have hUV3 : Hid (Below U.heap.size U V3) := hb.out.trans (BwV3.out.mono hb.out.size)
          refine (rcompare_ p.A p.n p.c S [] F m d Hs [] V3 (HRK.out.below hUV3.out) hpn.out hSok.out (fun k hk => absurd hk (by simp)) (HH.out.below BwV3.out) hmb.out).mono ?_
          rintro e w4 ⟨F2, f2, d2, rfl, hr2, hl2, hd2, b4⟩
          rw [hbb.out, hba.out, hbe.out]
          obtain rfl : f1 = f2 := HL1.out.symm.trans hl2
          obtain ⟨V4, hV4⟩ : ∃ U, Hid (U = w4.alloc (.cells #[.bool bb, .bool ba] 81)) := ⟨_, Lib.hid rfl⟩
          obtain ⟨G16, hG16⟩ : ∃ g, Hid (g = w4.heap.size) := ⟨_, Lib.hid rfl⟩
          have BV4 : Below w4.heap.size w4 V4 := by rw [hV4.out]; exact (Below.refl _ _).alloc (Nat.le_refl _) _
          have B34 : Hid (Below V3.heap.size V3 V4) := b4.trans (BV4.mono b4.size)
          have R2 : Hid (Rd V4 V4.heap.size 2 F2 f1 ((cmpF S Hs).flatMap fkC)) := hr2.to BV4
          have R14 : Hid (Rd V4 V4.heap.size 2 F1 f1 ((cmpF S Hs).flatMap fkC)) := R1.out.to B34.out
          have V4d : Hid (V4.heap[G13]? = some (.cells #[.bool bb, .bool ba] 81 (0, 0))) := (B34.out.block G13 (lt_of_blk V13.out)).trans V13.out
          have x0 : V4.cell? ⟨G13, 0, none⟩ = some (.bool bb) := cell_blk V4d.out 0 rfl
          have x1 : V4.cell? ⟨G13, 1, none⟩ = some (.bool ba) := cell_blk V4d.out 1 rfl
          rw [hV4.out] at x0 x1
          have hf1 : Hid (f1 ≤ 1000000) := by
            have h1 := HL1.out
            have h2 : (cmpF S Hs).length ≤ Hs.length := by
              unfold cmpF
              split
              · exact List.length_filterMap_le _ _
              · simp
            have h3 : Hs.length = m := HH.out.len
            have h4 := hmb.out
            unfold Hid; omega
          have hee : (be == be) = true := beq_self_eq_true be
          have BX : Hid (Below w.heap.size w V4) := BU.out.trans ((hUV3.out.trans (B34.out.mono hUV3.out.size)).mono BU.out.size)
          clear b4 hr2 hl2 BV4
          rcases bb with _ | _ <;> rcases ba with _ | _ <;>
            (go_wp2_with fail
             rw [← hV4.out]
             refine (sameForks_ F1 f1 d1 F2 d2 (cmpF S Hs) V4 R14.out R2.out HL1.out hf1.out).mono ?_
             rintro e w5 ⟨rfl, b5⟩
             have B5 := Lib.hid (BX.out.trans (b5.mono BX.out.size))
             clear b5
             go_wp2_with fail
             refine (awake_ _).mono ?_
             rintro e w6 ⟨rfl, b6⟩
             have B6 := Lib.hid (B5.out.trans (b6.mono B5.out.size))
             clear b6
             go_wp2_with fail
             go_ret
             exact ⟨rfl, B6.out⟩)
end Go.Proofs.Ytabcbpcfleociaa
