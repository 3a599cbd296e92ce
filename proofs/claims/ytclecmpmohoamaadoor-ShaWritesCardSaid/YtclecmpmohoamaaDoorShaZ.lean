/- The walk of the law ShaWrites. (Printed by gen_shaz.py.) -/
import Derived.Test.YtclecmpmohoamaaDoorShaY
import Derived.Test.YtclecmpmohoamaaDoorHkaB
import Derived.Deep.Slices
namespace Go.Proofs.YtclecmpmohoamaaDoor
open Go.ChangeShapes Go.WideShapes Go.ChangeAt Go.RowKit
attribute [local go_sem ↓] Go.wp_at_zero Go.wp_at_succ
set_option linter.unusedSimpArgs false
set_option linter.unusedVariables false
theorem list_of {P : Nat → List UInt8 → Prop} : ∀ n, (∀ i, i < n → ∃ l, P i l) → ∃ ls : List (List UInt8), ls.length = n ∧ ∀ i l, ls[i]? = some l → P i l
  | 0, _ => ⟨[], rfl, fun i l h => by simp at h⟩
  | n + 1, h => by
    obtain ⟨ls, hl, hp⟩ := list_of n (fun i hi => h i (by omega))
    obtain ⟨l, hln⟩ := h n (by omega)
    refine ⟨ls ++ [l], by simp [hl], fun i l' hi => ?_⟩
    rcases Nat.lt_or_ge i ls.length with hlt | hge
    · rw [List.getElem?_append_left hlt] at hi; exact hp i l' hi
    · rw [List.getElem?_append_right hge] at hi
      rcases hz : i - ls.length with _ | z
      · rw [hz] at hi; simp at hi; subst hi
        obtain rfl : i = n := by omega
        exact hln
      · rw [hz] at hi; simp at hi
theorem field_bytes' {H : Type} {enc : TypeId × Value → H} {P : Program} {w : World} {sp : Nat → Bool} {held : Bool} {t e : TypeId} {v : Value} {x : DataW H × List MemPlace} {fuel : Nat}
    (ht : P.underlying t = some (.slice e)) (he : P.underlying e = some (.int .u8)) (hc : P.cellsOf e = 1) (hf : DataW.trod enc P w 0 sp held fuel t [v] = some x) :
    ∃ (A : Option Addr) (n c : Nat) (l : List UInt8), v = .slice A n c ∧ Rd w w.heap.size 1 A n (l.map B8) ∧ n ≤ c := by
  rcases open_ints ht he hc hf with ⟨hcs, _⟩ | ⟨x, len, cap, zs, hcs, _, hl, hm, hz, hx, hcell, hwz⟩
  · simp at hcs
    subst hcs
    exact ⟨none, 0, 0, [], rfl, Rd.nil _ _ _ _, Nat.le_refl _⟩
  · simp at hcs
    subst hcs
    have hzl : len ≤ zs.length := by rw [hz]; split <;> omega
    refine ⟨some x, len, cap, (zs.take len).map fun z => UInt8.ofNat z.toNat, rfl, ⟨by simp; omega, fun h0 => ?_⟩, hl⟩
    obtain ⟨b, off, spot⟩ := x
    have hc0 := hcell 0 (by omega)
    have hspot : spot = none := by simpa [Addr.add] using World.cell?_spot hc0
    subst hspot
    have hb : b < w.heap.size := by
      simp only [Addr.add, if_true] at hc0
      rcases Nat.lt_or_ge b w.heap.size with h | h
      · exact h
      · simp [World.cell?, Array.getElem?_eq_none h] at hc0
    refine ⟨b, off, rfl, hb, fun j u hu => ?_⟩
    rw [List.map_map, List.getElem?_map] at hu
    cases hj : (zs.take len)[j]? with
    | none => rw [hj] at hu; simp at hu
    | some z =>
      rw [hj] at hu
      simp only [Option.map_some, Option.some.injEq] at hu
      subst hu
      have hjn : j < len := by
        rcases Nat.lt_or_ge j len with h | h
        · exact h
        · rw [List.getElem?_eq_none (by simp; omega)] at hj; cases hj
      rw [List.getElem?_take_of_lt hjn] at hj
      have h1 := hcell j (by omega)
      rw [addr_add] at h1
      have hzj : zs.getD j 0 = z := by simp [List.getD, hj]
      rw [h1, hzj]
      have hw := hwz z (List.mem_of_getElem? hj)
      have hb := bounds_u8 hw
      simp only [Function.comp, B8, Option.some.injEq, Value.int.injEq, true_and]
      rw [UInt8.toNat_ofNat']
      omega
/-- Slices of bytes that come in. -/
theorem open_rows {H : Type} {enc : TypeId × Value → H} {P : Program} {w : World} {sp : Nat → Bool} {held : Bool} {t e b : TypeId} {A : Option Addr} {n c : Nat} {x : DataW H × List MemPlace} {fuel : Nat}
    (ht : P.underlying t = some (.slice e)) (hce : P.cellsOf e = 1) (he : P.underlying e = some (.slice b)) (hb : P.underlying b = some (.int .u8)) (hcb : P.cellsOf b = 1) (hf : DataW.trod enc P w 0 sp held fuel t [.slice A n c] = some x) :
    ∃ ls, RdL w w.heap.size A n ls ∧ n ≤ c := by
  rcases Go.Deep.open_slice1 ht hce hf with ⟨hcs, _⟩ | ⟨a, len, cap, m, k, V, D, Pl, hcs, _, hl, _, hm, _, hx⟩
  · simp at hcs
    obtain ⟨rfl, rfl, rfl⟩ := hcs
    exact ⟨[], ⟨rfl, fun i l h => by simp at h⟩, Nat.le_refl _⟩
  · simp at hcs
    obtain ⟨rfl, rfl, rfl⟩ := hcs
    have hnm : n ≤ m := by rw [hm]; split <;> omega
    obtain ⟨ls, h1, h2⟩ := list_of (P := fun i l => ∃ b o Ai ci, some a = some ⟨b, o, none⟩ ∧ b < w.heap.size ∧ w.cell? ⟨b, o + i, none⟩ = some (.slice Ai l.length ci) ∧ Rd w w.heap.size 1 Ai l.length (l.map B8) ∧ l.length ≤ ci) n (by
      intro i hi
      obtain ⟨hcell, htr⟩ := hx i (by omega)
      obtain ⟨Ai, ni, ci, l, hv, hr, hci⟩ := field_bytes' he hb hcb htr
      obtain rfl : l.length = ni := by simpa using hr.len
      obtain ⟨bb, off, spot⟩ := a
      have hspot : spot = none := by
        have := (hx 0 (by omega)).1
        simpa [Addr.add] using World.cell?_spot this
      subst hspot
      rw [addr_add, hv] at hcell
      exact ⟨l, bb, off, Ai, ci, rfl, World.block_lt_of_cell? _ _ hcell, hcell, hr, hci⟩)
    exact ⟨ls, ⟨h1, h2⟩, hl⟩
theorem flat_le {ls : List (List UInt8)} {k : Nat} (h : ∀ l ∈ ls, l.length ≤ k) : ls.flatten.length ≤ k * ls.length := by
  induction ls with
  | nil => simp
  | cons a r ih =>
    have h1 := h a (by simp)
    have h2 := ih (fun l hl => h l (by simp [hl]))
    simp only [List.flatten_cons, List.length_append, List.length_cons, Nat.mul_succ]
    omega
/-- All but one block (if it is one at all) is as it was. -/
structure Fx (w w' : World) (bx : Nat) (ne : Prop) : Prop where
  os : w'.os = w.os
  tape : w'.tape = w.tape
  output : w'.output = w.output
  size : w.heap.size ≤ w'.heap.size
  block : ∀ k, k < w.heap.size → (ne → k ≠ bx) → w'.heap[k]? = w.heap[k]?
theorem Fx.refl (w : World) (bx : Nat) (ne : Prop) : Fx w w bx ne := ⟨rfl, rfl, rfl, Nat.le_refl _, fun _ _ _ => rfl⟩
theorem Fx.below {w w' : World} {bx B : Nat} {ne : Prop} (h : Fx w w' bx ne) (hB : B ≤ bx) (hs : B ≤ w.heap.size) : Below B w w' := ⟨h.os, h.tape, h.output, h.size, fun k hk => h.block k (by omega) (fun _ => by omega)⟩
theorem Fx.set {w w' : World} {bx : Nat} {ne : Prop} (h : Fx w w' bx ne) (hne : ne) (j : Nat) (v : Value) : Fx w (w'.setCell ⟨bx, j, none⟩ v) bx ne :=
  ⟨(World.os_setCells w' bx j [v]).trans h.os, (heap_of_setCells w' bx j [v]).1.trans h.tape, (World.output_setCells w' bx j [v]).trans h.output, by have := (heap_of_setCells w' bx j [v]).2; exact Nat.le_trans h.size (Nat.le_of_eq this.symm),
   fun k hk hk' => (World.heap_setCells_other w' bx j [v] (Nat.lt_of_lt_of_le hk h.size) (hk' hne)).trans (h.block k hk hk')⟩
/-- So many bytes lie there, none frozen. -/
def Byt (w : World) (bx n : Nat) : Prop := ∀ j, j < n → ∃ y : UInt8, w.cell? ⟨bx, j, none⟩ = some (.int .u8 (y.toNat : Int)) ∧ w.frozen? ⟨bx, j, none⟩ = false
theorem Byt.set {w : World} {bx n : Nat} (h : Byt w bx n) {k : Nat} (hk : k < n) (z : UInt8) : Byt (w.setCell ⟨bx, k, none⟩ (.int .u8 (z.toNat : Int))) bx n := by
  intro j hj
  obtain ⟨y, hc, hf⟩ := h j hj
  by_cases hjk : j = k
  · subst hjk
    refine ⟨z, ?_, by rw [World.frozen?_setCell]; exact hf⟩
    have := World.cell?_setCells_in bx [Value.int .u8 (z.toNat : Int)] j w (fun i hi => by
      have : i = 0 := by simpa using hi
      subst this
      rw [Nat.add_zero, hc]; rfl) 0 (by simp)
    simpa [World.setCells] using this
  · refine ⟨y, ?_, by rw [World.frozen?_setCell]; exact hf⟩
    rw [World.cell?_setCell_other w ⟨bx, k, none⟩ ⟨bx, j, none⟩ _ (fun e => hjk (by injection e with _ h _; exact h.symm))]
    exact hc
theorem byt_of {w : World} {bx n : Nat} {l : List UInt8} (h : Rd w w.heap.size 1 (some ⟨bx, 0, none⟩) n (l.map B8)) (hf : ∀ j, j < n → w.frozen? ⟨bx, j, none⟩ = false) : Byt w bx n := by
  intro j hj
  obtain ⟨b, o, y, e, _, hy, hc⟩ := h.at8 hj
  injection e with e; injection e with e1 e2; subst e1 e2
  rw [Nat.zero_add] at hc
  exact ⟨y, hc, hf j hj⟩

set_option maxRecDepth 20000 in
set_option maxHeartbeats 16000000 in
theorem shaWrites_walk (A : Option Addr) (n c : Nat) (ls : List (List UInt8)) (w : World) (hp : RdL w w.heap.size A n ls) (hc : n ≤ c) (hL : Lay w) :
    Calls Tryd.prog 5 #[.slice A n c] w fun r w' => r = .returned (.bool true) ∧ Below w.heap.size w w' := by
  by_cases h20 : 20 < n
  · have h20' : (20 : Int) < n := by omega
    go_enter Tryd.func5, Tryd.ntmps5
    go_wp2_with fail
    refine (awake6_any w hL).mono ?_
    rintro e w1 ⟨rfl, hb⟩
    go_wp2_with fail
    go_ret
    exact ⟨rfl, hb⟩
  have h20' : ¬ (20 : Int) < n := by omega
  have hn20 : n ≤ 20 := by omega
  have h44 := hL.s.size
  have HL0 := Lib.hid hL
  have HP := Lib.hid hp
  clear hL hp
  go_enter Tryd.func5, Tryd.ntmps5
  go_wp2_with fail
  go_loopw [4, 19] (fun _ x19 wr => ∃ i : Nat, x19 = .int .i64 i ∧ i ≤ n ∧ Hid (∀ j l, j < i → ls[j]? = some l → l.length ≤ 400) ∧ Hid (Below w.heap.size w wr)) (fun _ x19 _ => n - (intOf x19).toNat)
  case atStart => exact ⟨0, rfl, by omega, fun j l h => absurd h (by omega), Below.refl _ _⟩
  case round =>
    obtain ⟨i, rfl, hi, h400, hb⟩ := hrel
    by_cases hin : i < n
    · have hin' : (i : Int) < n := by omega
      have hi0 : (0 : Int) ≤ (i : Int) := by omega
      obtain ⟨l, hli⟩ : ∃ l, Hid (ls[i]? = some l) := ⟨ls[i]'(by rw [HP.out.1]; exact hin), Lib.hid (List.getElem?_eq_getElem _)⟩
      obtain ⟨b, o, Ai, ci, hPe, hbB, hcl, hrl, hci⟩ := (HP.out.to hb.out).2 i l hli.out
      subst hPe
      have e8 : IntKind.i64.wrap ((i : Int) + 1) = ((i + 1 : Nat) : Int) := by rw [IntWalk.i64_in _ (by omega)]; omega
      clear hrl
      by_cases hl4 : 400 < l.length
      · have hl4' : (400 : Int) < l.length := by omega
        go_wp2_with fail
        refine (awake6_any wr (HL0.out.to h44 hb.out)).mono ?_
        rintro e w1 ⟨rfl, hb1⟩
        go_wp2_with fail
        go_ret
        exact ⟨rfl, hb.out.trans (hb1.mono hb.out.size)⟩
      · have hl4' : ¬ (400 : Int) < l.length := by omega
        go_wp2_with fail
        go_roundw
        case rel =>
          refine ⟨i + 1, by go_num, by omega, fun j l' hj hl' => ?_, hb⟩
          rcases Nat.lt_or_ge j i with h | h
          · exact h400.out j l' h hl'
          · obtain rfl : j = i := by omega
            have := hli.out
            rw [hl'] at this
            injection this with this
            rw [this]; omega
        case measure => simp only [intOf]; omega
    · have hin' : ¬ (i : Int) < n := by omega
      have H400 : Hid (∀ l ∈ ls, l.length ≤ 400) := fun l hl => by
        obtain ⟨j, hj⟩ := List.getElem?_of_mem hl
        have hjl : j < ls.length := by
          rcases Nat.lt_or_ge j ls.length with h | h
          · exact h
          · rw [List.getElem?_eq_none h] at hj; cases hj
        exact h400.out j l (by rw [HP.out.1] at hjl; omega) hj
      obtain ⟨wz, hwz⟩ : ∃ wz, wz = wr := ⟨wr, rfl⟩
      subst hwz
      have hsz := hb.out.size
      clear h400
      go_wp2_with fail
      refine (new_ wz).mono ?_
      rintro e w0 ⟨g, hg, rfl, hh0, hb0⟩
      have HB0 : Hid (Below w.heap.size w w0) := hb.out.trans (hb0.mono hsz)
      have HH0 : Hid (Ha w0 w.heap.size g g ((ls.take 0).flatten)) := by
        refine ⟨?_, by omega, by omega⟩
        obtain ⟨V, A9, n9, c9, q1, q2, q3, q4⟩ := hh0.ex
        exact ⟨V, A9, n9, c9, q1, q2, q3.mono hsz, q4⟩
      have hgl0 := hh0.lt
      have HO0 : Hid (OwnS w0 w.heap.size none 0 0 (((ls.take 0).flatten).map B8)) := OwnS.nil _ _ _
      have HQ0 : Hid (∀ b o, (none : Option Addr) = some ⟨b, o, none⟩ → b ≠ g ∧ b ≠ g ∧ b < w0.heap.size) := fun _ _ e => by cases e
      clear hh0
      go_wp2_with fail
      go_loopw [6, 8, 9, 10, 11, 12, 31] (fun x6 _ _ _ _ _ x31 wr => ∃ (i r na : Nat) (Aa : Option Addr) (ca : Nat), x6 = .slice Aa na ca ∧ x31 = .int .i64 i ∧ i ≤ n ∧ Hid (Ha wr w.heap.size g r ((ls.take i).flatten)) ∧ Hid (r < wr.heap.size) ∧ Hid (OwnS wr w.heap.size Aa na ca (((ls.take i).flatten).map B8)) ∧ Hid (∀ b o, Aa = some ⟨b, o, none⟩ → b ≠ g ∧ b ≠ r ∧ b < wr.heap.size) ∧ Hid (Below w.heap.size w wr)) (fun _ _ _ _ _ _ x31 _ => n - (intOf x31).toNat)
      case atStart => exact ⟨0, g, 0, none, 0, rfl, rfl, by omega, HH0, hgl0, HO0, HQ0, HB0⟩
      case round =>
        obtain ⟨i, r, na, Aa, ca, rfl, rfl, hi, hh, hrl, hO, hQ, hb⟩ := hrel
        obtain ⟨wq, hwq⟩ : ∃ wq, wq = wr := ⟨wr, rfl⟩
        subst hwq
        have hsr := hb.out.size
        have hgl : g < wq.heap.size := hh.out.lt
        have hgb : w.heap.size ≤ g := hh.out.lo
        have hrb : w.heap.size ≤ r := hh.out.lor
        have hfl : Hid ((ls.take i).flatten.length ≤ 400 * i) := by
          have h1 := flat_le (ls := ls.take i) (k := 400) (fun l hl => H400.out l (List.mem_of_mem_take hl))
          rw [List.length_take] at h1
          exact Nat.le_trans h1 (Nat.mul_le_mul_left _ (Nat.min_le_left _ _))
        obtain ⟨flat, hflat⟩ : ∃ f, Hid (f = (ls.take i).flatten) := ⟨_, Lib.hid rfl⟩
        rw [← hflat.out] at hh hO hfl
        have hflb : flat.length ≤ 8000 := by have := hfl.out; omega
        have hna : na = flat.length := by have := hO.out.len; rw [List.length_map] at this; exact this.symm
        have hna8 : na ≤ 8000 := by omega
        clear hna
        have hrl' : r < wq.heap.size := hrl.out
        by_cases hin : i < n
        · have hin' : (i : Int) < n := by omega
          have hi0 : (0 : Int) ≤ (i : Int) := by omega
          obtain ⟨l, hli⟩ : ∃ l, Hid (ls[i]? = some l) := ⟨ls[i]'(by rw [HP.out.1]; exact hin), Lib.hid (List.getElem?_eq_getElem _)⟩
          have hl4 : l.length ≤ 400 := H400.out l (List.mem_of_getElem? hli.out)
          have hnx : Hid (flat ++ l = (ls.take (i + 1)).flatten) := by
            unfold Hid
            rw [List.take_add_one, hli.out, hflat.out, List.flatten_append]
            simp
          obtain ⟨b, o, Ai, ci, hPe, hbB, hcl, hrlb, hci⟩ := (HP.out.to hb.out).2 i l hli.out
          subst hPe
          have HRl := Lib.hid hrlb
          have e8 : IntKind.i64.wrap ((i : Int) + 1) = ((i + 1 : Nat) : Int) := by rw [IntWalk.i64_in _ (by omega)]; omega
          clear hrlb
          go_wp2_with fail
          refine (own6n Ai l.length ci l wq (HRl.out.more hsr) (by omega)).mono ?_
          rintro e w1 ⟨A1, c1, rfl, h1, hb1⟩
          have Ho1 := Lib.hid h1
          have hs1 := hb1.size
          have HB1 : Hid (Below w.heap.size w w1) := hb.out.trans (hb1.mono hsr)
          have HH1 := Lib.hid (hh.out.to hb1)
          have HO1 := Lib.hid (hO.out.to hb1)
          obtain ⟨bx, hbx⟩ : ∃ bx, Hid (0 < l.length → A1 = some ⟨bx, 0, none⟩ ∧ wq.heap.size ≤ bx ∧ bx < w1.heap.size) := by
            by_cases h0 : 0 < l.length
            · obtain ⟨g', e1, e2, e3⟩ := own_addr h1 h0
              exact ⟨g', fun _ => ⟨e1, e2, e3⟩⟩
            · exact ⟨0, fun h => absurd h h0⟩
          clear h1
          go_wp2_with fail
          refine (write_ w.heap.size g r flat l A1 l.length c1 w1 HH1.out (Rd.of_own Ho1.out) (own_ne Ho1.out hgl) (by omega) (HL0.out.to h44 HB1.out).s h44 (by omega)).mono ?_
          rintro e w2 ⟨r2, rfl, hr2, hh2, hw2⟩
          have HH2 := Lib.hid hh2
          have hs2 := hw2.size
          have HB2 : Hid (Below w.heap.size w w2) := HB1.out.trans (hw2.below hgb hrb (by omega))
          have hr2' : r2 = r ∨ (w1.heap.size ≤ r2 ∧ r2 < w2.heap.size) := hr2.out
          have hr2s : r2 < w2.heap.size := by omega
          have HO2 : Hid (OwnS w2 w.heap.size Aa na ca (flat.map B8)) := HO1.out.same (fun b o e hb => hw2.block b hb (hQ.out b o e).1 (hQ.out b o e).2.1)
          have HBy2 : Hid (Byt w2 bx l.length) := by
            intro j hj
            have h0 : 0 < l.length := by omega
            obtain ⟨e1, e2, e3⟩ := hbx.out h0
            have hrd := Rd.of_own Ho1.out
            have hos := OwnS.of_own Ho1.out
            rw [e1] at hrd
            obtain ⟨y, hcy, hfy⟩ := byt_of hrd (fun j hj => by
              obtain ⟨g', o', e', _, _, ht⟩ := hos.mem (by have := hos.le; omega)
              rw [e1] at e'; injection e' with e'; injection e' with e4 e5; subst e4 e5
              have := (ht j (by have := hos.le; omega)).2
              rwa [Nat.zero_add] at this) j hj
            have hbk := hw2.block bx e3 (by omega) (by omega)
            exact ⟨y, (World.cell?_of_block (a := ⟨bx, j, none⟩) hbk).trans hcy, (World.frozen?_of_block (a := ⟨bx, j, none⟩) hbk).trans hfy⟩
          clear hh2 hw2
          go_wp2_with fail
          go_loopw [10, 42] (fun _ x42 wr => ∃ j : Nat, x42 = .int .i64 j ∧ j ≤ l.length ∧ Hid (Byt wr bx l.length) ∧ Hid (Fx w2 wr bx (0 < l.length))) (fun _ x42 _ => l.length - (intOf x42).toNat)
          case atStart => exact ⟨0, rfl, Nat.zero_le _, HBy2, Fx.refl _ _ _⟩
          case round =>
            obtain ⟨j, rfl, hj, hby, hfx⟩ := hrel
            by_cases hjn : j < l.length
            · have hjn' : (j : Int) < l.length := by omega
              have hj0 : (0 : Int) ≤ (j : Int) := by omega
              have hA : A1 = some ⟨bx, 0, none⟩ := (hbx.out (by omega)).1
              obtain ⟨y, hcy, hfy⟩ := hby.out j hjn
              obtain ⟨z, hz⟩ : ∃ z : UInt8, Hid (z = y + 1) := ⟨_, Lib.hid rfl⟩
              have fz : ((y.toNat : Int) + 1) % 256 = (z.toNat : Int) := by rw [hz.out, UInt8.toNat_add]; simp
              have fz2 : IntKind.u8.wrap ((y.toNat : Int) + 1) = (z.toNat : Int) := by rw [IntKind.wrap_u8']; exact fz
              have e8 : IntKind.i64.wrap ((j : Int) + 1) = ((j + 1 : Nat) : Int) := by rw [IntWalk.i64_in _ (by omega)]; omega
              have hb2 := Lib.hid (hby.out.set hjn z)
              have hf2 := Lib.hid (hfx.out.set (by omega) j (.int .u8 (z.toNat : Int)))
              subst hA
              go_wp2_with fail
              go_roundw
              case rel => exact ⟨j + 1, by go_num, hjn, hb2, hf2⟩
              case measure => simp only [intOf]; omega
            · have hjn' : ¬ (j : Int) < l.length := by omega
              obtain ⟨w3, hw3⟩ : ∃ w3, w3 = wr := ⟨wr, rfl⟩
              subst hw3
              have hs3 := hfx.out.size
              have hbx3 : 0 < l.length → wq.heap.size ≤ bx ∧ bx < w1.heap.size := fun h => (hbx.out h).2
              have HB3 : Hid (Below w.heap.size w w3) := by
                refine HB2.out.trans ⟨hfx.out.os, hfx.out.tape, hfx.out.output, hs3, fun k hk => hfx.out.block k (by omega) (fun h => by have := hbx3 h; omega)⟩
              have HH3 : Hid (Ha w3 w.heap.size g r2 (flat ++ l)) := HH2.out.same (hfx.out.block g HH2.out.lt (fun h => by have := hbx3 h; omega)) (fun h => hfx.out.block r2 h (fun h => by have := hbx3 h; omega))
              have HO3 : Hid (OwnS w3 w.heap.size Aa na ca (flat.map B8)) := HO2.out.same (fun b o e hb => hfx.out.block b hb (fun h => by have := hbx3 h; have := (hQ.out b o e).2.2; omega))
              have HR3 := Lib.hid ((HRl.out.below (hb.out |> fun _ => (⟨rfl, rfl, rfl, Nat.le_refl _, fun _ _ => rfl⟩ : Below w.heap.size wq wq))).more hsr)
              have HRl3 : Hid (Rd w3 w3.heap.size 1 Ai l.length (l.map B8)) := by
                obtain ⟨b', o', Ai', ci', e1, _, e3, e4, _⟩ := (HP.out.to HB3.out).2 i l hli.out
                have hcl3 := (World.cell?_of_block (a := ⟨b', o' + i, none⟩) (by
                  have h1 := (HP.out.to hb.out).2 i l hli.out
                  rfl : w3.heap[b']? = w3.heap[b']?)).trans e3
                injection e1 with e1; injection e1 with e5 e6; subst e5 e6
                have hc0 : w3.cell? ⟨b, o + i, none⟩ = some (.slice Ai l.length ci) := by
                  obtain ⟨b2, o2, A2', c2', f1, f2, f3, _, _⟩ := HP.out.2 i l hli.out
                  injection f1 with f1; injection f1 with f5 f6; subst f5 f6
                  have h1 := (World.cell?_of_block (a := ⟨b, o + i, none⟩) (HB3.out.block b hbB)).trans f3
                  have h2 := (World.cell?_of_block (a := ⟨b, o + i, none⟩) (hb.out.block b hbB)).trans f3
                  rw [hcl] at h2
                  rw [h1, ← h2]
                rw [hc0] at e3
                injection e3 with e3; injection e3 with e7 _ _; subst e7
                exact e4.more HB3.out.size
              have hol := Lib.hid (oneB l)
              have hsb3 := HB3.out.size
              obtain ⟨m4, hm4⟩ : ∃ m : Nat, Hid (m = na + l.length) := ⟨_, Lib.hid rfl⟩
              clear hby
              go_wp2_with (at_builtin
                           refine wpList_apT rfl (.tmp 52) (.tmp 53) 22 rfl w.heap.size 5 1 (.int .u8 0) Tryd.underlying22 infoB rfl Aa na ca _ rfl HO3.out _ Ai l.length ci (l.map B8) rfl HRl3.out hol.out (by simp only [maxLen]; omega) (by omega) hsb3 ?_
                           intro A5 c5 w4 o5 b5 _ k5 a5
                           rw [← List.map_append, ← hm4.out] at o5
                           rw [← hm4.out]
                           have hs4 := b5.size
                           have HB4 : Hid (Below w.heap.size w w4) := HB3.out.trans b5
                           have HO4 := Lib.hid o5
                           have HH4 : Hid (Ha w4 w.heap.size g r2 (flat ++ l)) := HH3.out.same (k5 g HH3.out.lt (fun b o e h => (hQ.out b o e).1 h.symm)) (fun h => k5 r2 h (fun b o e h => by have := hQ.out b o e; omega))
                           have HQ4 : Hid (∀ b o, A5 = some ⟨b, o, none⟩ → b ≠ g ∧ b ≠ r2 ∧ b < w4.heap.size) := by
                             intro b o e
                             rcases a5 with rfl | ⟨rfl, h6⟩
                             · have := hQ.out b o e
                               exact ⟨this.1, by omega, by omega⟩
                             · injection e with e; injection e with e1; subst e1
                               exact ⟨by omega, by omega, h6⟩
                           clear o5 b5 k5 a5)
              refine (hsum_ w.heap.size g r2 (flat ++ l) w4 HH4.out (by rw [List.length_append]; omega) (HL0.out.to h44 HB4.out).s (by omega)).mono ?_
              rintro e w5 ⟨A6, c6, rfl, h6, hb5⟩
              have Q60 := Lib.hid (Rd.of_own h6)
              obtain ⟨bs, e1, e2, e3⟩ := own_addr h6 (by decide)
              have HA6 := Lib.hid e1
              clear e1
              have Ho6 := Lib.hid (OwnS.of_own h6)
              clear h6
              have hs5 := hb5.size
              have hm4b : m4 ≤ 9000 := by have := hm4.out; omega
              go_wp2_with fail
              obtain ⟨W, hW⟩ : ∃ W, Hid (W = w5.drew) := ⟨_, Lib.hid rfl⟩
              have dW : Below w5.heap.size w5 W := by rw [hW.out]; exact below_drew (Below.refl _ _)
              have Q6 := Lib.hid (Q60.out.to dW)
              have Q5 := Lib.hid ((HO4.out.rd.to hb5).to dW)
              have hBx := Lib.hid dW
              refine wp_region_noPanic ?_
              refine wp_region_held_drew (S := fun w' => Below W.heap.size W w') (by kernel_rfl) (by rw [hW.out]; exact Below.refl _ _) (fun hS => ?_)
              rw [← hW.out]
              clear hS
              have hS : Below W.heap.size W W := Below.refl _ _
              refine wpAnyH_take (i := 0) (v := ?v0) rfl (by kernel_rfl) (by kernel_rfl) (by kernel_rfl) (fun _ _ _ h => h) (Or.inl ⟨by rfl, ?hy0⟩) hS ?rest0
              case hy0 => (intro w hSw; go_simp; first | done | with_reducible rfl)
              try simp only [Act.put, List.getElem_toArray, List.getElem_cons_zero, List.getElem_cons_succ, List.setIfInBounds_toArray, List.set_cons_zero, List.set_cons_succ]
              refine wpAnyH_take (i := 1) (v := ?v1) rfl (by kernel_rfl) (by kernel_rfl) (by kernel_rfl) (fun _ _ _ h => h) (Or.inl ⟨by rfl, ?hy1⟩) hS ?rest1
              case hy1 => (intro w hSw; have hcv := conv8 w A6 _ c6 _ (Q6.out.to hSw); go_simp; first | done | with_reducible rfl)
              try simp only [Act.put, List.getElem_toArray, List.getElem_cons_zero, List.getElem_cons_succ, List.setIfInBounds_toArray, List.set_cons_zero, List.set_cons_succ]
              refine wpAnyH_take (i := 2) (v := ?v2) rfl (by kernel_rfl) (by kernel_rfl) (by kernel_rfl) (fun _ _ _ h => h) (Or.inl ⟨by rfl, ?hy2⟩) hS ?rest2
              case hy2 => (intro w hSw; go_simp; first | done | with_reducible rfl)
              try simp only [Act.put, List.getElem_toArray, List.getElem_cons_zero, List.getElem_cons_succ, List.setIfInBounds_toArray, List.set_cons_zero, List.set_cons_succ]
              refine wpAnyH_ready (rs := [3]) (by kernel_rfl) (by simp) ?_
              refine AllReadyH.cons rfl (fun K hK => ?_) AllReadyH.nil
              go_simp
              refine (refSum_32 A5 _ c5 (flat ++ l) _ Q5.out (by omega)).mono ?_
              rintro e u7 ⟨A7, c7, rfl, h7, p7⟩
              have Q7 := Lib.hid (Rd.of_own h7)
              clear h7
              replace Q6 := Lib.hid (Q6.out.to p7)
              replace hBx := Lib.hid (hBx.out.trans (p7.mono hBx.out.size))
              go_wp2_with fail
              refine hK.out _ _ p7 ?_
              intro hS
              clear hK K
              try simp only [Act.put, List.getElem_toArray, List.getElem_cons_zero, List.getElem_cons_succ, List.setIfInBounds_toArray, List.set_cons_zero, List.set_cons_succ]
              refine wpAnyH_strong (S2 := fun w' => Below u7.heap.size u7 w') (fun w' h' => p7.trans (h'.mono p7.size)) _ _ _ _ ?_
              clear hS
              have hS : Below u7.heap.size u7 u7 := Below.refl _ _
              refine wpAnyH_take (i := 4) (v := ?v4) rfl (by kernel_rfl) (by kernel_rfl) (by kernel_rfl) (fun _ _ _ h => h) (Or.inl ⟨by rfl, ?hy4⟩) hS ?rest4
              case hy4 => (intro w hSw; have hcv := conv8 w A7 _ c7 _ (Q7.out.to hSw); go_simp; first | done | with_reducible rfl)
              try simp only [Act.put, List.getElem_toArray, List.getElem_cons_zero, List.getElem_cons_succ, List.setIfInBounds_toArray, List.set_cons_zero, List.set_cons_succ]
              refine wpAnyH_take (i := 5) (v := ?v5) rfl (by kernel_rfl) (by kernel_rfl) (by kernel_rfl) (fun _ _ _ h => h) (Or.inl ⟨by rfl, ?hy5⟩) hS ?rest5
              case hy5 => (intro w hSw; go_simp; first | done | with_reducible rfl)
              try simp only [Act.put, List.getElem_toArray, List.getElem_cons_zero, List.getElem_cons_succ, List.setIfInBounds_toArray, List.set_cons_zero, List.set_cons_succ]
              refine wpAnyH_done (by kernel_rfl) (NoPanic.normal ?_) _
              go_wp2_with fail
              have hs7 := hBx.out.size
              have q57 : Below w5.heap.size w5 u7 := hBx.out
              have q47 : Below w4.heap.size w4 u7 := hb5.trans (q57.mono hs5)
              have HBy6 : Hid (Byt u7 bs 32) := by
                intro j hj
                have hrd := Q60.out
                rw [HA6.out] at hrd
                obtain ⟨y, hcy, hfy⟩ := byt_of hrd (fun j hj => by
                  obtain ⟨g', o', e', _, _, ht⟩ := Ho6.out.mem (by have := Ho6.out.le; omega)
                  rw [HA6.out] at e'; injection e' with e'; injection e' with e4 e5; subst e4 e5
                  have := (ht j (by have := Ho6.out.le; omega)).2
                  rwa [Nat.zero_add] at this) j hj
                have hbk := q57.block bs e3
                exact ⟨y, (World.cell?_of_block (a := ⟨bs, j, none⟩) hbk).trans hcy, (World.frozen?_of_block (a := ⟨bs, j, none⟩) hbk).trans hfy⟩
              have HH7 := Lib.hid (HH4.out.to q47)
              have HO7 := Lib.hid (HO4.out.to q47)
              have HB7 : Hid (Below w.heap.size w u7) := HB4.out.trans (q47.mono HB4.out.size)
              go_wp2_with fail
              go_loopw [12, 65] (fun _ x65 wr => ∃ j : Nat, x65 = .int .i64 j ∧ j ≤ 32 ∧ Hid (Byt wr bs 32) ∧ Hid (Fx u7 wr bs True)) (fun _ x65 _ => 32 - (intOf x65).toNat)
              case atStart => exact ⟨0, rfl, Nat.zero_le _, HBy6, Fx.refl _ _ _⟩
              case round =>
                obtain ⟨j, rfl, hj, hby, hfx⟩ := hrel
                by_cases hjn : j < 32
                · have hjn' : (j : Int) < 32 := by omega
                  have hj0 : (0 : Int) ≤ (j : Int) := by omega
                  have hA : A6 = some ⟨bs, 0, none⟩ := HA6.out
                  obtain ⟨y, hcy, hfy⟩ := hby.out j hjn
                  obtain ⟨z, hz⟩ : ∃ z : UInt8, Hid (z = y + 1) := ⟨_, Lib.hid rfl⟩
                  have fz : ((y.toNat : Int) + 1) % 256 = (z.toNat : Int) := by rw [hz.out, UInt8.toNat_add]; simp
                  have fz2 : IntKind.u8.wrap ((y.toNat : Int) + 1) = (z.toNat : Int) := by rw [IntKind.wrap_u8']; exact fz
                  have e8 : IntKind.i64.wrap ((j : Int) + 1) = ((j + 1 : Nat) : Int) := by rw [IntWalk.i64_in _ (by omega)]; omega
                  have hb2 := Lib.hid (hby.out.set hjn z)
                  have hf2 := Lib.hid (hfx.out.set trivial j (.int .u8 (z.toNat : Int)))
                  subst hA
                  go_wp2_with fail
                  go_roundw
                  case rel => exact ⟨j + 1, by go_num, hjn, hb2, hf2⟩
                  case measure => simp only [intOf]; omega
                · have hjn' : ¬ (j : Int) < 32 := by omega
                  have hs8 := hfx.out.size
                  have HB8 : Hid (Below w.heap.size w wr) := HB7.out.trans (hfx.out.below (by omega) (by omega))
                  have HH8 : Hid (Ha wr w.heap.size g r2 ((ls.take (i + 1)).flatten)) := by
                    rw [← hnx.out]
                    exact HH7.out.same (hfx.out.block g HH7.out.lt (fun _ => by omega)) (fun h => hfx.out.block r2 h (fun _ => by omega))
                  have HO8 : Hid (OwnS wr w.heap.size A5 m4 c5 (((ls.take (i + 1)).flatten).map B8)) := by
                    rw [← hnx.out]
                    exact HO7.out.same (fun b o e hb => hfx.out.block b hb (fun _ => by have := (HQ4.out b o e).2.2; omega))
                  have HQ8 : Hid (∀ b o, A5 = some ⟨b, o, none⟩ → b ≠ g ∧ b ≠ r2 ∧ b < wr.heap.size) := fun b o e => by have := HQ4.out b o e; exact ⟨this.1, this.2.1, by omega⟩
                  have hr8 : Hid (r2 < wr.heap.size) := (by omega : r2 < wr.heap.size)
                  go_wp2_with fail
                  go_roundw
                  case rel => exact ⟨i + 1, r2, m4, A5, c5, rfl, by go_num, hin, HH8, hr8, HO8, HQ8, HB8⟩
                  case measure => simp only [intOf]; omega
        · have hin' : ¬ (i : Int) < n := by omega
          obtain ⟨fl, hfl'⟩ : ∃ f, Hid (f = flat) := ⟨_, Lib.hid rfl⟩
          rw [← hfl'.out] at hh hO
          have hflb' : fl.length ≤ 8000 := by rw [hfl'.out]; exact hflb
          go_wp2_with fail
          obtain ⟨W, hW⟩ : ∃ W, Hid (W = wq.drew) := ⟨_, Lib.hid rfl⟩
          have dW : Below wq.heap.size wq W := by rw [hW.out]; exact below_drew (Below.refl _ _)
          have hBW : Below w.heap.size w W := hb.out.trans (dW.mono hsr)
          have HL := Lib.hid (HL0.out.to h44 hBW)
          have HH := Lib.hid (hh.out.to dW)
          have Q5 := Lib.hid (hO.out.rd.to dW)
          have hB := Lib.hid hBW
          refine wp_region_noPanic ?_
          refine wp_region_held_drew (S := fun w' => Below W.heap.size W w') (by kernel_rfl) (by rw [hW.out]; exact Below.refl _ _) (fun hS => ?_)
          rw [← hW.out]
          clear hS
          have hS : Below W.heap.size W W := Below.refl _ _
          refine wpAnyH_take (i := 0) (v := ?vz0) rfl (by kernel_rfl) (by kernel_rfl) (by kernel_rfl) (fun _ _ _ h => h) (Or.inl ⟨by rfl, ?hyz0⟩) hS ?restz0
          case hyz0 => (intro w hSw; go_simp; first | done | with_reducible rfl)
          try simp only [Act.put, List.getElem_toArray, List.getElem_cons_zero, List.getElem_cons_succ, List.setIfInBounds_toArray, List.set_cons_zero, List.set_cons_succ]
          refine wpAnyH_take (i := 3) (v := ?vz3) rfl (by kernel_rfl) (by kernel_rfl) (by kernel_rfl) (fun _ _ _ h => h) (Or.inl ⟨by rfl, ?hyz3⟩) hS ?restz3
          case hyz3 => (intro w hSw; go_simp; first | done | with_reducible rfl)
          try simp only [Act.put, List.getElem_toArray, List.getElem_cons_zero, List.getElem_cons_succ, List.setIfInBounds_toArray, List.set_cons_zero, List.set_cons_succ]
          refine wpAnyH_ready (rs := [1]) (by kernel_rfl) (by simp) ?_
          refine AllReadyH.cons rfl (fun K hK => ?_) AllReadyH.nil
          go_simp
          refine (hsum_ w.heap.size g r fl _ HH.out (by omega) HL.out.s HL.out.s.size).mono ?_
          rintro e u6 ⟨A6, c6, rfl, h6, p6⟩
          have Q6 := Lib.hid (Rd.of_own h6)
          clear h6
          replace Q5 := Lib.hid (Q5.out.to p6)
          replace HL := Lib.hid (HL.out.go p6)
          replace hB := Lib.hid (hB.out.trans (p6.mono hB.out.size))
          go_wp2_with fail
          refine hK.out _ _ p6 ?_
          intro hS
          clear hK K
          try simp only [Act.put, List.getElem_toArray, List.getElem_cons_zero, List.getElem_cons_succ, List.setIfInBounds_toArray, List.set_cons_zero, List.set_cons_succ]
          refine wpAnyH_strong (S2 := fun w' => Below u6.heap.size u6 w') (fun w' h' => p6.trans (h'.mono p6.size)) _ _ _ _ ?_
          clear hS
          have hS : Below u6.heap.size u6 u6 := Below.refl _ _
          refine wpAnyH_take (i := 2) (v := ?vz2) rfl (by kernel_rfl) (by kernel_rfl) (by kernel_rfl) (fun _ _ _ h => h) (Or.inl ⟨by rfl, ?hyz2⟩) hS ?restz2
          case hyz2 => (intro w hSw; have hcv := conv8 w A6 _ c6 _ (Q6.out.to hSw); go_simp; first | done | with_reducible rfl)
          try simp only [Act.put, List.getElem_toArray, List.getElem_cons_zero, List.getElem_cons_succ, List.setIfInBounds_toArray, List.set_cons_zero, List.set_cons_succ]
          refine wpAnyH_ready (rs := [4]) (by kernel_rfl) (by simp) ?_
          refine AllReadyH.cons rfl (fun K hK => ?_) AllReadyH.nil
          go_simp
          refine (sum256_ Aa na ca fl _ Q5.out (by omega) HL.out.s HL.out.s.size).mono ?_
          rintro e u7 ⟨A7, c7, rfl, h7, p7⟩
          have Q7 := Lib.hid (Rd.of_own h7)
          clear h7
          replace Q6 := Lib.hid (Q6.out.to p7)
          replace HL := Lib.hid (HL.out.go p7)
          replace hB := Lib.hid (hB.out.trans (p7.mono hB.out.size))
          go_wp2_with fail
          refine hK.out _ _ p7 ?_
          intro hS
          clear hK K
          try simp only [Act.put, List.getElem_toArray, List.getElem_cons_zero, List.getElem_cons_succ, List.setIfInBounds_toArray, List.set_cons_zero, List.set_cons_succ]
          refine wpAnyH_strong (S2 := fun w' => Below u7.heap.size u7 w') (fun w' h' => p7.trans (h'.mono p7.size)) _ _ _ _ ?_
          clear hS
          have hS : Below u7.heap.size u7 u7 := Below.refl _ _
          refine wpAnyH_take (i := 5) (v := ?vz5) rfl (by kernel_rfl) (by kernel_rfl) (by kernel_rfl) (fun _ _ _ h => h) (Or.inl ⟨by rfl, ?hyz5⟩) hS ?restz5
          case hyz5 => (intro w hSw; have hcv := conv8 w A7 _ c7 _ (Q7.out.to hSw); go_simp; first | done | with_reducible rfl)
          try simp only [Act.put, List.getElem_toArray, List.getElem_cons_zero, List.getElem_cons_succ, List.setIfInBounds_toArray, List.set_cons_zero, List.set_cons_succ]
          refine wpAnyH_take (i := 6) (v := ?vz6) rfl (by kernel_rfl) (by kernel_rfl) (by kernel_rfl) (fun _ _ _ h => h) (Or.inl ⟨by rfl, ?hyz6⟩) hS ?restz6
          case hyz6 => (intro w hSw; go_simp; first | done | with_reducible rfl)
          try simp only [Act.put, List.getElem_toArray, List.getElem_cons_zero, List.getElem_cons_succ, List.setIfInBounds_toArray, List.set_cons_zero, List.set_cons_succ]
          refine wpAnyH_take (i := 7) (v := ?vz7) rfl (by kernel_rfl) (by kernel_rfl) (by kernel_rfl) (fun _ _ _ h => h) (Or.inl ⟨by rfl, ?hyz7⟩) hS ?restz7
          case hyz7 => (intro w hSw; go_simp; first | done | with_reducible rfl)
          try simp only [Act.put, List.getElem_toArray, List.getElem_cons_zero, List.getElem_cons_succ, List.setIfInBounds_toArray, List.set_cons_zero, List.set_cons_succ]
          refine wpAnyH_ready (rs := [8]) (by kernel_rfl) (by simp) ?_
          refine AllReadyH.cons rfl (fun K hK => ?_) AllReadyH.nil
          go_simp
          refine (awake6_any _ HL.out).mono ?_
          rintro e u9 ⟨rfl, p9⟩
          replace hB := Lib.hid (hB.out.trans (p9.mono hB.out.size))
          go_wp2_with fail
          refine hK.out _ _ p9 ?_
          intro hS
          clear hK K
          try simp only [Act.put, List.getElem_toArray, List.getElem_cons_zero, List.getElem_cons_succ, List.setIfInBounds_toArray, List.set_cons_zero, List.set_cons_succ]
          refine wpAnyH_take (i := 9) (v := ?vz9) rfl (by kernel_rfl) (by kernel_rfl) (by kernel_rfl) (fun _ _ _ h => h) (Or.inl ⟨by rfl, ?hyz9⟩) hS ?restz9
          case hyz9 => (intro w hSw; go_simp; first | done | with_reducible rfl)
          try simp only [Act.put, List.getElem_toArray, List.getElem_cons_zero, List.getElem_cons_succ, List.setIfInBounds_toArray, List.set_cons_zero, List.set_cons_succ]
          refine wpAnyH_take (i := 10) (v := ?vz10) rfl (by kernel_rfl) (by kernel_rfl) (by kernel_rfl) (fun _ _ _ h => h) (Or.inl ⟨by rfl, ?hyz10⟩) hS ?restz10
          case hyz10 => (intro w hSw; go_simp; first | done | with_reducible rfl)
          try simp only [Act.put, List.getElem_toArray, List.getElem_cons_zero, List.getElem_cons_succ, List.setIfInBounds_toArray, List.set_cons_zero, List.set_cons_succ]
          refine wpAnyH_done (by kernel_rfl) (NoPanic.normal ?_) _
          go_wp2_with fail
          go_ret
          exact ⟨rfl, hB.out⟩
end Go.Proofs.YtclecmpmohoamaaDoor
