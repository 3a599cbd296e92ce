/- What a row's frame wants: an argument of bytes opened, with the reach's bound. -/
import Derived.Test.YtabcbpcfleociaaMMem
import Derived.Test.YtabcbpcfleociaaRows
import Derived.ProofKit
import Derived.OpenShut
import Derived.ShutString
import Derived.ChangeOld
import Derived.SizedLaws
import Derived.JoinedCond
namespace Go.Proofs.Ytabcbpcfleociaa
open Go.ChangeShapes Go.WideShapes Go.ChangeAt Go.RowKit

theorem own : ownKnob Try.prog.godebug = none := by kernel_rfl
theorem laidOut : laidOutB Try.prog = true := by kernel_rfl
theorem bytes8 : Try.prog.bytesOf 5 = 1 := by kernel_rfl

theorem open_bytes {H : Type} {enc : TypeId × Value → H} {P : Program} {w : World} {sp : Nat → Bool} {held : Bool} {r : Reach} {b0 : Nat} {t e : TypeId} {v : Value} {d : DataW H} {p : List MemPlace}
    (ht : P.underlying t = some (.slice e)) (he : P.underlying e = some (.int .u8)) (hc : P.cellsOf e = 1) (hval : Value.okWide P w r b0 t v) (h : DataW.Trod enc P w 0 sp held t v d p) :
    ∃ (A : Option Addr) (n c : Nat) (l : List UInt8), v = .slice A n c ∧ Rd w w.heap.size 1 A n (l.map B8) ∧ n ≤ c ∧ (n = 0 ∨ ∃ es ss, d = .slice es ss ∧ n ≤ es.length + ss.length) := by
  obtain ⟨A, n, c, rfl⟩ := okWide_slice ht hval
  obtain ⟨fuel, hf⟩ := h
  rcases open_ints ht he hc hf with ⟨hcs, _⟩ | ⟨x, len, cap, zs, hcs, _, hl, hm, hz, hx, hcell, hwz⟩
  · simp [Value.cells] at hcs
    obtain ⟨rfl, rfl, rfl⟩ := hcs
    exact ⟨none, 0, 0, [], rfl, Rd.nil _ _ _ _, Nat.le_refl _, .inl rfl⟩
  · simp [Value.cells] at hcs
    obtain ⟨rfl, rfl, rfl⟩ := hcs
    have hzl : n ≤ zs.length := by rw [hz]; split <;> omega
    refine ⟨some x, n, c, (zs.take n).map fun z => UInt8.ofNat z.toNat, rfl, ⟨by simp; omega, fun h0 => ?_⟩, hl, .inr ⟨_, _, (Prod.mk.inj hx).1, ?_⟩⟩
    · obtain ⟨b, off, spot⟩ := x
      have hc0 := hcell 0 (by omega)
      have hspot : spot = none := by simpa [Addr.add] using World.cell?_spot hc0
      subst hspot
      have hb : b < w.heap.size := by
        simp only [Addr.add, if_true] at hc0
        rcases Nat.lt_or_ge b w.heap.size with h | h
        · exact h
        · simp [World.cell?, Array.getElem?_eq_none h] at hc0
      refine ⟨b, off, rfl, hb, fun j u hu => ?_⟩
      rw [List.map_map, List.getElem?_map] at hu
      cases hj : (zs.take n)[j]? with
      | none => rw [hj] at hu; simp at hu
      | some z =>
        rw [hj] at hu
        simp only [Option.map_some, Option.some.injEq] at hu
        subst hu
        have hjn : j < n := by
          rcases Nat.lt_or_ge j n with h | h
          · exact h
          · rw [List.getElem?_eq_none (by simp; omega)] at hj; cases hj
        rw [List.getElem?_take_of_lt hjn] at hj
        have h1 := hcell j (by omega)
        rw [addr_add] at h1
        have hzj : zs.getD j 0 = z := by simp [List.getD, hj]
        rw [h1, hzj]
        have hw := hwz z (List.mem_of_getElem? hj)
        have hb := bounds_u8 hw
        simp only [Function.comp, B8, Option.some.injEq, Value.int.injEq, true_and]
        rw [UInt8.toNat_ofNat']
        omega
    · simp only [lits, List.length_map, List.length_take, List.length_drop]; omega

theorem bytes_le {H : Type} {ts : List TypeId} {ds : List (DataW H)} (h : (DataW.weightsEach Try.prog ts ds).all (· ≤ reachBytes) = true) {j : Nat} {d : DataW H} (ht : ts[j]? = some 38) (hd : ds[j]? = some d) {n : Nat} (hn : n = 0 ∨ ∃ es ss, d = .slice es ss ∧ n ≤ es.length + ss.length) : n ≤ 140737488351232 := by
  rcases hn with rfl | ⟨es, ss, rfl, hn⟩
  · omega
  · have := sized_slice h ht hd Try.underlying38
    rw [bytes8] at this
    simp only [reachBytes] at this
    omega

/-! What the bound of an '..UptoSaid' gives. -/
theorem bulk_one {H : Type} (d : DataW H) : 1 ≤ Rows.uptoBulk d := by
  cases d with
  | lit l => cases l <;> simp [Rows.uptoBulk]
  | nil => simp [Rows.uptoBulk]
  | ptr d => simp [Rows.uptoBulk]
  | slice elems spare => simp [Rows.uptoBulk]
  | agg parts => simp [Rows.uptoBulk]
  | iface t d => simp [Rows.uptoBulk]
  | map entries => simp [Rows.uptoBulk]
  | held h => simp [Rows.uptoBulk]
theorem bulk_part {H : Type} {d : DataW H} {l : List (DataW H)} (h : d ∈ l) : Rows.uptoBulk d ≤ Rows.uptoBulkAll l := by
  induction l with
  | nil => cases h
  | cons x r ih =>
    simp only [Rows.uptoBulkAll]
    cases List.mem_cons.1 h with
    | inl e => subst e; omega
    | inr e => have := ih e; omega
theorem bulk_length {H : Type} (l : List (DataW H)) : l.length ≤ Rows.uptoBulkAll l := by
  induction l with
  | nil => simp [Rows.uptoBulkAll]
  | cons x r ih => have := bulk_one x; simp only [Rows.uptoBulkAll, List.length_cons]; omega
theorem string_bulk {H : Type} {l : List (DataW H)} (hk : Rows.uptoSmall H l = true) {s : ByteArray} (hm : DataW.lit (.string s.data.toList) ∈ l) : s.size ≤ 1048576 := by
  have h : Rows.uptoBulkAll l ≤ 1048576 := of_decide_eq_true hk
  have h2 := bulk_part hm
  simp only [Rows.uptoBulk] at h2
  have e : s.data.toList.length = s.size := by rw [Array.length_toList]; rfl
  omega
theorem bytes_bulk {H : Type} {l : List (DataW H)} (hk : Rows.uptoSmall H l = true) {d : DataW H} (hm : d ∈ l) {n : Nat} (hn : n = 0 ∨ ∃ es ss, d = .slice es ss ∧ n ≤ es.length + ss.length) : n ≤ 1048576 := by
  rcases hn with rfl | ⟨es, ss, rfl, hn⟩
  · omega
  · have h : Rows.uptoBulkAll l ≤ 1048576 := of_decide_eq_true hk
    have h2 := bulk_part hm
    have h3 := bulk_length es
    have h4 := bulk_length ss
    simp only [Rows.uptoBulk] at h2
    omega
end Go.Proofs.Ytabcbpcfleociaa
