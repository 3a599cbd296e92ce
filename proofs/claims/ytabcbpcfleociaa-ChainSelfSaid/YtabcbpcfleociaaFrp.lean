/- Arguments opened: how long the slices in a list of steps may be (the form's reach). No function of the program. -/
import Derived.Test.YtabcbpcfleociaaFro
import Derived.SizedLaws
namespace Go.Proofs.Ytabcbpcfleociaa
open Go.ChangeShapes Go.WideShapes Go.ChangeAt Go.RowKit
set_option linter.unusedSimpArgs false
set_option linter.unusedVariables false
theorem wAll_mem {H : Type} {P : Program} {e : TypeId} : ∀ {l : List (DataW H)} {d : DataW H}, d ∈ l → ∀ n ∈ d.weights P e, n ∈ DataW.weightsAll P e l
  | x :: r, d, hd, n, hn => by
    simp only [DataW.weightsAll, List.mem_append]
    rcases List.mem_cons.1 hd with rfl | hd
    · exact Or.inl hn
    · exact Or.inr (wAll_mem hd n hn)
  | [], _, hd, _, _ => by simp at hd
section
variable {H : Type} {enc : TypeId × Value → H} {w : World} {sp : Nat → Bool} {held : Bool}
theorem bytes_w {A : Option Addr} {n c R : Nat} {x : DataW H × List MemPlace} {fuel : Nat} (hf : DataW.trod enc Try.prog w 0 sp held fuel 38 [.slice A n c] = some x) (hw : ∀ m ∈ x.1.weights Try.prog 38, m ≤ R) : n ≤ R := by
  rcases open_ints Try.underlying38 Try.underlying5 (by kernel_rfl) hf with ⟨hcs, _⟩ | ⟨a, len, cap, zs, hcs, _, hl, hm, hz, hx, _, _⟩
  · simp at hcs; omega
  · simp at hcs
    obtain ⟨rfl, rfl, rfl⟩ := hcs
    have hzl : n ≤ zs.length := by rw [hz]; split <;> omega
    have hb : Try.prog.bytesOf 5 = 1 := by kernel_rfl
    have h1 := hw _ (by rw [hx]; simp only [DataW.weights, Try.underlying38]; exact List.mem_cons_self)
    rw [hb] at h1
    simp [lits] at h1
    omega
set_option maxRecDepth 100000 in
theorem link_w {v0 v1 v2 : Value} {A : Option Addr} {n c : Nat} {B : Option Addr} {m d R : Nat} {x : DataW H × List MemPlace} {fuel : Nat} (h : DataW.trod enc Try.prog w 0 sp held fuel 40 [v0, v1, v2, .slice A n c, .slice B m d] = some x) (hw : ∀ k ∈ x.1.weights Try.prog 40, k ≤ R) : n ≤ R ∧ m ≤ R := by
  obtain ⟨xs, k, _, hx, hl, hxl, hf⟩ := DataW.trod_struct Try.underlying40 h
  have cS : Try.prog.cellsOf 38 = 1 := by kernel_rfl
  match xs, hxl with
  | [y0, y1, y2, y3, y4], _ =>
    have h3 : DataW.trod enc Try.prog w 0 sp held k 38 (List.take (Try.prog.cellsOf 38) (List.drop 3 [v0, v1, v2, .slice A n c, .slice B m d])) = some y3 := hf 3 _ rfl
    rw [cS] at h3
    have h4 : DataW.trod enc Try.prog w 0 sp held k 38 (List.take (Try.prog.cellsOf 38) (List.drop 4 [v0, v1, v2, .slice A n c, .slice B m d])) = some y4 := hf 4 _ rfl
    rw [cS] at h4
    have hm : ∀ (j : Nat) (t : TypeId) (y : DataW H), [3, 3, 3, 38, 38][j]? = some t → [y0.1, y1.1, y2.1, y3.1, y4.1][j]? = some y → ∀ k ∈ y.weights Try.prog t, k ≤ R := fun j t y h1 h2 k hk =>
      hw k (by rw [hx]; simp only [DataW.weights, Try.underlying40]; exact DataW.weights_mem_each h1 h2 k hk)
    exact ⟨bytes_w h3 (hm 3 _ _ rfl rfl), bytes_w h4 (hm 4 _ _ rfl rfl)⟩
set_option maxRecDepth 100000 in
set_option maxHeartbeats 1000000 in
theorem dos_w {A : Option Addr} {n c R : Nat} {x : DataW H × List MemPlace} {fuel : Nat} (h : DataW.trod enc Try.prog w 0 sp held fuel 22 [.slice A n c] = some x) (hw : ∀ k ∈ x.1.weights Try.prog 22, k ≤ R) :
    n ≤ R ∧ ∀ (i b o : Nat) (Ap : Option Addr) (np cp : Nat) (Ab : Option Addr) (nb cb : Nat), i < n → A = some ⟨b, o, none⟩ → w.cell? ⟨b, o + i * 6 + 3, none⟩ = some (.slice Ap np cp) → w.cell? ⟨b, o + i * 6 + 4, none⟩ = some (.slice Ab nb cb) → np ≤ R ∧ nb ≤ R := by
  have hC : Try.prog.cellsOf 42 = 6 := by kernel_rfl
  have cL : Try.prog.cellsOf 40 = 5 := by kernel_rfl
  have hB : ∃ q, Try.prog.bytesOf 42 = q + 1 := ⟨79, by kernel_rfl⟩
  rcases Go.Deep.open_slice Try.underlying22 h with ⟨hcs, _⟩ | ⟨a, len, cap, m, k, D, Pl, hcs, _, hl, _, hm, hxx, hx⟩
  · simp at hcs
    obtain ⟨rfl, rfl, rfl⟩ := hcs
    exact ⟨Nat.zero_le _, fun i b o _ _ _ _ _ _ hi => absurd hi (by omega)⟩
  · simp at hcs
    obtain ⟨rfl, rfl, rfl⟩ := hcs
    have hnm : n ≤ m := by rw [hm]; split <;> omega
    have hel : ∀ i, i < n → ∀ k ∈ (D i).weights Try.prog 42, k ≤ R := fun i hi k hk =>
      hw k (by rw [hxx]; simp only [DataW.weights, Try.underlying22]; exact List.mem_cons_of_mem _ (List.mem_append.2 (Or.inl (wAll_mem (List.mem_map.2 ⟨i, List.mem_range.2 hi, rfl⟩) k hk))))
    refine ⟨?_, fun i b o Ap np cp Ab nb cb hi ha h3 h4 => ?_⟩
    · have h1 := hw _ (by rw [hxx]; simp only [DataW.weights, Try.underlying22]; exact List.mem_cons_self)
      obtain ⟨q, hq⟩ := hB
      rw [hq, List.length_map, List.length_range] at h1
      have h2 : n * 1 ≤ (n + ((List.range (m - n)).map fun j => D (n + j)).length) * (q + 1) := Nat.mul_le_mul (Nat.le_add_right _ _) (by omega)
      omega
    · injection ha with ha
      subst ha
      obtain ⟨cs', hcells, htr⟩ := hx i (by omega)
      rw [hC] at hcells
      obtain ⟨_, hlen, hcell⟩ := World.cells?_some hcells
      obtain ⟨xs, k2, _, hD, _, hxl, hf⟩ := DataW.trod_struct Try.underlying42 htr
      match cs', hlen, xs, hxl with
      | [v0, v1, v2, v3, v4, v5], _, [y0, y1], _ =>
        have e3 := hcell 3 (by omega)
        have e4 := hcell 4 (by omega)
        rw [addr_add, addr_add] at e3 e4
        have e3' : v3 = .slice Ap np cp := by
          have := e3.symm.trans h3
          simpa using this
        have e4' : v4 = .slice Ab nb cb := by
          have := e4.symm.trans h4
          simpa using this
        subst e3' e4'
        have g0 : DataW.trod enc Try.prog w 0 sp held k2 40 (List.take (Try.prog.cellsOf 40) (List.drop 0 [v0, v1, v2, .slice Ap np cp, .slice Ab nb cb, v5])) = some y0 := hf 0 _ rfl
        rw [cL] at g0
        refine link_w g0 (fun k hk => hel i hi k ?_)
        have hD1 : D i = .agg [y0.1, y1.1] := congrArg Prod.fst hD
        rw [hD1]
        simp only [DataW.weights, Try.underlying42]
        exact DataW.weights_mem_each (ts := [40, 4]) (ds := [y0.1, y1.1]) (j := 0) rfl rfl k hk
end
end Go.Proofs.Ytabcbpcfleociaa
