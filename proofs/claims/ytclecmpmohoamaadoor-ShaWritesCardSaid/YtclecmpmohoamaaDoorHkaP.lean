/- HMAC with SHA-256, and keys derived by it, as plain Lean over lists of bytes. No program in sight. (Printed by gen_hka.py.) -/
import Derived.Test.YtclecmpmohoamaaDoorShaP
namespace Go.Proofs.YtclecmpmohoamaaDoor
set_option linter.unusedSimpArgs false
set_option linter.unusedVariables false
def hkey (key : List UInt8) : List UInt8 := if 64 < key.length then sumOf K32 F32 key else key
def hk64 (key : List UInt8) : List UInt8 := hkey key ++ List.replicate (64 - (hkey key).length) 0
def hxor (x : UInt8) (l : List UInt8) : List UInt8 := l.map (· ^^^ x)
def hmac (key b : List UInt8) : List UInt8 := sumOf K32 F32 (hxor 92 (hk64 key) ++ sumOf K32 F32 (hxor 54 (hk64 key) ++ b))
theorem sumOf_len32 (l : List UInt8) : (sumOf K32 F32 l).length = 32 := by
  unfold sumOf Go.Proofs.YtclecmpmohoamaaDoor.told
  simp [S8.l, toBE, K32]
theorem hmac_len (key b : List UInt8) : (hmac key b).length = 32 := sumOf_len32 _
theorem hkey_le (key : List UInt8) : (hkey key).length ≤ 64 := by
  unfold hkey
  split
  · rw [sumOf_len32]; decide
  · omega
theorem hk64_len (key : List UInt8) : (hk64 key).length = 64 := by
  have := hkey_le key
  simp only [hk64, List.length_append, List.length_replicate]; omega
theorem hxor_len (x : UInt8) (l : List UInt8) : (hxor x l).length = l.length := by simp [hxor]
/-- A long key does as its sum. -/
theorem hk64_long {key : List UInt8} (h : 64 < key.length) : hk64 (sumOf K32 F32 key) = hk64 key := by
  unfold hk64 hkey
  rw [if_pos h, if_neg (by rw [sumOf_len32]; decide)]
theorem hmac_long {key : List UInt8} (h : 64 < key.length) (b : List UInt8) : hmac (sumOf K32 F32 key) b = hmac key b := by unfold hmac; rw [hk64_long h]
/-- Noughts behind a shorter key change nothing. -/
theorem hk64_zeros {key : List UInt8} {k : Nat} (h : key.length + k ≤ 64) : hk64 (key ++ List.replicate k 0) = hk64 key := by
  unfold hk64 hkey
  rw [if_neg (by simp; omega), if_neg (by omega), List.append_assoc, List.replicate_append_replicate]
  congr 2
  simp
  omega
theorem hmac_zeros {key : List UInt8} {k : Nat} (h : key.length + k ≤ 64) (b : List UInt8) : hmac (key ++ List.replicate k 0) b = hmac key b := by unfold hmac; rw [hk64_zeros h]
/-- The i-th block of what is expanded (the 0-th: none). -/
def htk (key info : List UInt8) : Nat → List UInt8
  | 0 => []
  | i + 1 => hmac key (htk key info i ++ info ++ [UInt8.ofNat (i + 1)])
/-- The first so many blocks. -/
def hout (key info : List UInt8) : Nat → List UInt8
  | 0 => []
  | i + 1 => hout key info i ++ htk key info (i + 1)
theorem htk_len (key info : List UInt8) (i : Nat) : (htk key info (i + 1)).length = 32 := hmac_len _ _
theorem htk_le (key info : List UInt8) (i : Nat) : (htk key info i).length ≤ 32 := by
  cases i with
  | zero => simp [htk]
  | succ i => rw [htk_len]; omega
theorem hout_len (key info : List UInt8) : ∀ i, (hout key info i).length = 32 * i
  | 0 => rfl
  | i + 1 => by rw [hout, List.length_append, hout_len key info i, htk_len]; omega
/-- What is expanded to n bytes. -/
def hexp (key info : List UInt8) (n : Nat) : List UInt8 := (hout key info ((n + 31) / 32)).take n
theorem hexp_len (key info : List UInt8) (n : Nat) : (hexp key info n).length = n := by
  rw [hexp, List.length_take, hout_len]; omega
theorem hout_pre (key info : List UInt8) (i : Nat) : ∀ k, (hout key info (i + k)).take (32 * i) = hout key info i
  | 0 => by rw [Nat.add_zero, List.take_of_length_le (by rw [hout_len]; omega)]
  | k + 1 => by
    rw [← Nat.add_assoc, hout, List.take_append_of_le_length (by rw [hout_len]; omega)]
    exact hout_pre key info i k
/-- Fewer bytes are the beginning of more. -/
theorem hexp_pre (key info : List UInt8) {few many : Nat} (h : few ≤ many) : (hexp key info many).take few = hexp key info few := by
  unfold hexp
  obtain ⟨k, hk⟩ : ∃ k, (many + 31) / 32 = (few + 31) / 32 + k := ⟨(many + 31) / 32 - (few + 31) / 32, by omega⟩
  rw [List.take_take, Nat.min_eq_left h, hk, ← hout_pre key info ((few + 31) / 32) k, List.take_take, Nat.min_eq_left (by omega)]
def fox : List UInt8 := [84, 104, 101, 32, 113, 117, 105, 99, 107, 32, 98, 114, 111, 119, 110, 32, 102, 111, 120, 32, 106, 117, 109, 112, 115, 32, 111, 118, 101, 114, 32, 116, 104, 101, 32, 108, 97, 122, 121, 32, 100, 111, 103]
theorem fox_mac : (hmac [107, 101, 121] fox).take 4 = [0xf7, 0xbc, 0x83, 0xf4] := by decide +kernel
end Go.Proofs.YtclecmpmohoamaaDoor
