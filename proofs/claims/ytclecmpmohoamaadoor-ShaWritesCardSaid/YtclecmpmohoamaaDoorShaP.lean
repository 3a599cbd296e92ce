/- Plain law of the sums: what is computed, on numbers and lists of bytes; no program in sight. -/
import Derived.Laws.BitsAllLaws
import Derived.Laws.Bits64
namespace Go.Proofs.YtclecmpmohoamaaDoor
open Go
set_option linter.unusedSimpArgs false
set_option linter.unusedVariables false

/-! ### Turning -/
/-- x, of b bits, turned right by n. -/
def tr (b x n : Nat) : Nat := x / 2 ^ n + x % 2 ^ n * 2 ^ (b - n)
/-- Turned right by one, as the document does. -/
def rot1 (b x : Nat) : Nat := x / 2 + x % 2 * 2 ^ (b - 1)
theorem tr_zero (b x : Nat) : tr b x 0 = x := by simp [tr, Nat.mod_one]
theorem tr_succ (b x n : Nat) (hn : n < b) : rot1 b (tr b x n) = tr b x (n + 1) := by
  obtain ⟨k, rfl⟩ : ∃ k, b = n + 1 + k := ⟨b - n - 1, by omega⟩
  have e1 : n + 1 + k - n = k + 1 := by omega
  have e2 : n + 1 + k - 1 = n + k := by omega
  have e3 : n + 1 + k - (n + 1) = k := by omega
  unfold rot1 tr
  rw [e1, e2, e3]
  have hd : x / 2 ^ (n + 1) = x / 2 ^ n / 2 := by rw [Nat.pow_succ, Nat.div_div_eq_div_mul]
  have hm : x % 2 ^ (n + 1) = x % 2 ^ n + 2 ^ n * (x / 2 ^ n % 2) := by rw [Nat.pow_succ, Nat.mod_mul]
  rw [hd, hm, Nat.pow_succ, Nat.add_mul]
  generalize x / 2 ^ n = q
  generalize x % 2 ^ n = r
  have e4 : r * (2 ^ k * 2) = 2 * (r * 2 ^ k) := by rw [← Nat.mul_assoc, Nat.mul_comm]
  have e5 : (q + r * (2 ^ k * 2)) / 2 = q / 2 + r * 2 ^ k := by rw [e4]; omega
  have e6 : (q + r * (2 ^ k * 2)) % 2 = q % 2 := by rw [e4]; omega
  rw [e5, e6, Nat.pow_add]
  have e7 : 2 ^ n * (q % 2) * 2 ^ k = q % 2 * (2 ^ n * 2 ^ k) := by rw [Nat.mul_comm (2 ^ n), Nat.mul_assoc]
  rw [e7, Nat.add_assoc]
theorem tr_lt (b x n : Nat) (hx : x < 2 ^ b) (hn : n ≤ b) : tr b x n < 2 ^ b := by
  obtain ⟨k, rfl⟩ : ∃ k, b = n + k := ⟨b - n, by omega⟩
  unfold tr
  rw [show n + k - n = k by omega]
  have h1 : x / 2 ^ n < 2 ^ k := by rw [Nat.div_lt_iff_lt_mul (Nat.two_pow_pos n), ← Nat.pow_add, Nat.add_comm k n]; exact hx
  have h2 : x % 2 ^ n + 1 ≤ 2 ^ n := Nat.mod_lt _ (Nat.two_pow_pos n)
  have h3 := Nat.mul_le_mul_right (2 ^ k) h2
  rw [Nat.add_mul, ← Nat.pow_add] at h3
  omega
theorem tr_or (b x n : Nat) (hx : x < 2 ^ b) (hn : n ≤ b) : (x / 2 ^ n) ||| (x * 2 ^ (b - n) % 2 ^ b) = tr b x n := by
  obtain ⟨k, rfl⟩ : ∃ k, b = n + k := ⟨b - n, by omega⟩
  unfold tr
  rw [show n + k - n = k by omega]
  have h1 : x / 2 ^ n < 2 ^ k := by rw [Nat.div_lt_iff_lt_mul (Nat.two_pow_pos n), ← Nat.pow_add, Nat.add_comm k n]; exact hx
  have h2 : x * 2 ^ k % 2 ^ (n + k) = x % 2 ^ n * 2 ^ k := by rw [Nat.pow_add, Nat.mul_mod_mul_right]
  rw [h2, Nat.or_comm, nat_join k _ _ (Nat.mul_mod_left _ _) h1, Nat.add_comm]
def it (f : Nat → Nat) : Nat → Nat → Nat
  | 0, x => x
  | n + 1, x => f (it f n x)
theorem it_rot (b x : Nat) : ∀ n, n ≤ b → it (rot1 b) n x = tr b x n
  | 0, _ => (tr_zero b x).symm
  | n + 1, h => by rw [it, it_rot b x n (by omega), tr_succ b x n (by omega)]
theorem it_half (x : Nat) : ∀ n, it (· / 2) n x = x / 2 ^ n
  | 0 => by simp [it]
  | n + 1 => by rw [it, it_half x n, Nat.pow_succ, Nat.div_div_eq_div_mul]

/-! ### A kind of sum -/
abbrev T3 := Nat × Nat × Nat
structure Kd where
  b : Nat
  r : Nat
  U : T3
  D : T3
  E : T3
  L : T3
  key : List Nat
/-- Eight words. -/
structure S8 where
  a : Nat
  b : Nat
  c : Nat
  d : Nat
  e : Nat
  f : Nat
  g : Nat
  h : Nat
deriving DecidableEq
def S8.ok (n : Nat) (s : S8) : Prop := s.a < 2 ^ n ∧ s.b < 2 ^ n ∧ s.c < 2 ^ n ∧ s.d < 2 ^ n ∧ s.e < 2 ^ n ∧ s.f < 2 ^ n ∧ s.g < 2 ^ n ∧ s.h < 2 ^ n
def S8.l (s : S8) : List Nat := [s.a, s.b, s.c, s.d, s.e, s.f, s.g, s.h]

def tur (b x : Nat) (p : T3) : Nat := tr b x p.1 ^^^ tr b x p.2.1 ^^^ tr b x p.2.2
def shi (b x : Nat) (p : T3) : Nat := tr b x p.1 ^^^ tr b x p.2.1 ^^^ x / 2 ^ p.2.2
/-- A number that is a word's first so many words, each word behind them. -/
def nxt (K : Kd) (l : List Nat) : Nat :=
  (shi K.b (l.getD (l.length - 2) 0) K.L + l.getD (l.length - 7) 0 + shi K.b (l.getD (l.length - 15) 0) K.E + l.getD (l.length - 16) 0) % 2 ^ K.b
def ext (K : Kd) : Nat → List Nat → List Nat
  | 0, l => l
  | n + 1, l => let l' := ext K n l; l' ++ [nxt K l']
def one (K : Kd) (k x : Nat) (s : S8) : Nat := s.h + tur K.b s.e K.D + ((s.e &&& s.f) ^^^ ((2 ^ K.b - 1 - s.e) &&& s.g)) + k + x
def two (K : Kd) (s : S8) : Nat := tur K.b s.a K.U + ((s.a &&& s.b) ^^^ (s.a &&& s.c) ^^^ (s.b &&& s.c))
def rnd (K : Kd) (k x : Nat) (s : S8) : S8 :=
  ⟨(one K k x s + two K s) % 2 ^ K.b, s.a, s.b, s.c, (s.d + one K k x s) % 2 ^ K.b, s.e, s.f, s.g⟩
def rnds (K : Kd) (w : List Nat) : Nat → S8 → S8
  | 0, s => s
  | t + 1, s => rnd K (K.key.getD t 0) (w.getD t 0) (rnds K w t s)
def be (l : List UInt8) : Nat := l.foldl (fun x b => x * 256 + b.toNat) 0
def bw (sz : Nat) (p : List UInt8) (t : Nat) : Nat := be ((p.drop (t * sz)).take sz)
def first16 (K : Kd) (p : List UInt8) : List Nat := (List.range 16).map (bw (K.b / 8) p)
def add8 (n : Nat) (v s : S8) : S8 :=
  ⟨(v.a + s.a) % 2 ^ n, (v.b + s.b) % 2 ^ n, (v.c + s.c) % 2 ^ n, (v.d + s.d) % 2 ^ n, (v.e + s.e) % 2 ^ n, (v.f + s.f) % 2 ^ n, (v.g + s.g) % 2 ^ n, (v.h + s.h) % 2 ^ n⟩
def wds (K : Kd) (p : List UInt8) : List Nat := ext K (K.r - 16) (first16 K p)
def blk (K : Kd) (v : S8) (p : List UInt8) : S8 := add8 K.b v (rnds K (wds K p) K.r v)
/-- A word's bytes, the highest first. -/
def toBE (b x : Nat) : List UInt8 := (List.range (b / 8)).map fun i => UInt8.ofNat (x / 2 ^ (b - 8 - 8 * i))
def told (b : Nat) (s : S8) : List UInt8 := s.l.flatMap (toBE b)
/-- How many noughts stand behind the first bit's byte. -/
def zer (size n : Nat) : Nat := (2 * size - size / 8 - 1 - n % size) % size
def tail (size n all : Nat) : List UInt8 :=
  128 :: (List.replicate (zer size n) 0 ++ (List.replicate (size / 8 - 8) 0 ++ toBE 64 (all * 8 % 2 ^ 64)))
def comp (K : Kd) : Nat → S8 → List UInt8 → S8
  | 0, v, _ => v
  | n + 1, v, p => comp K n (blk K v (p.take (2 * K.b))) (p.drop (2 * K.b))
def padd (size : Nat) (rest : List UInt8) (all : Nat) : List UInt8 := rest ++ tail size rest.length all
def sumOf (K : Kd) (f : S8) (l : List UInt8) : List UInt8 :=
  told K.b (comp K ((padd (2 * K.b) l l.length).length / (2 * K.b)) f (padd (2 * K.b) l l.length))

def K32 : Kd := ⟨32, 64, (2, 13, 22), (6, 11, 25), (7, 18, 3), (17, 19, 10),
  [0x428a2f98, 0x71374491, 0xb5c0fbcf, 0xe9b5dba5, 0x3956c25b, 0x59f111f1, 0x923f82a4, 0xab1c5ed5,
   0xd807aa98, 0x12835b01, 0x243185be, 0x550c7dc3, 0x72be5d74, 0x80deb1fe, 0x9bdc06a7, 0xc19bf174,
   0xe49b69c1, 0xefbe4786, 0x0fc19dc6, 0x240ca1cc, 0x2de92c6f, 0x4a7484aa, 0x5cb0a9dc, 0x76f988da,
   0x983e5152, 0xa831c66d, 0xb00327c8, 0xbf597fc7, 0xc6e00bf3, 0xd5a79147, 0x06ca6351, 0x14292967,
   0x27b70a85, 0x2e1b2138, 0x4d2c6dfc, 0x53380d13, 0x650a7354, 0x766a0abb, 0x81c2c92e, 0x92722c85,
   0xa2bfe8a1, 0xa81a664b, 0xc24b8b70, 0xc76c51a3, 0xd192e819, 0xd6990624, 0xf40e3585, 0x106aa070,
   0x19a4c116, 0x1e376c08, 0x2748774c, 0x34b0bcb5, 0x391c0cb3, 0x4ed8aa4a, 0x5b9cca4f, 0x682e6ff3,
   0x748f82ee, 0x78a5636f, 0x84c87814, 0x8cc70208, 0x90befffa, 0xa4506ceb, 0xbef9a3f7, 0xc67178f2]⟩
def K64 : Kd := ⟨64, 80, (28, 34, 39), (14, 18, 41), (1, 8, 7), (19, 61, 6),
  [0x428a2f98d728ae22, 0x7137449123ef65cd, 0xb5c0fbcfec4d3b2f, 0xe9b5dba58189dbbc,
   0x3956c25bf348b538, 0x59f111f1b605d019, 0x923f82a4af194f9b, 0xab1c5ed5da6d8118,
   0xd807aa98a3030242, 0x12835b0145706fbe, 0x243185be4ee4b28c, 0x550c7dc3d5ffb4e2,
   0x72be5d74f27b896f, 0x80deb1fe3b1696b1, 0x9bdc06a725c71235, 0xc19bf174cf692694,
   0xe49b69c19ef14ad2, 0xefbe4786384f25e3, 0x0fc19dc68b8cd5b5, 0x240ca1cc77ac9c65,
   0x2de92c6f592b0275, 0x4a7484aa6ea6e483, 0x5cb0a9dcbd41fbd4, 0x76f988da831153b5,
   0x983e5152ee66dfab, 0xa831c66d2db43210, 0xb00327c898fb213f, 0xbf597fc7beef0ee4,
   0xc6e00bf33da88fc2, 0xd5a79147930aa725, 0x06ca6351e003826f, 0x142929670a0e6e70,
   0x27b70a8546d22ffc, 0x2e1b21385c26c926, 0x4d2c6dfc5ac42aed, 0x53380d139d95b3df,
   0x650a73548baf63de, 0x766a0abb3c77b2a8, 0x81c2c92e47edaee6, 0x92722c851482353b,
   0xa2bfe8a14cf10364, 0xa81a664bbc423001, 0xc24b8b70d0f89791, 0xc76c51a30654be30,
   0xd192e819d6ef5218, 0xd69906245565a910, 0xf40e35855771202a, 0x106aa07032bbd1b8,
   0x19a4c116b8d2d0c8, 0x1e376c085141ab53, 0x2748774cdf8eeb99, 0x34b0bcb5e19b48a8,
   0x391c0cb3c5c95a63, 0x4ed8aa4ae3418acb, 0x5b9cca4f7763e373, 0x682e6ff3d6b2b8a3,
   0x748f82ee5defb2fc, 0x78a5636f43172f60, 0x84c87814a1f0ab72, 0x8cc702081a6439ec,
   0x90befffa23631e28, 0xa4506cebde82bde9, 0xbef9a3f7b2c67915, 0xc67178f2e372532b,
   0xca273eceea26619c, 0xd186b8c721c0c207, 0xeada7dd6cde0eb1e, 0xf57d4f7fee6ed178,
   0x06f067aa72176fba, 0x0a637dc5a2c898a6, 0x113f9804bef90dae, 0x1b710b35131c471b,
   0x28db77f523047d84, 0x32caab7b40c72493, 0x3c9ebe0a15c9bebc, 0x431d67c49c100d4c,
   0x4cc5d4becb3e42b6, 0x597f299cfc657e2a, 0x5fcb6fab3ad6faec, 0x6c44198c4a475817]⟩
def F32 : S8 := ⟨0x6a09e667, 0xbb67ae85, 0x3c6ef372, 0xa54ff53a, 0x510e527f, 0x9b05688c, 0x1f83d9ab, 0x5be0cd19⟩
def F64 : S8 := ⟨0x6a09e667f3bcc908, 0xbb67ae8584caa73b, 0x3c6ef372fe94f82b, 0xa54ff53a5f1d36f1, 0x510e527fade682d1, 0x9b05688c2b3e6c1f, 0x1f83d9abfb41bd6b, 0x5be0cd19137e2179⟩

set_option maxRecDepth 100000 in
theorem abc32 : (sumOf K32 F32 [97, 98, 99]).take 2 = [0xba, 0x78] := by decide +kernel
set_option maxRecDepth 100000 in
theorem abc64 : (sumOf K64 F64 [97, 98, 99]).take 2 = [0xdd, 0xaf] := by decide +kernel

/-! ### Bounds -/
theorem xor_lt {b x y : Nat} (hx : x < 2 ^ b) (hy : y < 2 ^ b) : x ^^^ y < 2 ^ b := Nat.xor_lt_two_pow hx hy
theorem and_lt {b x : Nat} (y : Nat) (hx : x < 2 ^ b) : x &&& y < 2 ^ b := Nat.lt_of_le_of_lt Nat.and_le_left hx
theorem tur_lt {b x : Nat} {p : T3} (hx : x < 2 ^ b) (h1 : p.1 ≤ b) (h2 : p.2.1 ≤ b) (h3 : p.2.2 ≤ b) : tur b x p < 2 ^ b :=
  xor_lt (xor_lt (tr_lt _ _ _ hx h1) (tr_lt _ _ _ hx h2)) (tr_lt _ _ _ hx h3)
theorem shi_lt {b x : Nat} {p : T3} (hx : x < 2 ^ b) (h1 : p.1 ≤ b) (h2 : p.2.1 ≤ b) : shi b x p < 2 ^ b :=
  xor_lt (xor_lt (tr_lt _ _ _ hx h1) (tr_lt _ _ _ hx h2)) (Nat.lt_of_le_of_lt (Nat.div_le_self _ _) hx)
theorem nxt_lt (K : Kd) (l : List Nat) : nxt K l < 2 ^ K.b := Nat.mod_lt _ (Nat.two_pow_pos _)
theorem rnd_ok {K : Kd} {k x : Nat} {s : S8} (h : s.ok K.b) : (rnd K k x s).ok K.b := by
  obtain ⟨h1, h2, h3, h4, h5, h6, h7, h8⟩ := h
  exact ⟨Nat.mod_lt _ (Nat.two_pow_pos _), h1, h2, h3, Nat.mod_lt _ (Nat.two_pow_pos _), h5, h6, h7⟩
theorem rnds_ok {K : Kd} {w : List Nat} {s : S8} (h : s.ok K.b) : ∀ t, (rnds K w t s).ok K.b
  | 0 => h
  | t + 1 => rnd_ok (rnds_ok h t)
theorem add8_ok (n : Nat) (v s : S8) : (add8 n v s).ok n := by
  simp only [S8.ok, add8]
  exact ⟨Nat.mod_lt _ (Nat.two_pow_pos _), Nat.mod_lt _ (Nat.two_pow_pos _), Nat.mod_lt _ (Nat.two_pow_pos _), Nat.mod_lt _ (Nat.two_pow_pos _), Nat.mod_lt _ (Nat.two_pow_pos _), Nat.mod_lt _ (Nat.two_pow_pos _), Nat.mod_lt _ (Nat.two_pow_pos _), Nat.mod_lt _ (Nat.two_pow_pos _)⟩
theorem blk_ok (K : Kd) (v : S8) (p : List UInt8) : (blk K v p).ok K.b := add8_ok _ _ _
theorem comp_ok {K : Kd} : ∀ (n : Nat) {v : S8} {p : List UInt8}, v.ok K.b → (comp K n v p).ok K.b
  | 0, _, _, h => h
  | n + 1, _, _, _ => comp_ok n (blk_ok _ _ _)
theorem F32_ok : F32.ok 32 := by simp [S8.ok, F32]
theorem F64_ok : F64.ok 64 := by simp [S8.ok, F64]

theorem ext_length (K : Kd) (l : List Nat) : ∀ n, (ext K n l).length = l.length + n
  | 0 => rfl
  | n + 1 => by simp only [ext, List.length_append, ext_length K l n]; rfl
theorem ext_lt (K : Kd) (l : List Nat) (h : ∀ x ∈ l, x < 2 ^ K.b) : ∀ n, ∀ x ∈ ext K n l, x < 2 ^ K.b
  | 0, x, hx => h x hx
  | n + 1, x, hx => by
    simp only [ext, List.mem_append, List.mem_singleton] at hx
    rcases hx with hx | rfl
    · exact ext_lt K l h n x hx
    · exact nxt_lt _ _
theorem getD_lt {B : Nat} (hB : 0 < B) {l : List Nat} (h : ∀ x ∈ l, x < B) (i : Nat) : l.getD i 0 < B := by
  rw [List.getD_eq_getElem?_getD]
  cases e : l[i]? with
  | none => simpa using hB
  | some x => simpa using h x (List.mem_of_getElem? e)
theorem be_snoc (l : List UInt8) (b : UInt8) : be (l ++ [b]) = be l * 256 + b.toNat := by simp [be]
theorem be_lt (l : List UInt8) : be l < 256 ^ l.length := by
  suffices h : ∀ (l : List UInt8) (x m : Nat), x < m → l.foldl (fun x b => x * 256 + b.toNat) x < m * 256 ^ l.length by
    have := h l 0 1 (by omega); simpa [be] using this
  intro l
  induction l with
  | nil => intro x m h; simpa using h
  | cons b l ih =>
    intro x m h
    have hb := b.toNat_lt
    have := ih (x * 256 + b.toNat) (m * 256) (by omega)
    simpa [Nat.pow_succ, Nat.mul_assoc, Nat.mul_comm 256] using this
theorem bw_lt {K : Kd} (hK : K.b = 8 * (K.b / 8)) (p : List UInt8) (t : Nat) : bw (K.b / 8) p t < 2 ^ K.b := by
  refine Nat.lt_of_lt_of_le (be_lt _) ?_
  have h1 : ((p.drop (t * (K.b / 8))).take (K.b / 8)).length ≤ K.b / 8 := List.length_take_le _ _
  calc 256 ^ _ ≤ 256 ^ (K.b / 8) := Nat.pow_le_pow_right (by omega) h1
    _ = 2 ^ K.b := by rw [show (256 : Nat) = 2 ^ 8 from rfl, ← Nat.pow_mul, ← hK]
theorem first16_length (K : Kd) (p : List UInt8) : (first16 K p).length = 16 := by simp [first16]
theorem first16_lt {K : Kd} (hK : K.b = 8 * (K.b / 8)) (p : List UInt8) : ∀ x ∈ first16 K p, x < 2 ^ K.b := by
  intro x hx
  obtain ⟨t, _, rfl⟩ := List.mem_map.1 hx
  exact bw_lt hK p t

/-! ### Cutting -/
theorem comp_append (K : Kd) : ∀ (n m : Nat) (v : S8) (p q : List UInt8), p.length = n * (2 * K.b) → comp K (n + m) v (p ++ q) = comp K m (comp K n v p) q
  | 0, m, v, p, q, h => by
    have : p = [] := List.length_eq_zero_iff.1 (by simpa using h)
    subst this; simp [comp]
  | n + 1, m, v, p, q, h => by
    rw [Nat.add_mul] at h
    rw [show n + 1 + m = (n + m) + 1 by omega, comp, comp, List.take_append_of_le_length (by omega), List.drop_append_of_le_length (by omega)]
    exact comp_append K n m _ _ q (by rw [List.length_drop]; omega)
theorem tail_mod (size n m all : Nat) (h : n % size = m % size) : tail size n all = tail size m all := by simp only [tail, zer, h]
theorem tail_length (size n all : Nat) : (tail size n all).length = 1 + (zer size n + (size / 8 - 8 + 8)) := by
  simp [tail, toBE]; omega
/-- The bytes with the end behind them are a whole number of blocks. -/
theorem padd_length (size : Nat) (h8 : size = 8 * (size / 8)) (h64 : 64 ≤ size) (rest : List UInt8) (all : Nat) : ∃ k, (padd size rest all).length = k * size ∧ 0 < k := by
  unfold padd
  rw [List.length_append, tail_length]
  generalize rest.length = n
  unfold zer
  have hlt := Nat.mod_lt n (show 0 < size by omega)
  have hdm := Nat.div_add_mod n size
  generalize hr : n % size = r at *
  generalize n / size = q at *
  have h3 : size * (q + 1) = size * q + size := Nat.mul_succ _ _
  have h4 : size * (q + 2) = size * q + size + size := by rw [show q + 2 = (q + 1) + 1 from rfl, Nat.mul_succ, Nat.mul_succ]
  by_cases hc : r + 1 ≤ size - size / 8
  · have e : (2 * size - size / 8 - 1 - r) % size = size - size / 8 - 1 - r := by
      rw [show 2 * size - size / 8 - 1 - r = size + (size - size / 8 - 1 - r) by omega, Nat.add_mod_left, Nat.mod_eq_of_lt (by omega)]
    refine ⟨q + 1, ?_, by omega⟩
    rw [e, Nat.mul_comm (q + 1) size, h3]
    omega
  · have e : (2 * size - size / 8 - 1 - r) % size = 2 * size - size / 8 - 1 - r := Nat.mod_eq_of_lt (by omega)
    refine ⟨q + 2, ?_, by omega⟩
    rw [e, Nat.mul_comm (q + 2) size, h4]
    omega
/-- The words behind all whole blocks of some bytes; what is left of them. -/
def head (K : Kd) (f : S8) (l : List UInt8) : S8 := comp K (l.length / (2 * K.b)) f l
def left (K : Kd) (l : List UInt8) : List UInt8 := l.drop (l.length / (2 * K.b) * (2 * K.b))
theorem comp_take (K : Kd) (n : Nat) (v : S8) (p : List UInt8) : comp K n v (p.take (n * (2 * K.b))) = comp K n v p := by
  induction n generalizing v p with
  | zero => rfl
  | succ n ih =>
    simp only [comp]
    have e1 : (n + 1) * (2 * K.b) = n * (2 * K.b) + 2 * K.b := Nat.succ_mul _ _
    have e2 : (n + 1) * (2 * K.b) - 2 * K.b = n * (2 * K.b) := by rw [e1, Nat.add_sub_cancel]
    rw [List.take_take, List.drop_take, Nat.min_eq_left (by rw [e1]; exact Nat.le_add_left _ _), e2]
    exact ih _ _
theorem left_length (K : Kd) (l : List UInt8) : (left K l).length = l.length % (2 * K.b) := by
  have := Nat.div_add_mod l.length (2 * K.b)
  rw [Nat.mul_comm] at this
  simp only [left, List.length_drop]; omega
/-- The sum, told from what is kept of the bytes. -/
theorem sum_left (K : Kd) (hb : 64 ≤ 2 * K.b) (h8 : 2 * K.b = 8 * (2 * K.b / 8)) (f : S8) (l : List UInt8) :
    sumOf K f l = told K.b (comp K ((padd (2 * K.b) (left K l) l.length).length / (2 * K.b)) (head K f l) (padd (2 * K.b) (left K l) l.length)) := by
  unfold sumOf head
  congr 1
  have hdm := Nat.div_add_mod l.length (2 * K.b)
  rw [Nat.mul_comm] at hdm
  have hsplit : padd (2 * K.b) l l.length = l.take (l.length / (2 * K.b) * (2 * K.b)) ++ padd (2 * K.b) (left K l) l.length := by
    unfold padd
    rw [← List.append_assoc, left, List.take_append_drop, tail_mod _ _ (l.drop (l.length / (2 * K.b) * (2 * K.b))).length _ (by rw [← left, left_length, Nat.mod_mod])]
  have hlen : (l.take (l.length / (2 * K.b) * (2 * K.b))).length = l.length / (2 * K.b) * (2 * K.b) := by rw [List.length_take]; omega
  obtain ⟨k, hk, _⟩ := padd_length (2 * K.b) h8 hb (left K l) l.length
  rw [hsplit, List.length_append, hlen, hk, ← Nat.add_mul, Nat.mul_div_cancel _ (by omega), Nat.mul_div_cancel _ (by omega),
    comp_append K _ _ _ _ _ hlen, comp_take]
/-- More bytes behind some: whole blocks of what was left and of the new ones. -/
theorem head_append (K : Kd) (hb : 0 < 2 * K.b) (f : S8) (l m : List UInt8) :
    head K f (l ++ m) = comp K ((left K l ++ m).length / (2 * K.b)) (head K f l) (left K l ++ m) ∧ left K (l ++ m) = (left K l ++ m).drop ((left K l ++ m).length / (2 * K.b) * (2 * K.b)) := by
  have hdm := Nat.div_add_mod l.length (2 * K.b)
  rw [Nat.mul_comm] at hdm
  have hlen : (l.take (l.length / (2 * K.b) * (2 * K.b))).length = l.length / (2 * K.b) * (2 * K.b) := by rw [List.length_take]; omega
  have hsplit : l ++ m = l.take (l.length / (2 * K.b) * (2 * K.b)) ++ (left K l ++ m) := by rw [← List.append_assoc, left, List.take_append_drop]
  have hd : (l ++ m).length / (2 * K.b) = l.length / (2 * K.b) + (left K l ++ m).length / (2 * K.b) := by
    rw [hsplit, List.length_append, hlen, Nat.add_comm, Nat.add_mul_div_right _ _ hb, Nat.add_comm]
  constructor
  · unfold head
    rw [hd]
    conv => lhs; rw [hsplit]
    rw [comp_append K _ _ _ _ _ hlen, comp_take]
  · conv => lhs; rw [left, hd, hsplit]
    rw [Nat.add_mul, List.drop_append, hlen, List.drop_eq_nil_of_le (by omega)]
    simp
theorem head_nil (K : Kd) (f : S8) : head K f [] = f := by simp [head, comp]
theorem left_nil (K : Kd) : left K [] = [] := by simp [left]
end Go.Proofs.YtclecmpmohoamaaDoor
