/- The tables are the document's numbers: reckoned by the kernel. No program in sight. -/
import Derived.Test.YtclecmpmohoamaaDoorShaN
namespace Go.Proofs.YtclecmpmohoamaaDoor
open Go
set_option linter.unusedSimpArgs false
set_option linter.unusedVariables false
set_option maxRecDepth 100000 in
theorem roots0 : [2, 3, 5, 7, 11].map (fun p => rootD p 3) = [4794697086780616226, 8158064640168781261, 13096744586834688815, 16840607885511220156, 4131703408338449720] := by decide +kernel
set_option maxRecDepth 100000 in
theorem roots1 : [13, 17, 19, 23, 29].map (fun p => rootD p 3) = [6480981068601479193, 10538285296894168987, 12329834152419229976, 15566598209576043074, 1334009975649890238] := by decide +kernel
set_option maxRecDepth 100000 in
theorem roots2 : [31, 37, 41, 43, 47].map (fun p => rootD p 3) = [2608012711638119052, 6128411473006802146, 8268148722764581231, 9286055187155687089, 11230858885718282805] := by decide +kernel
set_option maxRecDepth 100000 in
theorem roots3 : [53, 59, 61, 67, 71].map (fun p => rootD p 3) = [13951009754708518548, 16472876342353939154, 17275323862435702243, 1135362057144423861, 2597628984639134821] := by decide +kernel
set_option maxRecDepth 100000 in
theorem roots4 : [73, 79, 83, 89, 97].map (fun p => rootD p 3) = [3308224258029322869, 5365058923640841347, 6679025012923562964, 8573033837759648693, 10970295158949994411] := by decide +kernel
set_option maxRecDepth 100000 in
theorem roots5 : [101, 103, 107, 109, 113].map (fun p => rootD p 3) = [12119686244451234320, 12683024718118986047, 13788192230050041572, 14330467153632333762, 15395433587784984357] := by decide +kernel
set_option maxRecDepth 100000 in
theorem roots6 : [127, 131, 137, 139, 149].map (fun p => rootD p 3) = [489312712824947311, 1452737877330783856, 2861767655752347644, 3322285676063803686, 5560940570517711597] := by decide +kernel
set_option maxRecDepth 100000 in
theorem roots7 : [151, 157, 163, 167, 173].map (fun p => rootD p 3) = [5996557281743188959, 7280758554555802590, 8532644243296465576, 9350256976987008742, 10552545826968843579] := by decide +kernel
set_option maxRecDepth 100000 in
theorem roots8 : [179, 181, 191, 193, 197].map (fun p => rootD p 3) = [11727347734174303076, 12113106623233404929, 14000437183269869457, 14369950271660146224, 15101387698204529176] := by decide +kernel
set_option maxRecDepth 100000 in
theorem roots9 : [199, 211, 223, 227, 229].map (fun p => rootD p 3) = [15463397548674623760, 17586052441742319658, 1182934255886127544, 1847814050463011016, 2177327727835720531] := by decide +kernel
set_option maxRecDepth 100000 in
theorem roots10 : [233, 239, 241, 251, 257].map (fun p => rootD p 3) = [2830643537854262169, 3796741975233480872, 4115178125766777443, 5681478168544905931, 6601373596472566643] := by decide +kernel
set_option maxRecDepth 100000 in
theorem roots11 : [263, 269, 271, 277, 281].map (fun p => rootD p 3) = [7507060721942968483, 8399075790359081724, 8693463985226723168, 9568029438360202098, 10144078919501101548] := by decide +kernel
set_option maxRecDepth 100000 in
theorem roots12 : [283, 293, 307, 311, 313].map (fun p => rootD p 3) = [10430055236837252648, 11840083180663258601, 13761210420658862357, 14299343276471374635, 14566680578165727644] := by decide +kernel
set_option maxRecDepth 100000 in
theorem roots13 : [317, 331, 337, 347, 349].map (fun p => rootD p 3) = [15097957966210449927, 16922976911328602910, 17689382322260857208, 500013540394364858, 748580250866718886] := by decide +kernel
set_option maxRecDepth 100000 in
theorem roots14 : [353, 359, 367, 373, 379].map (fun p => rootD p 3) = [1242879168328830382, 1977374033974150939, 2944078676154940804, 3659926193048069267, 4368137639120453308] := by decide +kernel
set_option maxRecDepth 100000 in
theorem roots15 : [383, 389, 397, 401, 409].map (fun p => rootD p 3) = [4836135668995329356, 5532061633213252278, 6448918945643986474, 6902733635092675308, 7801388544844847127] := by decide +kernel
set_option maxRecDepth 100000 in
theorem primes80 : primesD 80 = [2, 3, 5, 7, 11] ++ [13, 17, 19, 23, 29] ++ [31, 37, 41, 43, 47] ++ [53, 59, 61, 67, 71] ++ [73, 79, 83, 89, 97] ++ [101, 103, 107, 109, 113] ++ [127, 131, 137, 139, 149] ++ [151, 157, 163, 167, 173] ++ [179, 181, 191, 193, 197] ++ [199, 211, 223, 227, 229] ++ [233, 239, 241, 251, 257] ++ [263, 269, 271, 277, 281] ++ [283, 293, 307, 311, 313] ++ [317, 331, 337, 347, 349] ++ [353, 359, 367, 373, 379] ++ [383, 389, 397, 401, 409] := by decide +kernel
theorem roots80 : (primesD 80).map (fun p => rootD p 3) = K64.key := by
  rw [primes80]
  simp only [List.map_append, roots0, roots1, roots2, roots3, roots4, roots5, roots6, roots7, roots8, roots9, roots10, roots11, roots12, roots13, roots14, roots15]
  rfl
theorem keys64 : numsD 80 3 64 = K64.key := roots80
theorem numD32 (pw p : Nat) : numD 32 pw p = numD 64 pw p / 4294967296 := by unfold numD; rw [if_pos rfl, if_neg (by decide)]
theorem map_div (f g : Nat → Nat) (h : ∀ p, f p = g p / 4294967296) (L : List Nat) : L.map f = (L.map g).map (fun x => x / 4294967296) := by
  rw [List.map_map]
  exact List.map_congr_left (fun p _ => h p)
theorem map_num (pw : Nat) (L : List Nat) : L.map (numD 32 pw) = (L.map (numD 64 pw)).map (fun x => x / 4294967296) := map_div _ _ (numD32 pw) L
theorem take_map_num (pw n : Nat) (L : List Nat) (K : List Nat) (h : L.map (numD 64 pw) = K) : (L.take n).map (numD 32 pw) = (K.take n).map (fun x => x / 4294967296) := by
  rw [map_num, List.map_take, h]
theorem take_take' (L : List Nat) (n m : Nat) (h : n ≤ m) : L.take n = (L.take m).take n := by rw [List.take_take, Nat.min_eq_left h]
theorem keys32_of (L : List Nat) (h : (L.take 80).map (numD 64 3) = K64.key) : (L.take 64).map (numD 32 3) = K32.key := by
  rw [take_take' L 64 80 (by decide), take_map_num 3 64 _ _ h]
  decide +kernel
theorem keys32 : numsD 64 3 32 = K32.key := keys32_of (sieve 408) keys64
set_option maxRecDepth 100000 in
theorem firsts64 : numsD 8 2 64 = F64.l := by decide +kernel
set_option maxRecDepth 100000 in
theorem firsts32 : numsD 8 2 32 = F32.l := by
  exact (map_num 2 (primesD 8)).trans ((congrArg (List.map fun x => x / 4294967296) firsts64).trans (by decide +kernel))
end Go.Proofs.YtclecmpmohoamaaDoor
