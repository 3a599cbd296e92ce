/-
  No cell of these rows narrows 'for every input' (looked for: loops, veiled, ifaces, maps, wideKeys, modest, calm, conditions, laid).
  DERIVED. THE GIVEN ROWS OF THIS SEAT. 10 by the template 'for every input the law returns true; each argument reads behind the call as it read before'; 0 by the template 'total and deterministic' (their statements: YtghhgjpdpmekhaaTotals.lean).
  GIVEN WITH THE SEED: the statements are not yours to turn. If you find one false, say at which input.
  Laid BY PROGRAM, IN A SANDBOX (cutbox-rows.mjs): the forced cells as the released guide's own fill.sh prints them over the translation a1230a2be12523c3… (all of the seat's roots in one cut). By AI agents, Wed Nov 11 2026. No macro, syntax, notation, axiom, sorry.
-/
import Derived.Test.YtghhgjpdpmekhaaChecked
import GoSem.Claim
import GoSem.ClaimJoined
import GoSem.ClaimMapViews
import Derived.JoinedTies
import Derived.KernelRfl
namespace Go.Proofs.Ytghhgjpdpmekhaa
/- THE CELL 'sum', in the pinned program and in every row, IS THE sha256 OF THE DUMP (.gsa) THAT YtghhgjpdpmekhaaProg.lean LOADS. Nothing in Lean hashes anything: it is a label: what it is worth is what the hold of that sum in a sandbox is worth. -/
noncomputable def Try.pinned : Pinned := { name := "ytghhgjpdpmekhaa", sum := "a1230a2be12523c3cb894ab4a0a7654fa37561c1fd198bbb5a3f81bb377957ab", checked := Try.checked }
namespace Rows
def none {H : Type} : Left H := { results := [], args := [] }

/-- 'sealwaxlaw14.PadBuckets': WHATEVER THE INPUT: true; the input reads as it did. -/
def padBucketsSpec : ChangeSpec := { name := "padBuckets", fn := fun _ => fun
  | [d] => { results := [.lit (.bool true)], args := [d] }
  | _ => none }
def padBucketsRow : OpenClaim := { program := "ytghhgjpdpmekhaa", sum := "a1230a2be12523c3cb894ab4a0a7654fa37561c1fd198bbb5a3f81bb377957ab", func := "sealwax/sealwaxlaw14.PadBuckets", spec := "padBuckets", apart := false }
def PadBucketsSaid : Prop := padBucketsRow.holds Try.pinned (OpenSpec.ofChange padBucketsSpec)

/-- ITS FALSE NEIGHBOUR: 'it returns false'. Refute it at one input. -/
def padBucketsWrong : ChangeSpec := { name := "padBuckets", fn := fun _ => fun
  | [d] => { results := [.lit (.bool false)], args := [d] }
  | _ => none }
def PadBucketsWrongFalsely : Prop := padBucketsRow.holds Try.pinned (OpenSpec.ofChange padBucketsWrong)

/-- 'sealwaxlaw14.PadPads': WHATEVER THE INPUT: true; the input reads as it did. -/
def padPadsSpec : ChangeSpec := { name := "padPads", fn := fun _ => fun
  | [d] => { results := [.lit (.bool true)], args := [d] }
  | _ => none }
def padPadsRow : OpenClaim := { program := "ytghhgjpdpmekhaa", sum := "a1230a2be12523c3cb894ab4a0a7654fa37561c1fd198bbb5a3f81bb377957ab", func := "sealwax/sealwaxlaw14.PadPads", spec := "padPads", apart := false }
def PadPadsSaid : Prop := padPadsRow.holds Try.pinned (OpenSpec.ofChange padPadsSpec)

/-- ITS FALSE NEIGHBOUR: 'it returns false'. Refute it at one input. -/
def padPadsWrong : ChangeSpec := { name := "padPads", fn := fun _ => fun
  | [d] => { results := [.lit (.bool false)], args := [d] }
  | _ => none }
def PadPadsWrongFalsely : Prop := padPadsRow.holds Try.pinned (OpenSpec.ofChange padPadsWrong)

/-- 'sealwaxlaw14.PadUnpads': WHATEVER THE INPUT: true; the input reads as it did. -/
def padUnpadsSpec : ChangeSpec := { name := "padUnpads", fn := fun _ => fun
  | [d] => { results := [.lit (.bool true)], args := [d] }
  | _ => none }
def padUnpadsRow : OpenClaim := { program := "ytghhgjpdpmekhaa", sum := "a1230a2be12523c3cb894ab4a0a7654fa37561c1fd198bbb5a3f81bb377957ab", func := "sealwax/sealwaxlaw14.PadUnpads", spec := "padUnpads", apart := false }
def PadUnpadsSaid : Prop := padUnpadsRow.holds Try.pinned (OpenSpec.ofChange padUnpadsSpec)

/-- ITS FALSE NEIGHBOUR: 'it returns false'. Refute it at one input. -/
def padUnpadsWrong : ChangeSpec := { name := "padUnpads", fn := fun _ => fun
  | [d] => { results := [.lit (.bool false)], args := [d] }
  | _ => none }
def PadUnpadsWrongFalsely : Prop := padUnpadsRow.holds Try.pinned (OpenSpec.ofChange padUnpadsWrong)

/-- 'sealwaxlaw14.PadBack': WHATEVER THE INPUT: true; the input reads as it did. -/
def padBackSpec : ChangeSpec := { name := "padBack", fn := fun _ => fun
  | [d1, d2] => { results := [.lit (.bool true)], args := [d1, d2] }
  | _ => none }
def padBackRow : OpenClaim := { program := "ytghhgjpdpmekhaa", sum := "a1230a2be12523c3cb894ab4a0a7654fa37561c1fd198bbb5a3f81bb377957ab", func := "sealwax/sealwaxlaw14.PadBack", spec := "padBack", apart := false }
def PadBackSaid : Prop := padBackRow.holds Try.pinned (OpenSpec.ofChange padBackSpec)

/-- ITS FALSE NEIGHBOUR: 'it returns false'. Refute it at one input. -/
def padBackWrong : ChangeSpec := { name := "padBack", fn := fun _ => fun
  | [d1, d2] => { results := [.lit (.bool false)], args := [d1, d2] }
  | _ => none }
def PadBackWrongFalsely : Prop := padBackRow.holds Try.pinned (OpenSpec.ofChange padBackWrong)

/-- 'sealwaxlaw14.PadHides': WHATEVER THE INPUT: true; the input reads as it did. -/
def padHidesSpec : ChangeSpec := { name := "padHides", fn := fun _ => fun
  | [d1, d2] => { results := [.lit (.bool true)], args := [d1, d2] }
  | _ => none }
def padHidesRow : OpenClaim := { program := "ytghhgjpdpmekhaa", sum := "a1230a2be12523c3cb894ab4a0a7654fa37561c1fd198bbb5a3f81bb377957ab", func := "sealwax/sealwaxlaw14.PadHides", spec := "padHides", apart := false }
def PadHidesSaid : Prop := padHidesRow.holds Try.pinned (OpenSpec.ofChange padHidesSpec)

/-- ITS FALSE NEIGHBOUR: 'it returns false'. Refute it at one input. -/
def padHidesWrong : ChangeSpec := { name := "padHides", fn := fun _ => fun
  | [d1, d2] => { results := [.lit (.bool false)], args := [d1, d2] }
  | _ => none }
def PadHidesWrongFalsely : Prop := padHidesRow.holds Try.pinned (OpenSpec.ofChange padHidesWrong)

/-- 'sealwaxlaw17.CaretPlaces': WHATEVER THE INPUT: true; the input reads as it did. -/
def caretPlacesSpec : ChangeSpec := { name := "caretPlaces", fn := fun _ => fun
  | [d1, d2] => { results := [.lit (.bool true)], args := [d1, d2] }
  | _ => none }
def caretPlacesRow : OpenClaim := { program := "ytghhgjpdpmekhaa", sum := "a1230a2be12523c3cb894ab4a0a7654fa37561c1fd198bbb5a3f81bb377957ab", func := "sealwax/sealwaxlaw17.CaretPlaces", spec := "caretPlaces", apart := false }
def CaretPlacesSaid : Prop := caretPlacesRow.holds Try.pinned (OpenSpec.ofChange caretPlacesSpec)

/-- ITS FALSE NEIGHBOUR: 'it returns false'. Refute it at one input. -/
def caretPlacesWrong : ChangeSpec := { name := "caretPlaces", fn := fun _ => fun
  | [d1, d2] => { results := [.lit (.bool false)], args := [d1, d2] }
  | _ => none }
def CaretPlacesWrongFalsely : Prop := caretPlacesRow.holds Try.pinned (OpenSpec.ofChange caretPlacesWrong)

/-- 'sealwaxlaw17.CaretWidths': WHATEVER THE INPUT: true; the input reads as it did. -/
def caretWidthsSpec : ChangeSpec := { name := "caretWidths", fn := fun _ => fun
  | [d] => { results := [.lit (.bool true)], args := [d] }
  | _ => none }
def caretWidthsRow : OpenClaim := { program := "ytghhgjpdpmekhaa", sum := "a1230a2be12523c3cb894ab4a0a7654fa37561c1fd198bbb5a3f81bb377957ab", func := "sealwax/sealwaxlaw17.CaretWidths", spec := "caretWidths", apart := false }
def CaretWidthsSaid : Prop := caretWidthsRow.holds Try.pinned (OpenSpec.ofChange caretWidthsSpec)

/-- ITS FALSE NEIGHBOUR: 'it returns false'. Refute it at one input. -/
def caretWidthsWrong : ChangeSpec := { name := "caretWidths", fn := fun _ => fun
  | [d] => { results := [.lit (.bool false)], args := [d] }
  | _ => none }
def CaretWidthsWrongFalsely : Prop := caretWidthsRow.holds Try.pinned (OpenSpec.ofChange caretWidthsWrong)

/-- 'sealwaxlaw17.CaretOrder': WHATEVER THE INPUT: true; the input reads as it did. -/
def caretOrderSpec : ChangeSpec := { name := "caretOrder", fn := fun _ => fun
  | [d1, d2] => { results := [.lit (.bool true)], args := [d1, d2] }
  | _ => none }
def caretOrderRow : OpenClaim := { program := "ytghhgjpdpmekhaa", sum := "a1230a2be12523c3cb894ab4a0a7654fa37561c1fd198bbb5a3f81bb377957ab", func := "sealwax/sealwaxlaw17.CaretOrder", spec := "caretOrder", apart := false }
def CaretOrderSaid : Prop := caretOrderRow.holds Try.pinned (OpenSpec.ofChange caretOrderSpec)

/-- ITS FALSE NEIGHBOUR: 'it returns false'. Refute it at one input. -/
def caretOrderWrong : ChangeSpec := { name := "caretOrder", fn := fun _ => fun
  | [d1, d2] => { results := [.lit (.bool false)], args := [d1, d2] }
  | _ => none }
def CaretOrderWrongFalsely : Prop := caretOrderRow.holds Try.pinned (OpenSpec.ofChange caretOrderWrong)

/-- 'sealwaxlaw17.CaretBack': WHATEVER THE INPUT: true; the input reads as it did. -/
def caretBackSpec : ChangeSpec := { name := "caretBack", fn := fun _ => fun
  | [d1, d2] => { results := [.lit (.bool true)], args := [d1, d2] }
  | _ => none }
def caretBackRow : OpenClaim := { program := "ytghhgjpdpmekhaa", sum := "a1230a2be12523c3cb894ab4a0a7654fa37561c1fd198bbb5a3f81bb377957ab", func := "sealwax/sealwaxlaw17.CaretBack", spec := "caretBack", apart := false }
def CaretBackSaid : Prop := caretBackRow.holds Try.pinned (OpenSpec.ofChange caretBackSpec)

/-- ITS FALSE NEIGHBOUR: 'it returns false'. Refute it at one input. -/
def caretBackWrong : ChangeSpec := { name := "caretBack", fn := fun _ => fun
  | [d1, d2] => { results := [.lit (.bool false)], args := [d1, d2] }
  | _ => none }
def CaretBackWrongFalsely : Prop := caretBackRow.holds Try.pinned (OpenSpec.ofChange caretBackWrong)

/-- 'sealwaxlaw17.CaretBoxes': WHATEVER THE INPUT: true; the input reads as it did. -/
def caretBoxesSpec : ChangeSpec := { name := "caretBoxes", fn := fun _ => fun
  | [d] => { results := [.lit (.bool true)], args := [d] }
  | _ => none }
def caretBoxesRow : OpenClaim := { program := "ytghhgjpdpmekhaa", sum := "a1230a2be12523c3cb894ab4a0a7654fa37561c1fd198bbb5a3f81bb377957ab", func := "sealwax/sealwaxlaw17.CaretBoxes", spec := "caretBoxes", apart := false }
def CaretBoxesSaid : Prop := caretBoxesRow.holds Try.pinned (OpenSpec.ofChange caretBoxesSpec)

/-- ITS FALSE NEIGHBOUR: 'it returns false'. Refute it at one input. -/
def caretBoxesWrong : ChangeSpec := { name := "caretBoxes", fn := fun _ => fun
  | [d] => { results := [.lit (.bool false)], args := [d] }
  | _ => none }
def CaretBoxesWrongFalsely : Prop := caretBoxesRow.holds Try.pinned (OpenSpec.ofChange caretBoxesWrong)

/- THE SECOND FORM. 'bulk': how many values and letters a reading holds, each counted each time it is reached (what is shared counts as often as it is met; a slice's spare places count too). A statement '..UptoSaid' is the law's where the arguments, and the package variables that the reading takes, are together of bulk at most 1048576: NARROWER than '..Said'. Prove '..Said' where nothing that the law and all that it calls make is longer than what came in: it says more and counts as full. Else prove '..UptoSaid'. A law counts once. -/
mutual
def uptoBulk {H : Type} : DataW H → Nat
  | .lit (.string bytes) => bytes.length + 1
  | .lit _ => 1
  | .nil => 1
  | .ptr d => uptoBulk d + 1
  | .slice elems spare => uptoBulkAll elems + uptoBulkAll spare + 1
  | .agg parts => uptoBulkAll parts + 1
  | .iface _ d => uptoBulk d + 1
  | .map entries => uptoBulkEntries entries + 1
  | .held _ => 1
def uptoBulkAll {H : Type} : List (DataW H) → Nat
  | [] => 0
  | d :: r => uptoBulk d + uptoBulkAll r
def uptoBulkEntries {H : Type} : List (Lit × DataW H) → Nat
  | [] => 0
  | x :: r => uptoBulkEntry x + uptoBulkEntries r
def uptoBulkEntry {H : Type} : Lit × DataW H → Nat
  | (.string bytes, d) => bytes.length + uptoBulk d + 1
  | (_, d) => uptoBulk d + 1
 end
def uptoSmall : (H : Type) → List (DataW H) → Bool := fun _ ds => decide (uptoBulkAll ds ≤ 1048576)
def OpenSpec.upto (s : _root_.Go.ChangeSpec) : _root_.Go.OpenSpec := { _root_.Go.OpenSpec.ofChange s with cond := some uptoSmall }

/-- 'sealwaxlaw14.PadBuckets', WHERE WHAT IT READS IS OF BULK AT MOST 1048576: true; the input reads as it did. -/
def padBucketsUptoRow : OpenClaim := { program := "ytghhgjpdpmekhaa", sum := "a1230a2be12523c3cb894ab4a0a7654fa37561c1fd198bbb5a3f81bb377957ab", func := "sealwax/sealwaxlaw14.PadBuckets", spec := "padBuckets", apart := false, narrowed := true }
def PadBucketsUptoSaid : Prop := padBucketsUptoRow.holds Try.pinned (OpenSpec.upto padBucketsSpec)

/-- 'sealwaxlaw14.PadPads', WHERE WHAT IT READS IS OF BULK AT MOST 1048576: true; the input reads as it did. -/
def padPadsUptoRow : OpenClaim := { program := "ytghhgjpdpmekhaa", sum := "a1230a2be12523c3cb894ab4a0a7654fa37561c1fd198bbb5a3f81bb377957ab", func := "sealwax/sealwaxlaw14.PadPads", spec := "padPads", apart := false, narrowed := true }
def PadPadsUptoSaid : Prop := padPadsUptoRow.holds Try.pinned (OpenSpec.upto padPadsSpec)

/-- 'sealwaxlaw14.PadUnpads', WHERE WHAT IT READS IS OF BULK AT MOST 1048576: true; the input reads as it did. -/
def padUnpadsUptoRow : OpenClaim := { program := "ytghhgjpdpmekhaa", sum := "a1230a2be12523c3cb894ab4a0a7654fa37561c1fd198bbb5a3f81bb377957ab", func := "sealwax/sealwaxlaw14.PadUnpads", spec := "padUnpads", apart := false, narrowed := true }
def PadUnpadsUptoSaid : Prop := padUnpadsUptoRow.holds Try.pinned (OpenSpec.upto padUnpadsSpec)

/-- 'sealwaxlaw14.PadBack', WHERE WHAT IT READS IS OF BULK AT MOST 1048576: true; the input reads as it did. -/
def padBackUptoRow : OpenClaim := { program := "ytghhgjpdpmekhaa", sum := "a1230a2be12523c3cb894ab4a0a7654fa37561c1fd198bbb5a3f81bb377957ab", func := "sealwax/sealwaxlaw14.PadBack", spec := "padBack", apart := false, narrowed := true }
def PadBackUptoSaid : Prop := padBackUptoRow.holds Try.pinned (OpenSpec.upto padBackSpec)

/-- 'sealwaxlaw14.PadHides', WHERE WHAT IT READS IS OF BULK AT MOST 1048576: true; the input reads as it did. -/
def padHidesUptoRow : OpenClaim := { program := "ytghhgjpdpmekhaa", sum := "a1230a2be12523c3cb894ab4a0a7654fa37561c1fd198bbb5a3f81bb377957ab", func := "sealwax/sealwaxlaw14.PadHides", spec := "padHides", apart := false, narrowed := true }
def PadHidesUptoSaid : Prop := padHidesUptoRow.holds Try.pinned (OpenSpec.upto padHidesSpec)

/-- 'sealwaxlaw17.CaretPlaces', WHERE WHAT IT READS IS OF BULK AT MOST 1048576: true; the input reads as it did. -/
def caretPlacesUptoRow : OpenClaim := { program := "ytghhgjpdpmekhaa", sum := "a1230a2be12523c3cb894ab4a0a7654fa37561c1fd198bbb5a3f81bb377957ab", func := "sealwax/sealwaxlaw17.CaretPlaces", spec := "caretPlaces", apart := false, narrowed := true }
def CaretPlacesUptoSaid : Prop := caretPlacesUptoRow.holds Try.pinned (OpenSpec.upto caretPlacesSpec)

/-- 'sealwaxlaw17.CaretWidths', WHERE WHAT IT READS IS OF BULK AT MOST 1048576: true; the input reads as it did. -/
def caretWidthsUptoRow : OpenClaim := { program := "ytghhgjpdpmekhaa", sum := "a1230a2be12523c3cb894ab4a0a7654fa37561c1fd198bbb5a3f81bb377957ab", func := "sealwax/sealwaxlaw17.CaretWidths", spec := "caretWidths", apart := false, narrowed := true }
def CaretWidthsUptoSaid : Prop := caretWidthsUptoRow.holds Try.pinned (OpenSpec.upto caretWidthsSpec)

/-- 'sealwaxlaw17.CaretOrder', WHERE WHAT IT READS IS OF BULK AT MOST 1048576: true; the input reads as it did. -/
def caretOrderUptoRow : OpenClaim := { program := "ytghhgjpdpmekhaa", sum := "a1230a2be12523c3cb894ab4a0a7654fa37561c1fd198bbb5a3f81bb377957ab", func := "sealwax/sealwaxlaw17.CaretOrder", spec := "caretOrder", apart := false, narrowed := true }
def CaretOrderUptoSaid : Prop := caretOrderUptoRow.holds Try.pinned (OpenSpec.upto caretOrderSpec)

/-- 'sealwaxlaw17.CaretBack', WHERE WHAT IT READS IS OF BULK AT MOST 1048576: true; the input reads as it did. -/
def caretBackUptoRow : OpenClaim := { program := "ytghhgjpdpmekhaa", sum := "a1230a2be12523c3cb894ab4a0a7654fa37561c1fd198bbb5a3f81bb377957ab", func := "sealwax/sealwaxlaw17.CaretBack", spec := "caretBack", apart := false, narrowed := true }
def CaretBackUptoSaid : Prop := caretBackUptoRow.holds Try.pinned (OpenSpec.upto caretBackSpec)

/-- 'sealwaxlaw17.CaretBoxes', WHERE WHAT IT READS IS OF BULK AT MOST 1048576: true; the input reads as it did. -/
def caretBoxesUptoRow : OpenClaim := { program := "ytghhgjpdpmekhaa", sum := "a1230a2be12523c3cb894ab4a0a7654fa37561c1fd198bbb5a3f81bb377957ab", func := "sealwax/sealwaxlaw17.CaretBoxes", spec := "caretBoxes", apart := false, narrowed := true }
def CaretBoxesUptoSaid : Prop := caretBoxesUptoRow.holds Try.pinned (OpenSpec.upto caretBoxesSpec)

end Rows
end Go.Proofs.Ytghhgjpdpmekhaa
