/-
  No cell of these rows narrows 'for every input' (looked for: loops, veiled, ifaces, maps, wideKeys, modest, calm, conditions, laid).
  DERIVED. THE GIVEN ROWS OF THIS SEAT. 11 by the template 'for every input the law returns true; each argument reads behind the call as it read before'; 0 by the template 'total and deterministic' (their statements: YtabcbpcfleociaaTotals.lean).
  GIVEN WITH THE SEED: the statements are not yours to turn. If you find one false, say at which input.
  Laid BY PROGRAM, IN A SANDBOX (cutbox-rows.mjs): the forced cells as the released guide's own fill.sh prints them over the translation 9b0633249437c2e1… (all of the seat's roots in one cut). By AI agents, Wed Nov 11 2026. No macro, syntax, notation, axiom, sorry.
-/
import Derived.Test.YtabcbpcfleociaaChecked
import GoSem.Claim
import GoSem.ClaimJoined
import GoSem.ClaimMapViews
import Derived.JoinedTies
import Derived.KernelRfl
namespace Go.Proofs.Ytabcbpcfleociaa
/- THE CELL 'sum', in the pinned program and in every row, IS THE sha256 OF THE DUMP (.gsa) THAT YtabcbpcfleociaaProg.lean LOADS. Nothing in Lean hashes anything: it is a label: what it is worth is what the hold of that sum in a sandbox is worth. -/
noncomputable def Try.pinned : Pinned := { name := "ytabcbpcfleociaa", sum := "9b0633249437c2e1c660ccf1c6793ae6d0d978347d36df26966e66db1f174dc4", checked := Try.checked }
namespace Rows
def none {H : Type} : Left H := { results := [], args := [] }

/-- 'sealwaxlaw20.ChainForks': WHATEVER THE INPUT: true; the input reads as it did. -/
def chainForksSpec : ChangeSpec := { name := "chainForks", fn := fun _ => fun
  | [d1, d2, d3, d4] => { results := [.lit (.bool true)], args := [d1, d2, d3, d4] }
  | _ => none }
def chainForksRow : OpenClaim := { program := "ytabcbpcfleociaa", sum := "9b0633249437c2e1c660ccf1c6793ae6d0d978347d36df26966e66db1f174dc4", func := "sealwax/sealwaxlaw20.ChainForks", spec := "chainForks", unfollowed := true, recurses := true, plainKeys := false, apart := false }
def ChainForksSaid : Prop := chainForksRow.holds Try.pinned (OpenSpec.ofChange chainForksSpec)

/-- ITS FALSE NEIGHBOUR: 'it returns false'. Refute it at one input. -/
def chainForksWrong : ChangeSpec := { name := "chainForks", fn := fun _ => fun
  | [d1, d2, d3, d4] => { results := [.lit (.bool false)], args := [d1, d2, d3, d4] }
  | _ => none }
def ChainForksWrongFalsely : Prop := chainForksRow.holds Try.pinned (OpenSpec.ofChange chainForksWrong)

/-- 'sealwaxlaw20.ChainGrows': WHATEVER THE INPUT: true; the input reads as it did. -/
def chainGrowsSpec : ChangeSpec := { name := "chainGrows", fn := fun _ => fun
  | [d] => { results := [.lit (.bool true)], args := [d] }
  | _ => none }
def chainGrowsRow : OpenClaim := { program := "ytabcbpcfleociaa", sum := "9b0633249437c2e1c660ccf1c6793ae6d0d978347d36df26966e66db1f174dc4", func := "sealwax/sealwaxlaw20.ChainGrows", spec := "chainGrows", unfollowed := true, recurses := true, plainKeys := false, apart := false }
def ChainGrowsSaid : Prop := chainGrowsRow.holds Try.pinned (OpenSpec.ofChange chainGrowsSpec)

/-- ITS FALSE NEIGHBOUR: 'it returns false'. Refute it at one input. -/
def chainGrowsWrong : ChangeSpec := { name := "chainGrows", fn := fun _ => fun
  | [d] => { results := [.lit (.bool false)], args := [d] }
  | _ => none }
def ChainGrowsWrongFalsely : Prop := chainGrowsRow.holds Try.pinned (OpenSpec.ofChange chainGrowsWrong)

/-- 'sealwaxlaw20.ChainDigests': WHATEVER THE INPUT: true; the input reads as it did. -/
def chainDigestsSpec : ChangeSpec := { name := "chainDigests", fn := fun _ => fun
  | [d] => { results := [.lit (.bool true)], args := [d] }
  | _ => none }
def chainDigestsRow : OpenClaim := { program := "ytabcbpcfleociaa", sum := "9b0633249437c2e1c660ccf1c6793ae6d0d978347d36df26966e66db1f174dc4", func := "sealwax/sealwaxlaw20.ChainDigests", spec := "chainDigests", unfollowed := true, recurses := true, plainKeys := false, apart := false }
def ChainDigestsSaid : Prop := chainDigestsRow.holds Try.pinned (OpenSpec.ofChange chainDigestsSpec)

/-- ITS FALSE NEIGHBOUR: 'it returns false'. Refute it at one input. -/
def chainDigestsWrong : ChangeSpec := { name := "chainDigests", fn := fun _ => fun
  | [d] => { results := [.lit (.bool false)], args := [d] }
  | _ => none }
def ChainDigestsWrongFalsely : Prop := chainDigestsRow.holds Try.pinned (OpenSpec.ofChange chainDigestsWrong)

/-- 'sealwaxlaw20.ChainPlays': WHATEVER THE INPUT: true; the input reads as it did. -/
def chainPlaysSpec : ChangeSpec := { name := "chainPlays", fn := fun _ => fun
  | [d1, d2, d3] => { results := [.lit (.bool true)], args := [d1, d2, d3] }
  | _ => none }
def chainPlaysRow : OpenClaim := { program := "ytabcbpcfleociaa", sum := "9b0633249437c2e1c660ccf1c6793ae6d0d978347d36df26966e66db1f174dc4", func := "sealwax/sealwaxlaw20.ChainPlays", spec := "chainPlays", unfollowed := true, recurses := true, plainKeys := false, apart := false }
def ChainPlaysSaid : Prop := chainPlaysRow.holds Try.pinned (OpenSpec.ofChange chainPlaysSpec)

/-- ITS FALSE NEIGHBOUR: 'it returns false'. Refute it at one input. -/
def chainPlaysWrong : ChangeSpec := { name := "chainPlays", fn := fun _ => fun
  | [d1, d2, d3] => { results := [.lit (.bool false)], args := [d1, d2, d3] }
  | _ => none }
def ChainPlaysWrongFalsely : Prop := chainPlaysRow.holds Try.pinned (OpenSpec.ofChange chainPlaysWrong)

/-- 'sealwaxlaw20.ChainClones': WHATEVER THE INPUT: true; the input reads as it did. -/
def chainClonesSpec : ChangeSpec := { name := "chainClones", fn := fun _ => fun
  | [d1, d2, d3] => { results := [.lit (.bool true)], args := [d1, d2, d3] }
  | _ => none }
def chainClonesRow : OpenClaim := { program := "ytabcbpcfleociaa", sum := "9b0633249437c2e1c660ccf1c6793ae6d0d978347d36df26966e66db1f174dc4", func := "sealwax/sealwaxlaw20.ChainClones", spec := "chainClones", unfollowed := true, recurses := true, plainKeys := false, apart := false }
def ChainClonesSaid : Prop := chainClonesRow.holds Try.pinned (OpenSpec.ofChange chainClonesSpec)

/-- ITS FALSE NEIGHBOUR: 'it returns false'. Refute it at one input. -/
def chainClonesWrong : ChangeSpec := { name := "chainClones", fn := fun _ => fun
  | [d1, d2, d3] => { results := [.lit (.bool false)], args := [d1, d2, d3] }
  | _ => none }
def ChainClonesWrongFalsely : Prop := chainClonesRow.holds Try.pinned (OpenSpec.ofChange chainClonesWrong)

/-- 'sealwaxlaw20.ChainCompares': WHATEVER THE INPUT: true; the input reads as it did. -/
def chainComparesSpec : ChangeSpec := { name := "chainCompares", fn := fun _ => fun
  | [d1, d2] => { results := [.lit (.bool true)], args := [d1, d2] }
  | _ => none }
def chainComparesRow : OpenClaim := { program := "ytabcbpcfleociaa", sum := "9b0633249437c2e1c660ccf1c6793ae6d0d978347d36df26966e66db1f174dc4", func := "sealwax/sealwaxlaw20.ChainCompares", spec := "chainCompares", unfollowed := true, recurses := true, plainKeys := false, apart := false }
def ChainComparesSaid : Prop := chainComparesRow.holds Try.pinned (OpenSpec.ofChange chainComparesSpec)

/-- ITS FALSE NEIGHBOUR: 'it returns false'. Refute it at one input. -/
def chainComparesWrong : ChangeSpec := { name := "chainCompares", fn := fun _ => fun
  | [d1, d2] => { results := [.lit (.bool false)], args := [d1, d2] }
  | _ => none }
def ChainComparesWrongFalsely : Prop := chainComparesRow.holds Try.pinned (OpenSpec.ofChange chainComparesWrong)

/-- 'sealwaxlaw20.ChainSelf': WHATEVER THE INPUT: true; the input reads as it did. -/
def chainSelfSpec : ChangeSpec := { name := "chainSelf", fn := fun _ => fun
  | [d] => { results := [.lit (.bool true)], args := [d] }
  | _ => none }
def chainSelfRow : OpenClaim := { program := "ytabcbpcfleociaa", sum := "9b0633249437c2e1c660ccf1c6793ae6d0d978347d36df26966e66db1f174dc4", func := "sealwax/sealwaxlaw20.ChainSelf", spec := "chainSelf", unfollowed := true, recurses := true, plainKeys := false, apart := false }
def ChainSelfSaid : Prop := chainSelfRow.holds Try.pinned (OpenSpec.ofChange chainSelfSpec)

/-- ITS FALSE NEIGHBOUR: 'it returns false'. Refute it at one input. -/
def chainSelfWrong : ChangeSpec := { name := "chainSelf", fn := fun _ => fun
  | [d] => { results := [.lit (.bool false)], args := [d] }
  | _ => none }
def ChainSelfWrongFalsely : Prop := chainSelfRow.holds Try.pinned (OpenSpec.ofChange chainSelfWrong)

/-- 'sealwaxlaw20.ChainNobody': WHATEVER THE INPUT: true; the input reads as it did. -/
def chainNobodySpec : ChangeSpec := { name := "chainNobody", fn := fun _ => fun
  | [d1, d2] => { results := [.lit (.bool true)], args := [d1, d2] }
  | _ => none }
def chainNobodyRow : OpenClaim := { program := "ytabcbpcfleociaa", sum := "9b0633249437c2e1c660ccf1c6793ae6d0d978347d36df26966e66db1f174dc4", func := "sealwax/sealwaxlaw20.ChainNobody", spec := "chainNobody", unfollowed := true, recurses := true, plainKeys := false, apart := false }
def ChainNobodySaid : Prop := chainNobodyRow.holds Try.pinned (OpenSpec.ofChange chainNobodySpec)

/-- ITS FALSE NEIGHBOUR: 'it returns false'. Refute it at one input. -/
def chainNobodyWrong : ChangeSpec := { name := "chainNobody", fn := fun _ => fun
  | [d1, d2] => { results := [.lit (.bool false)], args := [d1, d2] }
  | _ => none }
def ChainNobodyWrongFalsely : Prop := chainNobodyRow.holds Try.pinned (OpenSpec.ofChange chainNobodyWrong)

/-- 'sealwaxlaw20.ChainBound': WHATEVER THE INPUT: true; the input reads as it did. -/
def chainBoundSpec : ChangeSpec := { name := "chainBound", fn := fun _ => fun
  | [d1, d2, d3] => { results := [.lit (.bool true)], args := [d1, d2, d3] }
  | _ => none }
def chainBoundRow : OpenClaim := { program := "ytabcbpcfleociaa", sum := "9b0633249437c2e1c660ccf1c6793ae6d0d978347d36df26966e66db1f174dc4", func := "sealwax/sealwaxlaw20.ChainBound", spec := "chainBound", unfollowed := true, recurses := true, plainKeys := false, apart := false }
def ChainBoundSaid : Prop := chainBoundRow.holds Try.pinned (OpenSpec.ofChange chainBoundSpec)

/-- ITS FALSE NEIGHBOUR: 'it returns false'. Refute it at one input. -/
def chainBoundWrong : ChangeSpec := { name := "chainBound", fn := fun _ => fun
  | [d1, d2, d3] => { results := [.lit (.bool false)], args := [d1, d2, d3] }
  | _ => none }
def ChainBoundWrongFalsely : Prop := chainBoundRow.holds Try.pinned (OpenSpec.ofChange chainBoundWrong)

/-- 'sealwaxlaw20.ChainReads': WHATEVER THE INPUT: true; the input reads as it did. -/
def chainReadsSpec : ChangeSpec := { name := "chainReads", fn := fun _ => fun
  | [d] => { results := [.lit (.bool true)], args := [d] }
  | _ => none }
def chainReadsRow : OpenClaim := { program := "ytabcbpcfleociaa", sum := "9b0633249437c2e1c660ccf1c6793ae6d0d978347d36df26966e66db1f174dc4", func := "sealwax/sealwaxlaw20.ChainReads", spec := "chainReads", unfollowed := true, recurses := true, plainKeys := false, apart := false }
def ChainReadsSaid : Prop := chainReadsRow.holds Try.pinned (OpenSpec.ofChange chainReadsSpec)

/-- ITS FALSE NEIGHBOUR: 'it returns false'. Refute it at one input. -/
def chainReadsWrong : ChangeSpec := { name := "chainReads", fn := fun _ => fun
  | [d] => { results := [.lit (.bool false)], args := [d] }
  | _ => none }
def ChainReadsWrongFalsely : Prop := chainReadsRow.holds Try.pinned (OpenSpec.ofChange chainReadsWrong)

/-- 'sealwaxlaw20.ChainBack': WHATEVER THE INPUT: true; the input reads as it did. -/
def chainBackSpec : ChangeSpec := { name := "chainBack", fn := fun _ => fun
  | [d1, d2] => { results := [.lit (.bool true)], args := [d1, d2] }
  | _ => none }
def chainBackRow : OpenClaim := { program := "ytabcbpcfleociaa", sum := "9b0633249437c2e1c660ccf1c6793ae6d0d978347d36df26966e66db1f174dc4", func := "sealwax/sealwaxlaw20.ChainBack", spec := "chainBack", unfollowed := true, recurses := true, plainKeys := false, apart := false }
def ChainBackSaid : Prop := chainBackRow.holds Try.pinned (OpenSpec.ofChange chainBackSpec)

/-- ITS FALSE NEIGHBOUR: 'it returns false'. Refute it at one input. -/
def chainBackWrong : ChangeSpec := { name := "chainBack", fn := fun _ => fun
  | [d1, d2] => { results := [.lit (.bool false)], args := [d1, d2] }
  | _ => none }
def ChainBackWrongFalsely : Prop := chainBackRow.holds Try.pinned (OpenSpec.ofChange chainBackWrong)

/- THE SECOND FORM. 'bulk': how many values and letters a reading holds, each counted each time it is reached (what is shared counts as often as it is met; a slice's spare places count too). A statement '..UptoSaid' is the law's where the arguments, and the package variables that the reading takes, are together of bulk at most 1048576: NARROWER than '..Said'. Prove '..Said' where nothing that the law and all that it calls make is longer than what came in: it says more and counts as full. Else prove '..UptoSaid'. A law counts once. -/
mutual
def uptoBulk {H : Type} : DataW H → Nat
  | .lit (.string bytes) => bytes.length + 1
  | .lit _ => 1
  | .nil => 1
  | .ptr d => uptoBulk d + 1
  | .slice elems spare => uptoBulkAll elems + uptoBulkAll spare + 1
  | .agg parts => uptoBulkAll parts + 1
  | .iface _ d => uptoBulk d + 1
  | .map entries => uptoBulkEntries entries + 1
  | .held _ => 1
def uptoBulkAll {H : Type} : List (DataW H) → Nat
  | [] => 0
  | d :: r => uptoBulk d + uptoBulkAll r
def uptoBulkEntries {H : Type} : List (Lit × DataW H) → Nat
  | [] => 0
  | x :: r => uptoBulkEntry x + uptoBulkEntries r
def uptoBulkEntry {H : Type} : Lit × DataW H → Nat
  | (.string bytes, d) => bytes.length + uptoBulk d + 1
  | (_, d) => uptoBulk d + 1
 end
def uptoSmall : (H : Type) → List (DataW H) → Bool := fun _ ds => decide (uptoBulkAll ds ≤ 1048576)
def OpenSpec.upto (s : _root_.Go.ChangeSpec) : _root_.Go.OpenSpec := { _root_.Go.OpenSpec.ofChange s with cond := some uptoSmall }

/-- 'sealwaxlaw20.ChainForks', WHERE WHAT IT READS IS OF BULK AT MOST 1048576: true; the input reads as it did. -/
def chainForksUptoRow : OpenClaim := { program := "ytabcbpcfleociaa", sum := "9b0633249437c2e1c660ccf1c6793ae6d0d978347d36df26966e66db1f174dc4", func := "sealwax/sealwaxlaw20.ChainForks", spec := "chainForks", unfollowed := true, recurses := true, plainKeys := false, apart := false, narrowed := true }
def ChainForksUptoSaid : Prop := chainForksUptoRow.holds Try.pinned (OpenSpec.upto chainForksSpec)

/-- 'sealwaxlaw20.ChainGrows', WHERE WHAT IT READS IS OF BULK AT MOST 1048576: true; the input reads as it did. -/
def chainGrowsUptoRow : OpenClaim := { program := "ytabcbpcfleociaa", sum := "9b0633249437c2e1c660ccf1c6793ae6d0d978347d36df26966e66db1f174dc4", func := "sealwax/sealwaxlaw20.ChainGrows", spec := "chainGrows", unfollowed := true, recurses := true, plainKeys := false, apart := false, narrowed := true }
def ChainGrowsUptoSaid : Prop := chainGrowsUptoRow.holds Try.pinned (OpenSpec.upto chainGrowsSpec)

/-- 'sealwaxlaw20.ChainDigests', WHERE WHAT IT READS IS OF BULK AT MOST 1048576: true; the input reads as it did. -/
def chainDigestsUptoRow : OpenClaim := { program := "ytabcbpcfleociaa", sum := "9b0633249437c2e1c660ccf1c6793ae6d0d978347d36df26966e66db1f174dc4", func := "sealwax/sealwaxlaw20.ChainDigests", spec := "chainDigests", unfollowed := true, recurses := true, plainKeys := false, apart := false, narrowed := true }
def ChainDigestsUptoSaid : Prop := chainDigestsUptoRow.holds Try.pinned (OpenSpec.upto chainDigestsSpec)

/-- 'sealwaxlaw20.ChainPlays', WHERE WHAT IT READS IS OF BULK AT MOST 1048576: true; the input reads as it did. -/
def chainPlaysUptoRow : OpenClaim := { program := "ytabcbpcfleociaa", sum := "9b0633249437c2e1c660ccf1c6793ae6d0d978347d36df26966e66db1f174dc4", func := "sealwax/sealwaxlaw20.ChainPlays", spec := "chainPlays", unfollowed := true, recurses := true, plainKeys := false, apart := false, narrowed := true }
def ChainPlaysUptoSaid : Prop := chainPlaysUptoRow.holds Try.pinned (OpenSpec.upto chainPlaysSpec)

/-- 'sealwaxlaw20.ChainClones', WHERE WHAT IT READS IS OF BULK AT MOST 1048576: true; the input reads as it did. -/
def chainClonesUptoRow : OpenClaim := { program := "ytabcbpcfleociaa", sum := "9b0633249437c2e1c660ccf1c6793ae6d0d978347d36df26966e66db1f174dc4", func := "sealwax/sealwaxlaw20.ChainClones", spec := "chainClones", unfollowed := true, recurses := true, plainKeys := false, apart := false, narrowed := true }
def ChainClonesUptoSaid : Prop := chainClonesUptoRow.holds Try.pinned (OpenSpec.upto chainClonesSpec)

/-- 'sealwaxlaw20.ChainCompares', WHERE WHAT IT READS IS OF BULK AT MOST 1048576: true; the input reads as it did. -/
def chainComparesUptoRow : OpenClaim := { program := "ytabcbpcfleociaa", sum := "9b0633249437c2e1c660ccf1c6793ae6d0d978347d36df26966e66db1f174dc4", func := "sealwax/sealwaxlaw20.ChainCompares", spec := "chainCompares", unfollowed := true, recurses := true, plainKeys := false, apart := false, narrowed := true }
def ChainComparesUptoSaid : Prop := chainComparesUptoRow.holds Try.pinned (OpenSpec.upto chainComparesSpec)

/-- 'sealwaxlaw20.ChainSelf', WHERE WHAT IT READS IS OF BULK AT MOST 1048576: true; the input reads as it did. -/
def chainSelfUptoRow : OpenClaim := { program := "ytabcbpcfleociaa", sum := "9b0633249437c2e1c660ccf1c6793ae6d0d978347d36df26966e66db1f174dc4", func := "sealwax/sealwaxlaw20.ChainSelf", spec := "chainSelf", unfollowed := true, recurses := true, plainKeys := false, apart := false, narrowed := true }
def ChainSelfUptoSaid : Prop := chainSelfUptoRow.holds Try.pinned (OpenSpec.upto chainSelfSpec)

/-- 'sealwaxlaw20.ChainNobody', WHERE WHAT IT READS IS OF BULK AT MOST 1048576: true; the input reads as it did. -/
def chainNobodyUptoRow : OpenClaim := { program := "ytabcbpcfleociaa", sum := "9b0633249437c2e1c660ccf1c6793ae6d0d978347d36df26966e66db1f174dc4", func := "sealwax/sealwaxlaw20.ChainNobody", spec := "chainNobody", unfollowed := true, recurses := true, plainKeys := false, apart := false, narrowed := true }
def ChainNobodyUptoSaid : Prop := chainNobodyUptoRow.holds Try.pinned (OpenSpec.upto chainNobodySpec)

/-- 'sealwaxlaw20.ChainBound', WHERE WHAT IT READS IS OF BULK AT MOST 1048576: true; the input reads as it did. -/
def chainBoundUptoRow : OpenClaim := { program := "ytabcbpcfleociaa", sum := "9b0633249437c2e1c660ccf1c6793ae6d0d978347d36df26966e66db1f174dc4", func := "sealwax/sealwaxlaw20.ChainBound", spec := "chainBound", unfollowed := true, recurses := true, plainKeys := false, apart := false, narrowed := true }
def ChainBoundUptoSaid : Prop := chainBoundUptoRow.holds Try.pinned (OpenSpec.upto chainBoundSpec)

/-- 'sealwaxlaw20.ChainReads', WHERE WHAT IT READS IS OF BULK AT MOST 1048576: true; the input reads as it did. -/
def chainReadsUptoRow : OpenClaim := { program := "ytabcbpcfleociaa", sum := "9b0633249437c2e1c660ccf1c6793ae6d0d978347d36df26966e66db1f174dc4", func := "sealwax/sealwaxlaw20.ChainReads", spec := "chainReads", unfollowed := true, recurses := true, plainKeys := false, apart := false, narrowed := true }
def ChainReadsUptoSaid : Prop := chainReadsUptoRow.holds Try.pinned (OpenSpec.upto chainReadsSpec)

/-- 'sealwaxlaw20.ChainBack', WHERE WHAT IT READS IS OF BULK AT MOST 1048576: true; the input reads as it did. -/
def chainBackUptoRow : OpenClaim := { program := "ytabcbpcfleociaa", sum := "9b0633249437c2e1c660ccf1c6793ae6d0d978347d36df26966e66db1f174dc4", func := "sealwax/sealwaxlaw20.ChainBack", spec := "chainBack", unfollowed := true, recurses := true, plainKeys := false, apart := false, narrowed := true }
def ChainBackUptoSaid : Prop := chainBackUptoRow.holds Try.pinned (OpenSpec.upto chainBackSpec)

end Rows
end Go.Proofs.Ytabcbpcfleociaa
