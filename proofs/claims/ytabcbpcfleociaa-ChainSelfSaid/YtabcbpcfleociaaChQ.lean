/- What a book answers: plain; a link's bytes, its digest, whether it goes on. -/
import Derived.Test.YtabcbpcfleociaaChP
import Derived.Test.YtabcbpcfleociaaWkA
import Derived.Test.YtabcbpcfleociaaSuiD
namespace Go.Proofs.Ytabcbpcfleociaa
set_option linter.unusedSimpArgs false
set_option linter.unusedVariables false
/-- What a link's digest is the hash of. -/
def bytesL (l : Ln) : List UInt8 := numL l.au ++ numL l.sq ++ numL l.ep ++ textL l.pv ++ textL l.bd
/-- A link's digest, where 'hs' was hashed. -/
def digL (hs : List (List UInt8)) (l : Ln) : List UInt8 := hname (hs.idxOf (bytesL l) + 1)
theorem digL_len (hs : List (List UInt8)) (l : Ln) : (digL hs l).length = 32 := hname_len _
def lastDg (L : List Kn) : List UInt8 := (L.getLast?.map (·.dg)).getD []
def lastEp (L : List Kn) : Int := (L.getLast?.map (·.ep)).getD 0
/-- Why a link does not go on; 0: it does. -/
def checkE (S : Bk) (hs : List (List UInt8)) (l : Ln) : Int :=
  if rightL l then
    if l.sq ≤ (ofA S l.au).length then if (ofA S l.au)[(l.sq - 1).toNat]?.map (·.dg) = some (digL hs l) then 16 else 18
    else if ((ofA S l.au).length : Int) + 1 < l.sq then 15
    else if lastDg (ofA S l.au) = l.pv then if l.ep < lastEp (ofA S l.au) then 20 else 0
    else 17
  else 1
/-- What is hashed behind the look at a link. -/
def checkH (S : Bk) (hs : List (List UInt8)) (l : Ln) : List (List UInt8) := if rightL l ∧ l.sq ≤ (ofA S l.au).length then note hs (bytesL l) else hs
/-- What is made known of a link. -/
def knL (hs : List (List UInt8)) (l : Ln) : Kn := ⟨digL hs l, l.bd, l.ep⟩
def takeS (S : Bk) (hs : List (List UInt8)) (l : Ln) : Bk := if checkE S hs l = 0 then S ++ [(l.au, knL hs l)] else S
def takeH (S : Bk) (hs : List (List UInt8)) (l : Ln) : List (List UInt8) := if checkE S hs l = 0 then note hs (bytesL l) else checkH S hs l
theorem note_len (hs : List (List UInt8)) (b : List UInt8) : (note hs b).length ≤ hs.length + 1 := by unfold note; split <;> simp
theorem checkH_len (S : Bk) (hs : List (List UInt8)) (l : Ln) : (checkH S hs l).length ≤ hs.length + 1 := by
  unfold checkH
  split
  · exact note_len _ _
  · omega
theorem takeH_len (S : Bk) (hs : List (List UInt8)) (l : Ln) : (takeH S hs l).length ≤ hs.length + 1 := by
  unfold takeH
  split
  · exact note_len _ _
  · exact checkH_len _ _ _
theorem takeS_len (S : Bk) (hs : List (List UInt8)) (l : Ln) : (takeS S hs l).length ≤ S.length + 1 := by unfold takeS; split <;> simp
theorem checkE_right {S : Bk} {hs : List (List UInt8)} {l : Ln} (h : checkE S hs l = 0) : rightL l := by
  unfold checkE at h
  split at h
  · assumption
  · omega
theorem knL_ok (hs : List (List UInt8)) {l : Ln} (h : rightL l) : (knL hs l).ok := ⟨digL_len _ _, h.2.1, h.1.2.2.2.2.1, h.1.2.2.2.2.2⟩
theorem takeS_ok {S : Bk} (hS : S.ok) (hs : List (List UInt8)) (l : Ln) : (takeS S hs l).ok := by
  unfold takeS
  split
  · rename_i h
    have hr := checkE_right h
    exact hS.app ⟨hr.1.1, hr.1.2.1⟩ (knL_ok hs hr)
  · exact hS
theorem bytesL_len {l : Ln} (h : rightL l) : (bytesL l).length ≤ 100 := by
  have h1 := numL_len l.au
  have h2 := numL_len l.sq
  have h3 := numL_len l.ep
  have h4 := numL_len l.pv.length
  have h5 := numL_len l.bd.length
  obtain ⟨_, hb, hp⟩ := h
  unfold bytesL textL
  simp only [List.length_append]
  omega
end Go.Proofs.Ytabcbpcfleociaa
