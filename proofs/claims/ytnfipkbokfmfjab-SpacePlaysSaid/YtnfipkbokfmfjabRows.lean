/-
  No cell of these rows narrows 'for every input' (looked for: loops, veiled, ifaces, maps, wideKeys, modest, calm, conditions, laid).
  DERIVED. THE GIVEN ROWS OF THIS SEAT. 5 by the template 'for every input the law returns true; each argument reads behind the call as it read before'; 0 by the template 'total and deterministic' (their statements: YtnfipkbokfmfjabTotals.lean).
  GIVEN WITH THE SEED: the statements are not yours to turn. If you find one false, say at which input.
  Laid BY PROGRAM, IN A SANDBOX (cutbox-rows.mjs): the forced cells as the released guide's own fill.sh prints them over the translation 906585ff7d9276d8… (all of the seat's roots in one cut). By AI agents, Wed Nov 11 2026. No macro, syntax, notation, axiom, sorry.
-/
import Derived.Test.YtnfipkbokfmfjabChecked
import GoSem.Claim
import GoSem.ClaimJoined
import GoSem.ClaimMapViews
import Derived.JoinedTies
import Derived.KernelRfl
namespace Go.Proofs.Ytnfipkbokfmfjab
/- THE CELL 'sum', in the pinned program and in every row, IS THE sha256 OF THE DUMP (.gsa) THAT YtnfipkbokfmfjabProg.lean LOADS. Nothing in Lean hashes anything: it is a label: what it is worth is what the hold of that sum in a sandbox is worth. -/
noncomputable def Try.pinned : Pinned := { name := "ytnfipkbokfmfjab", sum := "906585ff7d9276d8b3e98013efdfdeb88ca97ab63116ce5894d884977fbc28d7", checked := Try.checked }
namespace Rows
def none {H : Type} : Left H := { results := [], args := [] }

/-- 'treeringlaw6.SpaceSegs': WHATEVER THE INPUT: true; the input reads as it did. -/
def spaceSegsSpec : ChangeSpec := { name := "spaceSegs", fn := fun _ => fun
  | [d1, d2] => { results := [.lit (.bool true)], args := [d1, d2] }
  | _ => none }
def spaceSegsRow : OpenClaim := { program := "ytnfipkbokfmfjab", sum := "906585ff7d9276d8b3e98013efdfdeb88ca97ab63116ce5894d884977fbc28d7", func := "treering/treeringlaw6.SpaceSegs", spec := "spaceSegs", apart := false }
def SpaceSegsSaid : Prop := spaceSegsRow.holds Try.pinned (OpenSpec.ofChange spaceSegsSpec)

/-- ITS FALSE NEIGHBOUR: 'it returns false'. Refute it at one input. -/
def spaceSegsWrong : ChangeSpec := { name := "spaceSegs", fn := fun _ => fun
  | [d1, d2] => { results := [.lit (.bool false)], args := [d1, d2] }
  | _ => none }
def SpaceSegsWrongFalsely : Prop := spaceSegsRow.holds Try.pinned (OpenSpec.ofChange spaceSegsWrong)

/-- 'treeringlaw6.SpaceClaims': WHATEVER THE INPUT: true; the input reads as it did. -/
def spaceClaimsSpec : ChangeSpec := { name := "spaceClaims", fn := fun _ => fun
  | [d1, d2] => { results := [.lit (.bool true)], args := [d1, d2] }
  | _ => none }
def spaceClaimsRow : OpenClaim := { program := "ytnfipkbokfmfjab", sum := "906585ff7d9276d8b3e98013efdfdeb88ca97ab63116ce5894d884977fbc28d7", func := "treering/treeringlaw6.SpaceClaims", spec := "spaceClaims", apart := false }
def SpaceClaimsSaid : Prop := spaceClaimsRow.holds Try.pinned (OpenSpec.ofChange spaceClaimsSpec)

/-- ITS FALSE NEIGHBOUR: 'it returns false'. Refute it at one input. -/
def spaceClaimsWrong : ChangeSpec := { name := "spaceClaims", fn := fun _ => fun
  | [d1, d2] => { results := [.lit (.bool false)], args := [d1, d2] }
  | _ => none }
def SpaceClaimsWrongFalsely : Prop := spaceClaimsRow.holds Try.pinned (OpenSpec.ofChange spaceClaimsWrong)

/-- 'treeringlaw6.SpaceAll': WHATEVER THE INPUT: true; the input reads as it did. -/
def spaceAllSpec : ChangeSpec := { name := "spaceAll", fn := fun _ => fun
  | [d1, d2] => { results := [.lit (.bool true)], args := [d1, d2] }
  | _ => none }
def spaceAllRow : OpenClaim := { program := "ytnfipkbokfmfjab", sum := "906585ff7d9276d8b3e98013efdfdeb88ca97ab63116ce5894d884977fbc28d7", func := "treering/treeringlaw6.SpaceAll", spec := "spaceAll", apart := false }
def SpaceAllSaid : Prop := spaceAllRow.holds Try.pinned (OpenSpec.ofChange spaceAllSpec)

/-- ITS FALSE NEIGHBOUR: 'it returns false'. Refute it at one input. -/
def spaceAllWrong : ChangeSpec := { name := "spaceAll", fn := fun _ => fun
  | [d1, d2] => { results := [.lit (.bool false)], args := [d1, d2] }
  | _ => none }
def SpaceAllWrongFalsely : Prop := spaceAllRow.holds Try.pinned (OpenSpec.ofChange spaceAllWrong)

/-- 'treeringlaw6.SpaceCopies': WHATEVER THE INPUT: true; the input reads as it did. -/
def spaceCopiesSpec : ChangeSpec := { name := "spaceCopies", fn := fun _ => fun
  | [d1, d2] => { results := [.lit (.bool true)], args := [d1, d2] }
  | _ => none }
def spaceCopiesRow : OpenClaim := { program := "ytnfipkbokfmfjab", sum := "906585ff7d9276d8b3e98013efdfdeb88ca97ab63116ce5894d884977fbc28d7", func := "treering/treeringlaw6.SpaceCopies", spec := "spaceCopies", apart := false }
def SpaceCopiesSaid : Prop := spaceCopiesRow.holds Try.pinned (OpenSpec.ofChange spaceCopiesSpec)

/-- ITS FALSE NEIGHBOUR: 'it returns false'. Refute it at one input. -/
def spaceCopiesWrong : ChangeSpec := { name := "spaceCopies", fn := fun _ => fun
  | [d1, d2] => { results := [.lit (.bool false)], args := [d1, d2] }
  | _ => none }
def SpaceCopiesWrongFalsely : Prop := spaceCopiesRow.holds Try.pinned (OpenSpec.ofChange spaceCopiesWrong)

/-- 'treeringlaw6.SpacePlays': WHATEVER THE INPUT: true; the input reads as it did. -/
def spacePlaysSpec : ChangeSpec := { name := "spacePlays", fn := fun _ => fun
  | [d1, d2] => { results := [.lit (.bool true)], args := [d1, d2] }
  | _ => none }
def spacePlaysRow : OpenClaim := { program := "ytnfipkbokfmfjab", sum := "906585ff7d9276d8b3e98013efdfdeb88ca97ab63116ce5894d884977fbc28d7", func := "treering/treeringlaw6.SpacePlays", spec := "spacePlays", apart := false }
def SpacePlaysSaid : Prop := spacePlaysRow.holds Try.pinned (OpenSpec.ofChange spacePlaysSpec)

/-- ITS FALSE NEIGHBOUR: 'it returns false'. Refute it at one input. -/
def spacePlaysWrong : ChangeSpec := { name := "spacePlays", fn := fun _ => fun
  | [d1, d2] => { results := [.lit (.bool false)], args := [d1, d2] }
  | _ => none }
def SpacePlaysWrongFalsely : Prop := spacePlaysRow.holds Try.pinned (OpenSpec.ofChange spacePlaysWrong)

/- THE SECOND FORM. 'bulk': how many values and letters a reading holds, each counted each time it is reached (what is shared counts as often as it is met; a slice's spare places count too). A statement '..UptoSaid' is the law's where the arguments, and the package variables that the reading takes, are together of bulk at most 1048576: NARROWER than '..Said'. Prove '..Said' where nothing that the law and all that it calls make is longer than what came in: it says more and counts as full. Else prove '..UptoSaid'. A law counts once. -/
mutual
def uptoBulk {H : Type} : DataW H → Nat
  | .lit (.string bytes) => bytes.length + 1
  | .lit _ => 1
  | .nil => 1
  | .ptr d => uptoBulk d + 1
  | .slice elems spare => uptoBulkAll elems + uptoBulkAll spare + 1
  | .agg parts => uptoBulkAll parts + 1
  | .iface _ d => uptoBulk d + 1
  | .map entries => uptoBulkEntries entries + 1
  | .held _ => 1
def uptoBulkAll {H : Type} : List (DataW H) → Nat
  | [] => 0
  | d :: r => uptoBulk d + uptoBulkAll r
def uptoBulkEntries {H : Type} : List (Lit × DataW H) → Nat
  | [] => 0
  | x :: r => uptoBulkEntry x + uptoBulkEntries r
def uptoBulkEntry {H : Type} : Lit × DataW H → Nat
  | (.string bytes, d) => bytes.length + uptoBulk d + 1
  | (_, d) => uptoBulk d + 1
 end
def uptoSmall : (H : Type) → List (DataW H) → Bool := fun _ ds => decide (uptoBulkAll ds ≤ 1048576)
def OpenSpec.upto (s : _root_.Go.ChangeSpec) : _root_.Go.OpenSpec := { _root_.Go.OpenSpec.ofChange s with cond := some uptoSmall }

/-- 'treeringlaw6.SpaceSegs', WHERE WHAT IT READS IS OF BULK AT MOST 1048576: true; the input reads as it did. -/
def spaceSegsUptoRow : OpenClaim := { program := "ytnfipkbokfmfjab", sum := "906585ff7d9276d8b3e98013efdfdeb88ca97ab63116ce5894d884977fbc28d7", func := "treering/treeringlaw6.SpaceSegs", spec := "spaceSegs", apart := false, narrowed := true }
def SpaceSegsUptoSaid : Prop := spaceSegsUptoRow.holds Try.pinned (OpenSpec.upto spaceSegsSpec)

/-- 'treeringlaw6.SpaceClaims', WHERE WHAT IT READS IS OF BULK AT MOST 1048576: true; the input reads as it did. -/
def spaceClaimsUptoRow : OpenClaim := { program := "ytnfipkbokfmfjab", sum := "906585ff7d9276d8b3e98013efdfdeb88ca97ab63116ce5894d884977fbc28d7", func := "treering/treeringlaw6.SpaceClaims", spec := "spaceClaims", apart := false, narrowed := true }
def SpaceClaimsUptoSaid : Prop := spaceClaimsUptoRow.holds Try.pinned (OpenSpec.upto spaceClaimsSpec)

/-- 'treeringlaw6.SpaceAll', WHERE WHAT IT READS IS OF BULK AT MOST 1048576: true; the input reads as it did. -/
def spaceAllUptoRow : OpenClaim := { program := "ytnfipkbokfmfjab", sum := "906585ff7d9276d8b3e98013efdfdeb88ca97ab63116ce5894d884977fbc28d7", func := "treering/treeringlaw6.SpaceAll", spec := "spaceAll", apart := false, narrowed := true }
def SpaceAllUptoSaid : Prop := spaceAllUptoRow.holds Try.pinned (OpenSpec.upto spaceAllSpec)

/-- 'treeringlaw6.SpaceCopies', WHERE WHAT IT READS IS OF BULK AT MOST 1048576: true; the input reads as it did. -/
def spaceCopiesUptoRow : OpenClaim := { program := "ytnfipkbokfmfjab", sum := "906585ff7d9276d8b3e98013efdfdeb88ca97ab63116ce5894d884977fbc28d7", func := "treering/treeringlaw6.SpaceCopies", spec := "spaceCopies", apart := false, narrowed := true }
def SpaceCopiesUptoSaid : Prop := spaceCopiesUptoRow.holds Try.pinned (OpenSpec.upto spaceCopiesSpec)

/-- 'treeringlaw6.SpacePlays', WHERE WHAT IT READS IS OF BULK AT MOST 1048576: true; the input reads as it did. -/
def spacePlaysUptoRow : OpenClaim := { program := "ytnfipkbokfmfjab", sum := "906585ff7d9276d8b3e98013efdfdeb88ca97ab63116ce5894d884977fbc28d7", func := "treering/treeringlaw6.SpacePlays", spec := "spacePlays", apart := false, narrowed := true }
def SpacePlaysUptoSaid : Prop := spacePlaysUptoRow.holds Try.pinned (OpenSpec.upto spacePlaysSpec)

end Rows
end Go.Proofs.Ytnfipkbokfmfjab
