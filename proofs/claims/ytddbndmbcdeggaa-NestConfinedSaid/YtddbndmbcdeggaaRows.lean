/-
  No cell of these rows narrows 'for every input' (looked for: loops, veiled, ifaces, maps, wideKeys, modest, calm, conditions, laid).
  DERIVED. THE GIVEN ROWS OF THIS SEAT. 9 by the template 'for every input the law returns true; each argument reads behind the call as it read before'; 0 by the template 'total and deterministic' (their statements: YtddbndmbcdeggaaTotals.lean).
  GIVEN WITH THE SEED: the statements are not yours to turn. If you find one false, say at which input.
  Laid BY PROGRAM, IN A SANDBOX (cutbox-rows.mjs): the forced cells as the released guide's own fill.sh prints them over the translation 2994511b56db6f11… (all of the seat's roots in one cut). By AI agents, Wed Nov 11 2026. No macro, syntax, notation, axiom, sorry.
-/
import Derived.Test.YtddbndmbcdeggaaChecked
import GoSem.Claim
import GoSem.ClaimJoined
import GoSem.ClaimMapViews
import Derived.JoinedTies
import Derived.KernelRfl
namespace Go.Proofs.Ytddbndmbcdeggaa
/- THE CELL 'sum', in the pinned program and in every row, IS THE sha256 OF THE DUMP (.gsa) THAT YtddbndmbcdeggaaProg.lean LOADS. Nothing in Lean hashes anything: it is a label: what it is worth is what the hold of that sum in a sandbox is worth. -/
noncomputable def Try.pinned : Pinned := { name := "ytddbndmbcdeggaa", sum := "2994511b56db6f11d9d438edd70f8f55356562ec4bcd7d5ffe1215366fe496e2", checked := Try.checked }
namespace Rows
def none {H : Type} : Left H := { results := [], args := [] }

/-- 'bulwarklaw5.WalkTables': WHATEVER THE INPUT: true; the input reads as it did. -/
def walkTablesSpec : ChangeSpec := { name := "walkTables", fn := fun _ => fun
  | [d] => { results := [.lit (.bool true)], args := [d] }
  | _ => none }
def walkTablesRow : OpenClaim := { program := "ytddbndmbcdeggaa", sum := "2994511b56db6f11d9d438edd70f8f55356562ec4bcd7d5ffe1215366fe496e2", func := "bulwark/bulwarklaw5.WalkTables", spec := "walkTables", unfollowed := true, recurses := true, apart := false }
def WalkTablesSaid : Prop := walkTablesRow.holds Try.pinned (OpenSpec.ofChange walkTablesSpec)

/-- ITS FALSE NEIGHBOUR: 'it returns false'. Refute it at one input. -/
def walkTablesWrong : ChangeSpec := { name := "walkTables", fn := fun _ => fun
  | [d] => { results := [.lit (.bool false)], args := [d] }
  | _ => none }
def WalkTablesWrongFalsely : Prop := walkTablesRow.holds Try.pinned (OpenSpec.ofChange walkTablesWrong)

/-- 'bulwarklaw5.WalkWalks': WHATEVER THE INPUT: true; the input reads as it did. -/
def walkWalksSpec : ChangeSpec := { name := "walkWalks", fn := fun _ => fun
  | [d] => { results := [.lit (.bool true)], args := [d] }
  | _ => none }
def walkWalksRow : OpenClaim := { program := "ytddbndmbcdeggaa", sum := "2994511b56db6f11d9d438edd70f8f55356562ec4bcd7d5ffe1215366fe496e2", func := "bulwark/bulwarklaw5.WalkWalks", spec := "walkWalks", unfollowed := true, recurses := true, apart := false }
def WalkWalksSaid : Prop := walkWalksRow.holds Try.pinned (OpenSpec.ofChange walkWalksSpec)

/-- ITS FALSE NEIGHBOUR: 'it returns false'. Refute it at one input. -/
def walkWalksWrong : ChangeSpec := { name := "walkWalks", fn := fun _ => fun
  | [d] => { results := [.lit (.bool false)], args := [d] }
  | _ => none }
def WalkWalksWrongFalsely : Prop := walkWalksRow.holds Try.pinned (OpenSpec.ofChange walkWalksWrong)

/-- 'bulwarklaw5.WalkFour': WHATEVER THE INPUT: true; the input reads as it did. -/
def walkFourSpec : ChangeSpec := { name := "walkFour", fn := fun _ => fun
  | [d] => { results := [.lit (.bool true)], args := [d] }
  | _ => none }
def walkFourRow : OpenClaim := { program := "ytddbndmbcdeggaa", sum := "2994511b56db6f11d9d438edd70f8f55356562ec4bcd7d5ffe1215366fe496e2", func := "bulwark/bulwarklaw5.WalkFour", spec := "walkFour", unfollowed := true, recurses := true, apart := false }
def WalkFourSaid : Prop := walkFourRow.holds Try.pinned (OpenSpec.ofChange walkFourSpec)

/-- ITS FALSE NEIGHBOUR: 'it returns false'. Refute it at one input. -/
def walkFourWrong : ChangeSpec := { name := "walkFour", fn := fun _ => fun
  | [d] => { results := [.lit (.bool false)], args := [d] }
  | _ => none }
def WalkFourWrongFalsely : Prop := walkFourRow.holds Try.pinned (OpenSpec.ofChange walkFourWrong)

/-- 'bulwarklaw7.NestMids': WHATEVER THE INPUT: true; the input reads as it did. -/
def nestMidsSpec : ChangeSpec := { name := "nestMids", fn := fun _ => fun
  | [d] => { results := [.lit (.bool true)], args := [d] }
  | _ => none }
def nestMidsRow : OpenClaim := { program := "ytddbndmbcdeggaa", sum := "2994511b56db6f11d9d438edd70f8f55356562ec4bcd7d5ffe1215366fe496e2", func := "bulwark/bulwarklaw7.NestMids", spec := "nestMids", unfollowed := true, recurses := true, apart := false }
def NestMidsSaid : Prop := nestMidsRow.holds Try.pinned (OpenSpec.ofChange nestMidsSpec)

/-- ITS FALSE NEIGHBOUR: 'it returns false'. Refute it at one input. -/
def nestMidsWrong : ChangeSpec := { name := "nestMids", fn := fun _ => fun
  | [d] => { results := [.lit (.bool false)], args := [d] }
  | _ => none }
def NestMidsWrongFalsely : Prop := nestMidsRow.holds Try.pinned (OpenSpec.ofChange nestMidsWrong)

/-- 'bulwarklaw7.NestTrans': WHATEVER THE INPUT: true; the input reads as it did. -/
def nestTransSpec : ChangeSpec := { name := "nestTrans", fn := fun _ => fun
  | [d] => { results := [.lit (.bool true)], args := [d] }
  | _ => none }
def nestTransRow : OpenClaim := { program := "ytddbndmbcdeggaa", sum := "2994511b56db6f11d9d438edd70f8f55356562ec4bcd7d5ffe1215366fe496e2", func := "bulwark/bulwarklaw7.NestTrans", spec := "nestTrans", unfollowed := true, recurses := true, apart := false }
def NestTransSaid : Prop := nestTransRow.holds Try.pinned (OpenSpec.ofChange nestTransSpec)

/-- ITS FALSE NEIGHBOUR: 'it returns false'. Refute it at one input. -/
def nestTransWrong : ChangeSpec := { name := "nestTrans", fn := fun _ => fun
  | [d] => { results := [.lit (.bool false)], args := [d] }
  | _ => none }
def NestTransWrongFalsely : Prop := nestTransRow.holds Try.pinned (OpenSpec.ofChange nestTransWrong)

/-- 'bulwarklaw7.NestConfined': WHATEVER THE INPUT: true; the input reads as it did. -/
def nestConfinedSpec : ChangeSpec := { name := "nestConfined", fn := fun _ => fun
  | [d] => { results := [.lit (.bool true)], args := [d] }
  | _ => none }
def nestConfinedRow : OpenClaim := { program := "ytddbndmbcdeggaa", sum := "2994511b56db6f11d9d438edd70f8f55356562ec4bcd7d5ffe1215366fe496e2", func := "bulwark/bulwarklaw7.NestConfined", spec := "nestConfined", unfollowed := true, recurses := true, apart := false }
def NestConfinedSaid : Prop := nestConfinedRow.holds Try.pinned (OpenSpec.ofChange nestConfinedSpec)

/-- ITS FALSE NEIGHBOUR: 'it returns false'. Refute it at one input. -/
def nestConfinedWrong : ChangeSpec := { name := "nestConfined", fn := fun _ => fun
  | [d] => { results := [.lit (.bool false)], args := [d] }
  | _ => none }
def NestConfinedWrongFalsely : Prop := nestConfinedRow.holds Try.pinned (OpenSpec.ofChange nestConfinedWrong)

/-- 'bulwarklaw7.NestReads': WHATEVER THE INPUT: true; the input reads as it did. -/
def nestReadsSpec : ChangeSpec := { name := "nestReads", fn := fun _ => fun
  | [d] => { results := [.lit (.bool true)], args := [d] }
  | _ => none }
def nestReadsRow : OpenClaim := { program := "ytddbndmbcdeggaa", sum := "2994511b56db6f11d9d438edd70f8f55356562ec4bcd7d5ffe1215366fe496e2", func := "bulwark/bulwarklaw7.NestReads", spec := "nestReads", unfollowed := true, recurses := true, apart := false }
def NestReadsSaid : Prop := nestReadsRow.holds Try.pinned (OpenSpec.ofChange nestReadsSpec)

/-- ITS FALSE NEIGHBOUR: 'it returns false'. Refute it at one input. -/
def nestReadsWrong : ChangeSpec := { name := "nestReads", fn := fun _ => fun
  | [d] => { results := [.lit (.bool false)], args := [d] }
  | _ => none }
def NestReadsWrongFalsely : Prop := nestReadsRow.holds Try.pinned (OpenSpec.ofChange nestReadsWrong)

/-- 'bulwarklaw7.NestWrites': WHATEVER THE INPUT: true; the input reads as it did. -/
def nestWritesSpec : ChangeSpec := { name := "nestWrites", fn := fun _ => fun
  | [d] => { results := [.lit (.bool true)], args := [d] }
  | _ => none }
def nestWritesRow : OpenClaim := { program := "ytddbndmbcdeggaa", sum := "2994511b56db6f11d9d438edd70f8f55356562ec4bcd7d5ffe1215366fe496e2", func := "bulwark/bulwarklaw7.NestWrites", spec := "nestWrites", unfollowed := true, recurses := true, apart := false }
def NestWritesSaid : Prop := nestWritesRow.holds Try.pinned (OpenSpec.ofChange nestWritesSpec)

/-- ITS FALSE NEIGHBOUR: 'it returns false'. Refute it at one input. -/
def nestWritesWrong : ChangeSpec := { name := "nestWrites", fn := fun _ => fun
  | [d] => { results := [.lit (.bool false)], args := [d] }
  | _ => none }
def NestWritesWrongFalsely : Prop := nestWritesRow.holds Try.pinned (OpenSpec.ofChange nestWritesWrong)

/-- 'bulwarklaw7.NestFetches': WHATEVER THE INPUT: true; the input reads as it did. -/
def nestFetchesSpec : ChangeSpec := { name := "nestFetches", fn := fun _ => fun
  | [d] => { results := [.lit (.bool true)], args := [d] }
  | _ => none }
def nestFetchesRow : OpenClaim := { program := "ytddbndmbcdeggaa", sum := "2994511b56db6f11d9d438edd70f8f55356562ec4bcd7d5ffe1215366fe496e2", func := "bulwark/bulwarklaw7.NestFetches", spec := "nestFetches", unfollowed := true, recurses := true, apart := false }
def NestFetchesSaid : Prop := nestFetchesRow.holds Try.pinned (OpenSpec.ofChange nestFetchesSpec)

/-- ITS FALSE NEIGHBOUR: 'it returns false'. Refute it at one input. -/
def nestFetchesWrong : ChangeSpec := { name := "nestFetches", fn := fun _ => fun
  | [d] => { results := [.lit (.bool false)], args := [d] }
  | _ => none }
def NestFetchesWrongFalsely : Prop := nestFetchesRow.holds Try.pinned (OpenSpec.ofChange nestFetchesWrong)

/- THE SECOND FORM. 'bulk': how many values and letters a reading holds, each counted each time it is reached (what is shared counts as often as it is met; a slice's spare places count too). A statement '..UptoSaid' is the law's where the arguments, and the package variables that the reading takes, are together of bulk at most 1048576: NARROWER than '..Said'. Prove '..Said' where nothing that the law and all that it calls make is longer than what came in: it says more and counts as full. Else prove '..UptoSaid'. A law counts once. -/
mutual
def uptoBulk {H : Type} : DataW H → Nat
  | .lit (.string bytes) => bytes.length + 1
  | .lit _ => 1
  | .nil => 1
  | .ptr d => uptoBulk d + 1
  | .slice elems spare => uptoBulkAll elems + uptoBulkAll spare + 1
  | .agg parts => uptoBulkAll parts + 1
  | .iface _ d => uptoBulk d + 1
  | .map entries => uptoBulkEntries entries + 1
  | .held _ => 1
def uptoBulkAll {H : Type} : List (DataW H) → Nat
  | [] => 0
  | d :: r => uptoBulk d + uptoBulkAll r
def uptoBulkEntries {H : Type} : List (Lit × DataW H) → Nat
  | [] => 0
  | x :: r => uptoBulkEntry x + uptoBulkEntries r
def uptoBulkEntry {H : Type} : Lit × DataW H → Nat
  | (.string bytes, d) => bytes.length + uptoBulk d + 1
  | (_, d) => uptoBulk d + 1
 end
def uptoSmall : (H : Type) → List (DataW H) → Bool := fun _ ds => decide (uptoBulkAll ds ≤ 1048576)
def OpenSpec.upto (s : _root_.Go.ChangeSpec) : _root_.Go.OpenSpec := { _root_.Go.OpenSpec.ofChange s with cond := some uptoSmall }

/-- 'bulwarklaw5.WalkTables', WHERE WHAT IT READS IS OF BULK AT MOST 1048576: true; the input reads as it did. -/
def walkTablesUptoRow : OpenClaim := { program := "ytddbndmbcdeggaa", sum := "2994511b56db6f11d9d438edd70f8f55356562ec4bcd7d5ffe1215366fe496e2", func := "bulwark/bulwarklaw5.WalkTables", spec := "walkTables", unfollowed := true, recurses := true, apart := false, narrowed := true }
def WalkTablesUptoSaid : Prop := walkTablesUptoRow.holds Try.pinned (OpenSpec.upto walkTablesSpec)

/-- 'bulwarklaw5.WalkWalks', WHERE WHAT IT READS IS OF BULK AT MOST 1048576: true; the input reads as it did. -/
def walkWalksUptoRow : OpenClaim := { program := "ytddbndmbcdeggaa", sum := "2994511b56db6f11d9d438edd70f8f55356562ec4bcd7d5ffe1215366fe496e2", func := "bulwark/bulwarklaw5.WalkWalks", spec := "walkWalks", unfollowed := true, recurses := true, apart := false, narrowed := true }
def WalkWalksUptoSaid : Prop := walkWalksUptoRow.holds Try.pinned (OpenSpec.upto walkWalksSpec)

/-- 'bulwarklaw5.WalkFour', WHERE WHAT IT READS IS OF BULK AT MOST 1048576: true; the input reads as it did. -/
def walkFourUptoRow : OpenClaim := { program := "ytddbndmbcdeggaa", sum := "2994511b56db6f11d9d438edd70f8f55356562ec4bcd7d5ffe1215366fe496e2", func := "bulwark/bulwarklaw5.WalkFour", spec := "walkFour", unfollowed := true, recurses := true, apart := false, narrowed := true }
def WalkFourUptoSaid : Prop := walkFourUptoRow.holds Try.pinned (OpenSpec.upto walkFourSpec)

/-- 'bulwarklaw7.NestMids', WHERE WHAT IT READS IS OF BULK AT MOST 1048576: true; the input reads as it did. -/
def nestMidsUptoRow : OpenClaim := { program := "ytddbndmbcdeggaa", sum := "2994511b56db6f11d9d438edd70f8f55356562ec4bcd7d5ffe1215366fe496e2", func := "bulwark/bulwarklaw7.NestMids", spec := "nestMids", unfollowed := true, recurses := true, apart := false, narrowed := true }
def NestMidsUptoSaid : Prop := nestMidsUptoRow.holds Try.pinned (OpenSpec.upto nestMidsSpec)

/-- 'bulwarklaw7.NestTrans', WHERE WHAT IT READS IS OF BULK AT MOST 1048576: true; the input reads as it did. -/
def nestTransUptoRow : OpenClaim := { program := "ytddbndmbcdeggaa", sum := "2994511b56db6f11d9d438edd70f8f55356562ec4bcd7d5ffe1215366fe496e2", func := "bulwark/bulwarklaw7.NestTrans", spec := "nestTrans", unfollowed := true, recurses := true, apart := false, narrowed := true }
def NestTransUptoSaid : Prop := nestTransUptoRow.holds Try.pinned (OpenSpec.upto nestTransSpec)

/-- 'bulwarklaw7.NestConfined', WHERE WHAT IT READS IS OF BULK AT MOST 1048576: true; the input reads as it did. -/
def nestConfinedUptoRow : OpenClaim := { program := "ytddbndmbcdeggaa", sum := "2994511b56db6f11d9d438edd70f8f55356562ec4bcd7d5ffe1215366fe496e2", func := "bulwark/bulwarklaw7.NestConfined", spec := "nestConfined", unfollowed := true, recurses := true, apart := false, narrowed := true }
def NestConfinedUptoSaid : Prop := nestConfinedUptoRow.holds Try.pinned (OpenSpec.upto nestConfinedSpec)

/-- 'bulwarklaw7.NestReads', WHERE WHAT IT READS IS OF BULK AT MOST 1048576: true; the input reads as it did. -/
def nestReadsUptoRow : OpenClaim := { program := "ytddbndmbcdeggaa", sum := "2994511b56db6f11d9d438edd70f8f55356562ec4bcd7d5ffe1215366fe496e2", func := "bulwark/bulwarklaw7.NestReads", spec := "nestReads", unfollowed := true, recurses := true, apart := false, narrowed := true }
def NestReadsUptoSaid : Prop := nestReadsUptoRow.holds Try.pinned (OpenSpec.upto nestReadsSpec)

/-- 'bulwarklaw7.NestWrites', WHERE WHAT IT READS IS OF BULK AT MOST 1048576: true; the input reads as it did. -/
def nestWritesUptoRow : OpenClaim := { program := "ytddbndmbcdeggaa", sum := "2994511b56db6f11d9d438edd70f8f55356562ec4bcd7d5ffe1215366fe496e2", func := "bulwark/bulwarklaw7.NestWrites", spec := "nestWrites", unfollowed := true, recurses := true, apart := false, narrowed := true }
def NestWritesUptoSaid : Prop := nestWritesUptoRow.holds Try.pinned (OpenSpec.upto nestWritesSpec)

/-- 'bulwarklaw7.NestFetches', WHERE WHAT IT READS IS OF BULK AT MOST 1048576: true; the input reads as it did. -/
def nestFetchesUptoRow : OpenClaim := { program := "ytddbndmbcdeggaa", sum := "2994511b56db6f11d9d438edd70f8f55356562ec4bcd7d5ffe1215366fe496e2", func := "bulwark/bulwarklaw7.NestFetches", spec := "nestFetches", unfollowed := true, recurses := true, apart := false, narrowed := true }
def NestFetchesUptoSaid : Prop := nestFetchesUptoRow.holds Try.pinned (OpenSpec.upto nestFetchesSpec)

end Rows
end Go.Proofs.Ytddbndmbcdeggaa
