/-
  No cell of these rows narrows 'for every input' (looked for: loops, veiled, ifaces, maps, wideKeys, modest, calm, conditions, laid).
  DERIVED. THE GIVEN ROWS OF THIS SEAT. 11 by the template 'for every input the law returns true; each argument reads behind the call as it read before'; 0 by the template 'total and deterministic' (their statements: YtiapjaaaoeoaeaaTotals.lean).
  GIVEN WITH THE SEED: the statements are not yours to turn. If you find one false, say at which input.
  Laid BY PROGRAM, IN A SANDBOX (cutbox-rows.mjs): the forced cells as the released guide's own fill.sh prints them over the translation aba8d72e4eb3fd8c… (all of the seat's roots in one cut). By AI agents, Wed Nov 11 2026. No macro, syntax, notation, axiom, sorry.
-/
import Derived.Test.YtiapjaaaoeoaeaaChecked
import GoSem.Claim
import GoSem.ClaimJoined
import GoSem.ClaimMapViews
import Derived.JoinedTies
import Derived.KernelRfl
namespace Go.Proofs.Ytiapjaaaoeoaeaa
/- THE CELL 'sum', in the pinned program and in every row, IS THE sha256 OF THE DUMP (.gsa) THAT YtiapjaaaoeoaeaaProg.lean LOADS. Nothing in Lean hashes anything: it is a label: what it is worth is what the hold of that sum in a sandbox is worth. -/
noncomputable def Try.pinned : Pinned := { name := "ytiapjaaaoeoaeaa", sum := "aba8d72e4eb3fd8ce7c122e63174ed51aa2c84746cd01c6b26bc22ffeaa58ee1", checked := Try.checked }
namespace Rows
def none {H : Type} : Left H := { results := [], args := [] }

/-- 'bulwarklaw3.DescWords': WHATEVER THE INPUT: true; the input reads as it did. -/
def descWordsSpec : ChangeSpec := { name := "descWords", fn := fun _ => fun
  | [d] => { results := [.lit (.bool true)], args := [d] }
  | _ => none }
def descWordsRow : OpenClaim := { program := "ytiapjaaaoeoaeaa", sum := "aba8d72e4eb3fd8ce7c122e63174ed51aa2c84746cd01c6b26bc22ffeaa58ee1", func := "bulwark/bulwarklaw3.DescWords", spec := "descWords", apart := false }
def DescWordsSaid : Prop := descWordsRow.holds Try.pinned (OpenSpec.ofChange descWordsSpec)

/-- ITS FALSE NEIGHBOUR: 'it returns false'. Refute it at one input. -/
def descWordsWrong : ChangeSpec := { name := "descWords", fn := fun _ => fun
  | [d] => { results := [.lit (.bool false)], args := [d] }
  | _ => none }
def DescWordsWrongFalsely : Prop := descWordsRow.holds Try.pinned (OpenSpec.ofChange descWordsWrong)

/-- 'bulwarklaw3.DescOfs': WHATEVER THE INPUT: true; the input reads as it did. -/
def descOfsSpec : ChangeSpec := { name := "descOfs", fn := fun _ => fun
  | [d] => { results := [.lit (.bool true)], args := [d] }
  | _ => none }
def descOfsRow : OpenClaim := { program := "ytiapjaaaoeoaeaa", sum := "aba8d72e4eb3fd8ce7c122e63174ed51aa2c84746cd01c6b26bc22ffeaa58ee1", func := "bulwark/bulwarklaw3.DescOfs", spec := "descOfs", unfollowed := true, recurses := true, apart := false }
def DescOfsSaid : Prop := descOfsRow.holds Try.pinned (OpenSpec.ofChange descOfsSpec)

/-- ITS FALSE NEIGHBOUR: 'it returns false'. Refute it at one input. -/
def descOfsWrong : ChangeSpec := { name := "descOfs", fn := fun _ => fun
  | [d] => { results := [.lit (.bool false)], args := [d] }
  | _ => none }
def DescOfsWrongFalsely : Prop := descOfsRow.holds Try.pinned (OpenSpec.ofChange descOfsWrong)

/-- 'bulwarklaw3.DescBack': WHATEVER THE INPUT: true; the input reads as it did. -/
def descBackSpec : ChangeSpec := { name := "descBack", fn := fun _ => fun
  | [d] => { results := [.lit (.bool true)], args := [d] }
  | _ => none }
def descBackRow : OpenClaim := { program := "ytiapjaaaoeoaeaa", sum := "aba8d72e4eb3fd8ce7c122e63174ed51aa2c84746cd01c6b26bc22ffeaa58ee1", func := "bulwark/bulwarklaw3.DescBack", spec := "descBack", unfollowed := true, recurses := true, apart := false }
def DescBackSaid : Prop := descBackRow.holds Try.pinned (OpenSpec.ofChange descBackSpec)

/-- ITS FALSE NEIGHBOUR: 'it returns false'. Refute it at one input. -/
def descBackWrong : ChangeSpec := { name := "descBack", fn := fun _ => fun
  | [d] => { results := [.lit (.bool false)], args := [d] }
  | _ => none }
def DescBackWrongFalsely : Prop := descBackRow.holds Try.pinned (OpenSpec.ofChange descBackWrong)

/-- 'bulwarklaw3.DescOneZero': WHATEVER THE INPUT: true; the input reads as it did. -/
def descOneZeroSpec : ChangeSpec := { name := "descOneZero", fn := fun _ => fun
  | [d] => { results := [.lit (.bool true)], args := [d] }
  | _ => none }
def descOneZeroRow : OpenClaim := { program := "ytiapjaaaoeoaeaa", sum := "aba8d72e4eb3fd8ce7c122e63174ed51aa2c84746cd01c6b26bc22ffeaa58ee1", func := "bulwark/bulwarklaw3.DescOneZero", spec := "descOneZero", unfollowed := true, recurses := true, apart := false }
def DescOneZeroSaid : Prop := descOneZeroRow.holds Try.pinned (OpenSpec.ofChange descOneZeroSpec)

/-- ITS FALSE NEIGHBOUR: 'it returns false'. Refute it at one input. -/
def descOneZeroWrong : ChangeSpec := { name := "descOneZero", fn := fun _ => fun
  | [d] => { results := [.lit (.bool false)], args := [d] }
  | _ => none }
def DescOneZeroWrongFalsely : Prop := descOneZeroRow.holds Try.pinned (OpenSpec.ofChange descOneZeroWrong)

/-- 'bulwarklaw3.DescOneFirst': WHATEVER THE INPUT: true; the input reads as it did. -/
def descOneFirstSpec : ChangeSpec := { name := "descOneFirst", fn := fun _ => fun
  | [d] => { results := [.lit (.bool true)], args := [d] }
  | _ => none }
def descOneFirstRow : OpenClaim := { program := "ytiapjaaaoeoaeaa", sum := "aba8d72e4eb3fd8ce7c122e63174ed51aa2c84746cd01c6b26bc22ffeaa58ee1", func := "bulwark/bulwarklaw3.DescOneFirst", spec := "descOneFirst", unfollowed := true, recurses := true, apart := false }
def DescOneFirstSaid : Prop := descOneFirstRow.holds Try.pinned (OpenSpec.ofChange descOneFirstSpec)

/-- ITS FALSE NEIGHBOUR: 'it returns false'. Refute it at one input. -/
def descOneFirstWrong : ChangeSpec := { name := "descOneFirst", fn := fun _ => fun
  | [d] => { results := [.lit (.bool false)], args := [d] }
  | _ => none }
def DescOneFirstWrongFalsely : Prop := descOneFirstRow.holds Try.pinned (OpenSpec.ofChange descOneFirstWrong)

/-- 'bulwarklaw3.DescOneSecond': WHATEVER THE INPUT: true; the input reads as it did. -/
def descOneSecondSpec : ChangeSpec := { name := "descOneSecond", fn := fun _ => fun
  | [d] => { results := [.lit (.bool true)], args := [d] }
  | _ => none }
def descOneSecondRow : OpenClaim := { program := "ytiapjaaaoeoaeaa", sum := "aba8d72e4eb3fd8ce7c122e63174ed51aa2c84746cd01c6b26bc22ffeaa58ee1", func := "bulwark/bulwarklaw3.DescOneSecond", spec := "descOneSecond", unfollowed := true, recurses := true, apart := false }
def DescOneSecondSaid : Prop := descOneSecondRow.holds Try.pinned (OpenSpec.ofChange descOneSecondSpec)

/-- ITS FALSE NEIGHBOUR: 'it returns false'. Refute it at one input. -/
def descOneSecondWrong : ChangeSpec := { name := "descOneSecond", fn := fun _ => fun
  | [d] => { results := [.lit (.bool false)], args := [d] }
  | _ => none }
def DescOneSecondWrongFalsely : Prop := descOneSecondRow.holds Try.pinned (OpenSpec.ofChange descOneSecondWrong)

/-- 'bulwarklaw3.DescOneThird': WHATEVER THE INPUT: true; the input reads as it did. -/
def descOneThirdSpec : ChangeSpec := { name := "descOneThird", fn := fun _ => fun
  | [d] => { results := [.lit (.bool true)], args := [d] }
  | _ => none }
def descOneThirdRow : OpenClaim := { program := "ytiapjaaaoeoaeaa", sum := "aba8d72e4eb3fd8ce7c122e63174ed51aa2c84746cd01c6b26bc22ffeaa58ee1", func := "bulwark/bulwarklaw3.DescOneThird", spec := "descOneThird", unfollowed := true, recurses := true, apart := false }
def DescOneThirdSaid : Prop := descOneThirdRow.holds Try.pinned (OpenSpec.ofChange descOneThirdSpec)

/-- ITS FALSE NEIGHBOUR: 'it returns false'. Refute it at one input. -/
def descOneThirdWrong : ChangeSpec := { name := "descOneThird", fn := fun _ => fun
  | [d] => { results := [.lit (.bool false)], args := [d] }
  | _ => none }
def DescOneThirdWrongFalsely : Prop := descOneThirdRow.holds Try.pinned (OpenSpec.ofChange descOneThirdWrong)

/-- 'bulwarklaw3.DescTwoZero': WHATEVER THE INPUT: true; the input reads as it did. -/
def descTwoZeroSpec : ChangeSpec := { name := "descTwoZero", fn := fun _ => fun
  | [d] => { results := [.lit (.bool true)], args := [d] }
  | _ => none }
def descTwoZeroRow : OpenClaim := { program := "ytiapjaaaoeoaeaa", sum := "aba8d72e4eb3fd8ce7c122e63174ed51aa2c84746cd01c6b26bc22ffeaa58ee1", func := "bulwark/bulwarklaw3.DescTwoZero", spec := "descTwoZero", unfollowed := true, recurses := true, apart := false }
def DescTwoZeroSaid : Prop := descTwoZeroRow.holds Try.pinned (OpenSpec.ofChange descTwoZeroSpec)

/-- ITS FALSE NEIGHBOUR: 'it returns false'. Refute it at one input. -/
def descTwoZeroWrong : ChangeSpec := { name := "descTwoZero", fn := fun _ => fun
  | [d] => { results := [.lit (.bool false)], args := [d] }
  | _ => none }
def DescTwoZeroWrongFalsely : Prop := descTwoZeroRow.holds Try.pinned (OpenSpec.ofChange descTwoZeroWrong)

/-- 'bulwarklaw3.DescTwoFirst': WHATEVER THE INPUT: true; the input reads as it did. -/
def descTwoFirstSpec : ChangeSpec := { name := "descTwoFirst", fn := fun _ => fun
  | [d] => { results := [.lit (.bool true)], args := [d] }
  | _ => none }
def descTwoFirstRow : OpenClaim := { program := "ytiapjaaaoeoaeaa", sum := "aba8d72e4eb3fd8ce7c122e63174ed51aa2c84746cd01c6b26bc22ffeaa58ee1", func := "bulwark/bulwarklaw3.DescTwoFirst", spec := "descTwoFirst", unfollowed := true, recurses := true, apart := false }
def DescTwoFirstSaid : Prop := descTwoFirstRow.holds Try.pinned (OpenSpec.ofChange descTwoFirstSpec)

/-- ITS FALSE NEIGHBOUR: 'it returns false'. Refute it at one input. -/
def descTwoFirstWrong : ChangeSpec := { name := "descTwoFirst", fn := fun _ => fun
  | [d] => { results := [.lit (.bool false)], args := [d] }
  | _ => none }
def DescTwoFirstWrongFalsely : Prop := descTwoFirstRow.holds Try.pinned (OpenSpec.ofChange descTwoFirstWrong)

/-- 'bulwarklaw3.DescTwoSecond': WHATEVER THE INPUT: true; the input reads as it did. -/
def descTwoSecondSpec : ChangeSpec := { name := "descTwoSecond", fn := fun _ => fun
  | [d] => { results := [.lit (.bool true)], args := [d] }
  | _ => none }
def descTwoSecondRow : OpenClaim := { program := "ytiapjaaaoeoaeaa", sum := "aba8d72e4eb3fd8ce7c122e63174ed51aa2c84746cd01c6b26bc22ffeaa58ee1", func := "bulwark/bulwarklaw3.DescTwoSecond", spec := "descTwoSecond", unfollowed := true, recurses := true, apart := false }
def DescTwoSecondSaid : Prop := descTwoSecondRow.holds Try.pinned (OpenSpec.ofChange descTwoSecondSpec)

/-- ITS FALSE NEIGHBOUR: 'it returns false'. Refute it at one input. -/
def descTwoSecondWrong : ChangeSpec := { name := "descTwoSecond", fn := fun _ => fun
  | [d] => { results := [.lit (.bool false)], args := [d] }
  | _ => none }
def DescTwoSecondWrongFalsely : Prop := descTwoSecondRow.holds Try.pinned (OpenSpec.ofChange descTwoSecondWrong)

/-- 'bulwarklaw3.DescTwoThird': WHATEVER THE INPUT: true; the input reads as it did. -/
def descTwoThirdSpec : ChangeSpec := { name := "descTwoThird", fn := fun _ => fun
  | [d] => { results := [.lit (.bool true)], args := [d] }
  | _ => none }
def descTwoThirdRow : OpenClaim := { program := "ytiapjaaaoeoaeaa", sum := "aba8d72e4eb3fd8ce7c122e63174ed51aa2c84746cd01c6b26bc22ffeaa58ee1", func := "bulwark/bulwarklaw3.DescTwoThird", spec := "descTwoThird", unfollowed := true, recurses := true, apart := false }
def DescTwoThirdSaid : Prop := descTwoThirdRow.holds Try.pinned (OpenSpec.ofChange descTwoThirdSpec)

/-- ITS FALSE NEIGHBOUR: 'it returns false'. Refute it at one input. -/
def descTwoThirdWrong : ChangeSpec := { name := "descTwoThird", fn := fun _ => fun
  | [d] => { results := [.lit (.bool false)], args := [d] }
  | _ => none }
def DescTwoThirdWrongFalsely : Prop := descTwoThirdRow.holds Try.pinned (OpenSpec.ofChange descTwoThirdWrong)

/- THE SECOND FORM. 'bulk': how many values and letters a reading holds, each counted each time it is reached (what is shared counts as often as it is met; a slice's spare places count too). A statement '..UptoSaid' is the law's where the arguments, and the package variables that the reading takes, are together of bulk at most 1048576: NARROWER than '..Said'. Prove '..Said' where nothing that the law and all that it calls make is longer than what came in: it says more and counts as full. Else prove '..UptoSaid'. A law counts once. -/
mutual
def uptoBulk {H : Type} : DataW H → Nat
  | .lit (.string bytes) => bytes.length + 1
  | .lit _ => 1
  | .nil => 1
  | .ptr d => uptoBulk d + 1
  | .slice elems spare => uptoBulkAll elems + uptoBulkAll spare + 1
  | .agg parts => uptoBulkAll parts + 1
  | .iface _ d => uptoBulk d + 1
  | .map entries => uptoBulkEntries entries + 1
  | .held _ => 1
def uptoBulkAll {H : Type} : List (DataW H) → Nat
  | [] => 0
  | d :: r => uptoBulk d + uptoBulkAll r
def uptoBulkEntries {H : Type} : List (Lit × DataW H) → Nat
  | [] => 0
  | x :: r => uptoBulkEntry x + uptoBulkEntries r
def uptoBulkEntry {H : Type} : Lit × DataW H → Nat
  | (.string bytes, d) => bytes.length + uptoBulk d + 1
  | (_, d) => uptoBulk d + 1
 end
def uptoSmall : (H : Type) → List (DataW H) → Bool := fun _ ds => decide (uptoBulkAll ds ≤ 1048576)
def OpenSpec.upto (s : _root_.Go.ChangeSpec) : _root_.Go.OpenSpec := { _root_.Go.OpenSpec.ofChange s with cond := some uptoSmall }

/-- 'bulwarklaw3.DescWords', WHERE WHAT IT READS IS OF BULK AT MOST 1048576: true; the input reads as it did. -/
def descWordsUptoRow : OpenClaim := { program := "ytiapjaaaoeoaeaa", sum := "aba8d72e4eb3fd8ce7c122e63174ed51aa2c84746cd01c6b26bc22ffeaa58ee1", func := "bulwark/bulwarklaw3.DescWords", spec := "descWords", apart := false, narrowed := true }
def DescWordsUptoSaid : Prop := descWordsUptoRow.holds Try.pinned (OpenSpec.upto descWordsSpec)

/-- 'bulwarklaw3.DescOfs', WHERE WHAT IT READS IS OF BULK AT MOST 1048576: true; the input reads as it did. -/
def descOfsUptoRow : OpenClaim := { program := "ytiapjaaaoeoaeaa", sum := "aba8d72e4eb3fd8ce7c122e63174ed51aa2c84746cd01c6b26bc22ffeaa58ee1", func := "bulwark/bulwarklaw3.DescOfs", spec := "descOfs", unfollowed := true, recurses := true, apart := false, narrowed := true }
def DescOfsUptoSaid : Prop := descOfsUptoRow.holds Try.pinned (OpenSpec.upto descOfsSpec)

/-- 'bulwarklaw3.DescBack', WHERE WHAT IT READS IS OF BULK AT MOST 1048576: true; the input reads as it did. -/
def descBackUptoRow : OpenClaim := { program := "ytiapjaaaoeoaeaa", sum := "aba8d72e4eb3fd8ce7c122e63174ed51aa2c84746cd01c6b26bc22ffeaa58ee1", func := "bulwark/bulwarklaw3.DescBack", spec := "descBack", unfollowed := true, recurses := true, apart := false, narrowed := true }
def DescBackUptoSaid : Prop := descBackUptoRow.holds Try.pinned (OpenSpec.upto descBackSpec)

/-- 'bulwarklaw3.DescOneZero', WHERE WHAT IT READS IS OF BULK AT MOST 1048576: true; the input reads as it did. -/
def descOneZeroUptoRow : OpenClaim := { program := "ytiapjaaaoeoaeaa", sum := "aba8d72e4eb3fd8ce7c122e63174ed51aa2c84746cd01c6b26bc22ffeaa58ee1", func := "bulwark/bulwarklaw3.DescOneZero", spec := "descOneZero", unfollowed := true, recurses := true, apart := false, narrowed := true }
def DescOneZeroUptoSaid : Prop := descOneZeroUptoRow.holds Try.pinned (OpenSpec.upto descOneZeroSpec)

/-- 'bulwarklaw3.DescOneFirst', WHERE WHAT IT READS IS OF BULK AT MOST 1048576: true; the input reads as it did. -/
def descOneFirstUptoRow : OpenClaim := { program := "ytiapjaaaoeoaeaa", sum := "aba8d72e4eb3fd8ce7c122e63174ed51aa2c84746cd01c6b26bc22ffeaa58ee1", func := "bulwark/bulwarklaw3.DescOneFirst", spec := "descOneFirst", unfollowed := true, recurses := true, apart := false, narrowed := true }
def DescOneFirstUptoSaid : Prop := descOneFirstUptoRow.holds Try.pinned (OpenSpec.upto descOneFirstSpec)

/-- 'bulwarklaw3.DescOneSecond', WHERE WHAT IT READS IS OF BULK AT MOST 1048576: true; the input reads as it did. -/
def descOneSecondUptoRow : OpenClaim := { program := "ytiapjaaaoeoaeaa", sum := "aba8d72e4eb3fd8ce7c122e63174ed51aa2c84746cd01c6b26bc22ffeaa58ee1", func := "bulwark/bulwarklaw3.DescOneSecond", spec := "descOneSecond", unfollowed := true, recurses := true, apart := false, narrowed := true }
def DescOneSecondUptoSaid : Prop := descOneSecondUptoRow.holds Try.pinned (OpenSpec.upto descOneSecondSpec)

/-- 'bulwarklaw3.DescOneThird', WHERE WHAT IT READS IS OF BULK AT MOST 1048576: true; the input reads as it did. -/
def descOneThirdUptoRow : OpenClaim := { program := "ytiapjaaaoeoaeaa", sum := "aba8d72e4eb3fd8ce7c122e63174ed51aa2c84746cd01c6b26bc22ffeaa58ee1", func := "bulwark/bulwarklaw3.DescOneThird", spec := "descOneThird", unfollowed := true, recurses := true, apart := false, narrowed := true }
def DescOneThirdUptoSaid : Prop := descOneThirdUptoRow.holds Try.pinned (OpenSpec.upto descOneThirdSpec)

/-- 'bulwarklaw3.DescTwoZero', WHERE WHAT IT READS IS OF BULK AT MOST 1048576: true; the input reads as it did. -/
def descTwoZeroUptoRow : OpenClaim := { program := "ytiapjaaaoeoaeaa", sum := "aba8d72e4eb3fd8ce7c122e63174ed51aa2c84746cd01c6b26bc22ffeaa58ee1", func := "bulwark/bulwarklaw3.DescTwoZero", spec := "descTwoZero", unfollowed := true, recurses := true, apart := false, narrowed := true }
def DescTwoZeroUptoSaid : Prop := descTwoZeroUptoRow.holds Try.pinned (OpenSpec.upto descTwoZeroSpec)

/-- 'bulwarklaw3.DescTwoFirst', WHERE WHAT IT READS IS OF BULK AT MOST 1048576: true; the input reads as it did. -/
def descTwoFirstUptoRow : OpenClaim := { program := "ytiapjaaaoeoaeaa", sum := "aba8d72e4eb3fd8ce7c122e63174ed51aa2c84746cd01c6b26bc22ffeaa58ee1", func := "bulwark/bulwarklaw3.DescTwoFirst", spec := "descTwoFirst", unfollowed := true, recurses := true, apart := false, narrowed := true }
def DescTwoFirstUptoSaid : Prop := descTwoFirstUptoRow.holds Try.pinned (OpenSpec.upto descTwoFirstSpec)

/-- 'bulwarklaw3.DescTwoSecond', WHERE WHAT IT READS IS OF BULK AT MOST 1048576: true; the input reads as it did. -/
def descTwoSecondUptoRow : OpenClaim := { program := "ytiapjaaaoeoaeaa", sum := "aba8d72e4eb3fd8ce7c122e63174ed51aa2c84746cd01c6b26bc22ffeaa58ee1", func := "bulwark/bulwarklaw3.DescTwoSecond", spec := "descTwoSecond", unfollowed := true, recurses := true, apart := false, narrowed := true }
def DescTwoSecondUptoSaid : Prop := descTwoSecondUptoRow.holds Try.pinned (OpenSpec.upto descTwoSecondSpec)

/-- 'bulwarklaw3.DescTwoThird', WHERE WHAT IT READS IS OF BULK AT MOST 1048576: true; the input reads as it did. -/
def descTwoThirdUptoRow : OpenClaim := { program := "ytiapjaaaoeoaeaa", sum := "aba8d72e4eb3fd8ce7c122e63174ed51aa2c84746cd01c6b26bc22ffeaa58ee1", func := "bulwark/bulwarklaw3.DescTwoThird", spec := "descTwoThird", unfollowed := true, recurses := true, apart := false, narrowed := true }
def DescTwoThirdUptoSaid : Prop := descTwoThirdUptoRow.holds Try.pinned (OpenSpec.upto descTwoThirdSpec)

end Rows
end Go.Proofs.Ytiapjaaaoeoaeaa
