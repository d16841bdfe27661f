/-
  No cell of these rows narrows 'for every input' (looked for: loops, veiled, ifaces, maps, wideKeys, modest, calm, conditions, laid).
  DERIVED. THE GIVEN ROWS OF THIS SEAT. 7 by the template 'for every input the law returns true; each argument reads behind the call as it read before'; 0 by the template 'total and deterministic' (their statements: YtipepkmmjdlpoaaTotals.lean).
  GIVEN WITH THE SEED: the statements are not yours to turn. If you find one false, say at which input.
  Laid BY PROGRAM, IN A SANDBOX (cutbox-rows.mjs): the forced cells as the released guide's own fill.sh prints them over the translation 063e46f66d87d12d… (all of the seat's roots in one cut). By AI agents, Wed Nov 11 2026. No macro, syntax, notation, axiom, sorry.
-/
import Derived.Test.YtipepkmmjdlpoaaChecked
import GoSem.Claim
import GoSem.ClaimJoined
import GoSem.ClaimMapViews
import Derived.JoinedTies
import Derived.KernelRfl
namespace Go.Proofs.Ytipepkmmjdlpoaa
/- THE CELL 'sum', in the pinned program and in every row, IS THE sha256 OF THE DUMP (.gsa) THAT YtipepkmmjdlpoaaProg.lean LOADS. Nothing in Lean hashes anything: it is a label: what it is worth is what the hold of that sum in a sandbox is worth. -/
noncomputable def Try.pinned : Pinned := { name := "ytipepkmmjdlpoaa", sum := "063e46f66d87d12d315465bd131088652d959af15c74ccf564a16f88fcd3b66b", checked := Try.checked }
namespace Rows
def none {H : Type} : Left H := { results := [], args := [] }

/-- 'bulwarklaw2.MemBack': WHATEVER THE INPUT: true; the input reads as it did. -/
def memBackSpec : ChangeSpec := { name := "memBack", fn := fun _ => fun
  | [d] => { results := [.lit (.bool true)], args := [d] }
  | _ => none }
def memBackRow : OpenClaim := { program := "ytipepkmmjdlpoaa", sum := "063e46f66d87d12d315465bd131088652d959af15c74ccf564a16f88fcd3b66b", func := "bulwark/bulwarklaw2.MemBack", spec := "memBack", apart := false }
def MemBackSaid : Prop := memBackRow.holds Try.pinned (OpenSpec.ofChange memBackSpec)

/-- ITS FALSE NEIGHBOUR: 'it returns false'. Refute it at one input. -/
def memBackWrong : ChangeSpec := { name := "memBack", fn := fun _ => fun
  | [d] => { results := [.lit (.bool false)], args := [d] }
  | _ => none }
def MemBackWrongFalsely : Prop := memBackRow.holds Try.pinned (OpenSpec.ofChange memBackWrong)

/-- 'bulwarklaw2.MemZeros': WHATEVER THE INPUT: true; the input reads as it did. -/
def memZerosSpec : ChangeSpec := { name := "memZeros", fn := fun _ => fun
  | [d] => { results := [.lit (.bool true)], args := [d] }
  | _ => none }
def memZerosRow : OpenClaim := { program := "ytipepkmmjdlpoaa", sum := "063e46f66d87d12d315465bd131088652d959af15c74ccf564a16f88fcd3b66b", func := "bulwark/bulwarklaw2.MemZeros", spec := "memZeros", unfollowed := true, recurses := true, apart := false }
def MemZerosSaid : Prop := memZerosRow.holds Try.pinned (OpenSpec.ofChange memZerosSpec)

/-- ITS FALSE NEIGHBOUR: 'it returns false'. Refute it at one input. -/
def memZerosWrong : ChangeSpec := { name := "memZeros", fn := fun _ => fun
  | [d] => { results := [.lit (.bool false)], args := [d] }
  | _ => none }
def MemZerosWrongFalsely : Prop := memZerosRow.holds Try.pinned (OpenSpec.ofChange memZerosWrong)

/-- 'bulwarklaw2.MemExact': WHATEVER THE INPUT: true; the input reads as it did. -/
def memExactSpec : ChangeSpec := { name := "memExact", fn := fun _ => fun
  | [d] => { results := [.lit (.bool true)], args := [d] }
  | _ => none }
def memExactRow : OpenClaim := { program := "ytipepkmmjdlpoaa", sum := "063e46f66d87d12d315465bd131088652d959af15c74ccf564a16f88fcd3b66b", func := "bulwark/bulwarklaw2.MemExact", spec := "memExact", unfollowed := true, recurses := true, apart := false }
def MemExactSaid : Prop := memExactRow.holds Try.pinned (OpenSpec.ofChange memExactSpec)

/-- ITS FALSE NEIGHBOUR: 'it returns false'. Refute it at one input. -/
def memExactWrong : ChangeSpec := { name := "memExact", fn := fun _ => fun
  | [d] => { results := [.lit (.bool false)], args := [d] }
  | _ => none }
def MemExactWrongFalsely : Prop := memExactRow.holds Try.pinned (OpenSpec.ofChange memExactWrong)

/-- 'bulwarklaw2.MemBytes': WHATEVER THE INPUT: true; the input reads as it did. -/
def memBytesSpec : ChangeSpec := { name := "memBytes", fn := fun _ => fun
  | [d] => { results := [.lit (.bool true)], args := [d] }
  | _ => none }
def memBytesRow : OpenClaim := { program := "ytipepkmmjdlpoaa", sum := "063e46f66d87d12d315465bd131088652d959af15c74ccf564a16f88fcd3b66b", func := "bulwark/bulwarklaw2.MemBytes", spec := "memBytes", unfollowed := true, recurses := true, apart := false }
def MemBytesSaid : Prop := memBytesRow.holds Try.pinned (OpenSpec.ofChange memBytesSpec)

/-- ITS FALSE NEIGHBOUR: 'it returns false'. Refute it at one input. -/
def memBytesWrong : ChangeSpec := { name := "memBytes", fn := fun _ => fun
  | [d] => { results := [.lit (.bool false)], args := [d] }
  | _ => none }
def MemBytesWrongFalsely : Prop := memBytesRow.holds Try.pinned (OpenSpec.ofChange memBytesWrong)

/-- 'bulwarklaw2.MemHalves': WHATEVER THE INPUT: true; the input reads as it did. -/
def memHalvesSpec : ChangeSpec := { name := "memHalves", fn := fun _ => fun
  | [d] => { results := [.lit (.bool true)], args := [d] }
  | _ => none }
def memHalvesRow : OpenClaim := { program := "ytipepkmmjdlpoaa", sum := "063e46f66d87d12d315465bd131088652d959af15c74ccf564a16f88fcd3b66b", func := "bulwark/bulwarklaw2.MemHalves", spec := "memHalves", unfollowed := true, recurses := true, apart := false }
def MemHalvesSaid : Prop := memHalvesRow.holds Try.pinned (OpenSpec.ofChange memHalvesSpec)

/-- ITS FALSE NEIGHBOUR: 'it returns false'. Refute it at one input. -/
def memHalvesWrong : ChangeSpec := { name := "memHalves", fn := fun _ => fun
  | [d] => { results := [.lit (.bool false)], args := [d] }
  | _ => none }
def MemHalvesWrongFalsely : Prop := memHalvesRow.holds Try.pinned (OpenSpec.ofChange memHalvesWrong)

/-- 'bulwarklaw2.MemWords': WHATEVER THE INPUT: true; the input reads as it did. -/
def memWordsSpec : ChangeSpec := { name := "memWords", fn := fun _ => fun
  | [d] => { results := [.lit (.bool true)], args := [d] }
  | _ => none }
def memWordsRow : OpenClaim := { program := "ytipepkmmjdlpoaa", sum := "063e46f66d87d12d315465bd131088652d959af15c74ccf564a16f88fcd3b66b", func := "bulwark/bulwarklaw2.MemWords", spec := "memWords", unfollowed := true, recurses := true, apart := false }
def MemWordsSaid : Prop := memWordsRow.holds Try.pinned (OpenSpec.ofChange memWordsSpec)

/-- ITS FALSE NEIGHBOUR: 'it returns false'. Refute it at one input. -/
def memWordsWrong : ChangeSpec := { name := "memWords", fn := fun _ => fun
  | [d] => { results := [.lit (.bool false)], args := [d] }
  | _ => none }
def MemWordsWrongFalsely : Prop := memWordsRow.holds Try.pinned (OpenSpec.ofChange memWordsWrong)

/-- 'bulwarklaw2.MemLongs': WHATEVER THE INPUT: true; the input reads as it did. -/
def memLongsSpec : ChangeSpec := { name := "memLongs", fn := fun _ => fun
  | [d] => { results := [.lit (.bool true)], args := [d] }
  | _ => none }
def memLongsRow : OpenClaim := { program := "ytipepkmmjdlpoaa", sum := "063e46f66d87d12d315465bd131088652d959af15c74ccf564a16f88fcd3b66b", func := "bulwark/bulwarklaw2.MemLongs", spec := "memLongs", unfollowed := true, recurses := true, apart := false }
def MemLongsSaid : Prop := memLongsRow.holds Try.pinned (OpenSpec.ofChange memLongsSpec)

/-- ITS FALSE NEIGHBOUR: 'it returns false'. Refute it at one input. -/
def memLongsWrong : ChangeSpec := { name := "memLongs", fn := fun _ => fun
  | [d] => { results := [.lit (.bool false)], args := [d] }
  | _ => none }
def MemLongsWrongFalsely : Prop := memLongsRow.holds Try.pinned (OpenSpec.ofChange memLongsWrong)

/- THE SECOND FORM. 'bulk': how many values and letters a reading holds, each counted each time it is reached (what is shared counts as often as it is met; a slice's spare places count too). A statement '..UptoSaid' is the law's where the arguments, and the package variables that the reading takes, are together of bulk at most 1048576: NARROWER than '..Said'. Prove '..Said' where nothing that the law and all that it calls make is longer than what came in: it says more and counts as full. Else prove '..UptoSaid'. A law counts once. -/
mutual
def uptoBulk {H : Type} : DataW H → Nat
  | .lit (.string bytes) => bytes.length + 1
  | .lit _ => 1
  | .nil => 1
  | .ptr d => uptoBulk d + 1
  | .slice elems spare => uptoBulkAll elems + uptoBulkAll spare + 1
  | .agg parts => uptoBulkAll parts + 1
  | .iface _ d => uptoBulk d + 1
  | .map entries => uptoBulkEntries entries + 1
  | .held _ => 1
def uptoBulkAll {H : Type} : List (DataW H) → Nat
  | [] => 0
  | d :: r => uptoBulk d + uptoBulkAll r
def uptoBulkEntries {H : Type} : List (Lit × DataW H) → Nat
  | [] => 0
  | x :: r => uptoBulkEntry x + uptoBulkEntries r
def uptoBulkEntry {H : Type} : Lit × DataW H → Nat
  | (.string bytes, d) => bytes.length + uptoBulk d + 1
  | (_, d) => uptoBulk d + 1
 end
def uptoSmall : (H : Type) → List (DataW H) → Bool := fun _ ds => decide (uptoBulkAll ds ≤ 1048576)
def OpenSpec.upto (s : _root_.Go.ChangeSpec) : _root_.Go.OpenSpec := { _root_.Go.OpenSpec.ofChange s with cond := some uptoSmall }

/-- 'bulwarklaw2.MemBack', WHERE WHAT IT READS IS OF BULK AT MOST 1048576: true; the input reads as it did. -/
def memBackUptoRow : OpenClaim := { program := "ytipepkmmjdlpoaa", sum := "063e46f66d87d12d315465bd131088652d959af15c74ccf564a16f88fcd3b66b", func := "bulwark/bulwarklaw2.MemBack", spec := "memBack", apart := false, narrowed := true }
def MemBackUptoSaid : Prop := memBackUptoRow.holds Try.pinned (OpenSpec.upto memBackSpec)

/-- 'bulwarklaw2.MemZeros', WHERE WHAT IT READS IS OF BULK AT MOST 1048576: true; the input reads as it did. -/
def memZerosUptoRow : OpenClaim := { program := "ytipepkmmjdlpoaa", sum := "063e46f66d87d12d315465bd131088652d959af15c74ccf564a16f88fcd3b66b", func := "bulwark/bulwarklaw2.MemZeros", spec := "memZeros", unfollowed := true, recurses := true, apart := false, narrowed := true }
def MemZerosUptoSaid : Prop := memZerosUptoRow.holds Try.pinned (OpenSpec.upto memZerosSpec)

/-- 'bulwarklaw2.MemExact', WHERE WHAT IT READS IS OF BULK AT MOST 1048576: true; the input reads as it did. -/
def memExactUptoRow : OpenClaim := { program := "ytipepkmmjdlpoaa", sum := "063e46f66d87d12d315465bd131088652d959af15c74ccf564a16f88fcd3b66b", func := "bulwark/bulwarklaw2.MemExact", spec := "memExact", unfollowed := true, recurses := true, apart := false, narrowed := true }
def MemExactUptoSaid : Prop := memExactUptoRow.holds Try.pinned (OpenSpec.upto memExactSpec)

/-- 'bulwarklaw2.MemBytes', WHERE WHAT IT READS IS OF BULK AT MOST 1048576: true; the input reads as it did. -/
def memBytesUptoRow : OpenClaim := { program := "ytipepkmmjdlpoaa", sum := "063e46f66d87d12d315465bd131088652d959af15c74ccf564a16f88fcd3b66b", func := "bulwark/bulwarklaw2.MemBytes", spec := "memBytes", unfollowed := true, recurses := true, apart := false, narrowed := true }
def MemBytesUptoSaid : Prop := memBytesUptoRow.holds Try.pinned (OpenSpec.upto memBytesSpec)

/-- 'bulwarklaw2.MemHalves', WHERE WHAT IT READS IS OF BULK AT MOST 1048576: true; the input reads as it did. -/
def memHalvesUptoRow : OpenClaim := { program := "ytipepkmmjdlpoaa", sum := "063e46f66d87d12d315465bd131088652d959af15c74ccf564a16f88fcd3b66b", func := "bulwark/bulwarklaw2.MemHalves", spec := "memHalves", unfollowed := true, recurses := true, apart := false, narrowed := true }
def MemHalvesUptoSaid : Prop := memHalvesUptoRow.holds Try.pinned (OpenSpec.upto memHalvesSpec)

/-- 'bulwarklaw2.MemWords', WHERE WHAT IT READS IS OF BULK AT MOST 1048576: true; the input reads as it did. -/
def memWordsUptoRow : OpenClaim := { program := "ytipepkmmjdlpoaa", sum := "063e46f66d87d12d315465bd131088652d959af15c74ccf564a16f88fcd3b66b", func := "bulwark/bulwarklaw2.MemWords", spec := "memWords", unfollowed := true, recurses := true, apart := false, narrowed := true }
def MemWordsUptoSaid : Prop := memWordsUptoRow.holds Try.pinned (OpenSpec.upto memWordsSpec)

/-- 'bulwarklaw2.MemLongs', WHERE WHAT IT READS IS OF BULK AT MOST 1048576: true; the input reads as it did. -/
def memLongsUptoRow : OpenClaim := { program := "ytipepkmmjdlpoaa", sum := "063e46f66d87d12d315465bd131088652d959af15c74ccf564a16f88fcd3b66b", func := "bulwark/bulwarklaw2.MemLongs", spec := "memLongs", unfollowed := true, recurses := true, apart := false, narrowed := true }
def MemLongsUptoSaid : Prop := memLongsUptoRow.holds Try.pinned (OpenSpec.upto memLongsSpec)

end Rows
end Go.Proofs.Ytipepkmmjdlpoaa
