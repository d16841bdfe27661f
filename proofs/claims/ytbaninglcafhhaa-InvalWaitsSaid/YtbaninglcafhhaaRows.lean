/-
  No cell of these rows narrows 'for every input' (looked for: loops, veiled, ifaces, maps, wideKeys, modest, calm, conditions, laid).
  DERIVED. THE GIVEN ROWS OF THIS SEAT. 16 by the template 'for every input the law returns true; each argument reads behind the call as it read before'; 0 by the template 'total and deterministic' (their statements: YtbaninglcafhhaaTotals.lean).
  GIVEN WITH THE SEED: the statements are not yours to turn. If you find one false, say at which input.
  Laid BY PROGRAM, IN A SANDBOX (cutbox-rows.mjs): the forced cells as the released guide's own fill.sh prints them over the translation 900c360ae98eca9a… (all of the seat's roots in one cut). By AI agents, Wed Nov 11 2026. No macro, syntax, notation, axiom, sorry.
-/
import Derived.Test.YtbaninglcafhhaaChecked
import GoSem.Claim
import GoSem.ClaimJoined
import GoSem.ClaimMapViews
import Derived.JoinedTies
import Derived.KernelRfl
namespace Go.Proofs.Ytbaninglcafhhaa
/- THE CELL 'sum', in the pinned program and in every row, IS THE sha256 OF THE DUMP (.gsa) THAT YtbaninglcafhhaaProg.lean LOADS. Nothing in Lean hashes anything: it is a label: what it is worth is what the hold of that sum in a sandbox is worth. -/
noncomputable def Try.pinned : Pinned := { name := "ytbaninglcafhhaa", sum := "900c360ae98eca9ae866d6a2d8812cfb5c1a275a5fd5a71d5b88bf190814f1b2", checked := Try.checked }
namespace Rows
def none {H : Type} : Left H := { results := [], args := [] }

/-- 'bulwarklaw10.InvalTakes': WHATEVER THE INPUT: true; the input reads as it did. -/
def invalTakesSpec : ChangeSpec := { name := "invalTakes", fn := fun _ => fun
  | [d] => { results := [.lit (.bool true)], args := [d] }
  | _ => none }
def invalTakesRow : OpenClaim := { program := "ytbaninglcafhhaa", sum := "900c360ae98eca9ae866d6a2d8812cfb5c1a275a5fd5a71d5b88bf190814f1b2", func := "bulwark/bulwarklaw10.InvalTakes", spec := "invalTakes", unfollowed := true, recurses := true, apart := false }
def InvalTakesSaid : Prop := invalTakesRow.holds Try.pinned (OpenSpec.ofChange invalTakesSpec)

/-- ITS FALSE NEIGHBOUR: 'it returns false'. Refute it at one input. -/
def invalTakesWrong : ChangeSpec := { name := "invalTakes", fn := fun _ => fun
  | [d] => { results := [.lit (.bool false)], args := [d] }
  | _ => none }
def InvalTakesWrongFalsely : Prop := invalTakesRow.holds Try.pinned (OpenSpec.ofChange invalTakesWrong)

/-- 'bulwarklaw10.InvalKinds': WHATEVER THE INPUT: true; the input reads as it did. -/
def invalKindsSpec : ChangeSpec := { name := "invalKinds", fn := fun _ => fun
  | [d] => { results := [.lit (.bool true)], args := [d] }
  | _ => none }
def invalKindsRow : OpenClaim := { program := "ytbaninglcafhhaa", sum := "900c360ae98eca9ae866d6a2d8812cfb5c1a275a5fd5a71d5b88bf190814f1b2", func := "bulwark/bulwarklaw10.InvalKinds", spec := "invalKinds", unfollowed := true, recurses := true, apart := false }
def InvalKindsSaid : Prop := invalKindsRow.holds Try.pinned (OpenSpec.ofChange invalKindsSpec)

/-- ITS FALSE NEIGHBOUR: 'it returns false'. Refute it at one input. -/
def invalKindsWrong : ChangeSpec := { name := "invalKinds", fn := fun _ => fun
  | [d] => { results := [.lit (.bool false)], args := [d] }
  | _ => none }
def InvalKindsWrongFalsely : Prop := invalKindsRow.holds Try.pinned (OpenSpec.ofChange invalKindsWrong)

/-- 'bulwarklaw9.TlbOnly': WHATEVER THE INPUT: true; the input reads as it did. -/
def tlbOnlySpec : ChangeSpec := { name := "tlbOnly", fn := fun _ => fun
  | [d] => { results := [.lit (.bool true)], args := [d] }
  | _ => none }
def tlbOnlyRow : OpenClaim := { program := "ytbaninglcafhhaa", sum := "900c360ae98eca9ae866d6a2d8812cfb5c1a275a5fd5a71d5b88bf190814f1b2", func := "bulwark/bulwarklaw9.TlbOnly", spec := "tlbOnly", unfollowed := true, recurses := true, apart := false }
def TlbOnlySaid : Prop := tlbOnlyRow.holds Try.pinned (OpenSpec.ofChange tlbOnlySpec)

/-- ITS FALSE NEIGHBOUR: 'it returns false'. Refute it at one input. -/
def tlbOnlyWrong : ChangeSpec := { name := "tlbOnly", fn := fun _ => fun
  | [d] => { results := [.lit (.bool false)], args := [d] }
  | _ => none }
def TlbOnlyWrongFalsely : Prop := tlbOnlyRow.holds Try.pinned (OpenSpec.ofChange tlbOnlyWrong)

/-- 'bulwarklaw10.InvalAll': WHATEVER THE INPUT: true; the input reads as it did. -/
def invalAllSpec : ChangeSpec := { name := "invalAll", fn := fun _ => fun
  | [d] => { results := [.lit (.bool true)], args := [d] }
  | _ => none }
def invalAllRow : OpenClaim := { program := "ytbaninglcafhhaa", sum := "900c360ae98eca9ae866d6a2d8812cfb5c1a275a5fd5a71d5b88bf190814f1b2", func := "bulwark/bulwarklaw10.InvalAll", spec := "invalAll", unfollowed := true, recurses := true, apart := false }
def InvalAllSaid : Prop := invalAllRow.holds Try.pinned (OpenSpec.ofChange invalAllSpec)

/-- ITS FALSE NEIGHBOUR: 'it returns false'. Refute it at one input. -/
def invalAllWrong : ChangeSpec := { name := "invalAll", fn := fun _ => fun
  | [d] => { results := [.lit (.bool false)], args := [d] }
  | _ => none }
def InvalAllWrongFalsely : Prop := invalAllRow.holds Try.pinned (OpenSpec.ofChange invalAllWrong)

/-- 'bulwarklaw10.InvalVMs': WHATEVER THE INPUT: true; the input reads as it did. -/
def invalVMsSpec : ChangeSpec := { name := "invalVMs", fn := fun _ => fun
  | [d] => { results := [.lit (.bool true)], args := [d] }
  | _ => none }
def invalVMsRow : OpenClaim := { program := "ytbaninglcafhhaa", sum := "900c360ae98eca9ae866d6a2d8812cfb5c1a275a5fd5a71d5b88bf190814f1b2", func := "bulwark/bulwarklaw10.InvalVMs", spec := "invalVMs", unfollowed := true, recurses := true, apart := false }
def InvalVMsSaid : Prop := invalVMsRow.holds Try.pinned (OpenSpec.ofChange invalVMsSpec)

/-- ITS FALSE NEIGHBOUR: 'it returns false'. Refute it at one input. -/
def invalVMsWrong : ChangeSpec := { name := "invalVMs", fn := fun _ => fun
  | [d] => { results := [.lit (.bool false)], args := [d] }
  | _ => none }
def InvalVMsWrongFalsely : Prop := invalVMsRow.holds Try.pinned (OpenSpec.ofChange invalVMsWrong)

/-- 'bulwarklaw10.InvalStages': WHATEVER THE INPUT: true; the input reads as it did. -/
def invalStagesSpec : ChangeSpec := { name := "invalStages", fn := fun _ => fun
  | [d] => { results := [.lit (.bool true)], args := [d] }
  | _ => none }
def invalStagesRow : OpenClaim := { program := "ytbaninglcafhhaa", sum := "900c360ae98eca9ae866d6a2d8812cfb5c1a275a5fd5a71d5b88bf190814f1b2", func := "bulwark/bulwarklaw10.InvalStages", spec := "invalStages", unfollowed := true, recurses := true, apart := false }
def InvalStagesSaid : Prop := invalStagesRow.holds Try.pinned (OpenSpec.ofChange invalStagesSpec)

/-- ITS FALSE NEIGHBOUR: 'it returns false'. Refute it at one input. -/
def invalStagesWrong : ChangeSpec := { name := "invalStages", fn := fun _ => fun
  | [d] => { results := [.lit (.bool false)], args := [d] }
  | _ => none }
def InvalStagesWrongFalsely : Prop := invalStagesRow.holds Try.pinned (OpenSpec.ofChange invalStagesWrong)

/-- 'bulwarklaw10.InvalASIDs': WHATEVER THE INPUT: true; the input reads as it did. -/
def invalASIDsSpec : ChangeSpec := { name := "invalASIDs", fn := fun _ => fun
  | [d] => { results := [.lit (.bool true)], args := [d] }
  | _ => none }
def invalASIDsRow : OpenClaim := { program := "ytbaninglcafhhaa", sum := "900c360ae98eca9ae866d6a2d8812cfb5c1a275a5fd5a71d5b88bf190814f1b2", func := "bulwark/bulwarklaw10.InvalASIDs", spec := "invalASIDs", unfollowed := true, recurses := true, apart := false }
def InvalASIDsSaid : Prop := invalASIDsRow.holds Try.pinned (OpenSpec.ofChange invalASIDsSpec)

/-- ITS FALSE NEIGHBOUR: 'it returns false'. Refute it at one input. -/
def invalASIDsWrong : ChangeSpec := { name := "invalASIDs", fn := fun _ => fun
  | [d] => { results := [.lit (.bool false)], args := [d] }
  | _ => none }
def InvalASIDsWrongFalsely : Prop := invalASIDsRow.holds Try.pinned (OpenSpec.ofChange invalASIDsWrong)

/-- 'bulwarklaw10.InvalPages': WHATEVER THE INPUT: true; the input reads as it did. -/
def invalPagesSpec : ChangeSpec := { name := "invalPages", fn := fun _ => fun
  | [d] => { results := [.lit (.bool true)], args := [d] }
  | _ => none }
def invalPagesRow : OpenClaim := { program := "ytbaninglcafhhaa", sum := "900c360ae98eca9ae866d6a2d8812cfb5c1a275a5fd5a71d5b88bf190814f1b2", func := "bulwark/bulwarklaw10.InvalPages", spec := "invalPages", unfollowed := true, recurses := true, apart := false }
def InvalPagesSaid : Prop := invalPagesRow.holds Try.pinned (OpenSpec.ofChange invalPagesSpec)

/-- ITS FALSE NEIGHBOUR: 'it returns false'. Refute it at one input. -/
def invalPagesWrong : ChangeSpec := { name := "invalPages", fn := fun _ => fun
  | [d] => { results := [.lit (.bool false)], args := [d] }
  | _ => none }
def InvalPagesWrongFalsely : Prop := invalPagesRow.holds Try.pinned (OpenSpec.ofChange invalPagesWrong)

/-- 'bulwarklaw10.InvalMids': WHATEVER THE INPUT: true; the input reads as it did. -/
def invalMidsSpec : ChangeSpec := { name := "invalMids", fn := fun _ => fun
  | [d] => { results := [.lit (.bool true)], args := [d] }
  | _ => none }
def invalMidsRow : OpenClaim := { program := "ytbaninglcafhhaa", sum := "900c360ae98eca9ae866d6a2d8812cfb5c1a275a5fd5a71d5b88bf190814f1b2", func := "bulwark/bulwarklaw10.InvalMids", spec := "invalMids", unfollowed := true, recurses := true, apart := false }
def InvalMidsSaid : Prop := invalMidsRow.holds Try.pinned (OpenSpec.ofChange invalMidsSpec)

/-- ITS FALSE NEIGHBOUR: 'it returns false'. Refute it at one input. -/
def invalMidsWrong : ChangeSpec := { name := "invalMids", fn := fun _ => fun
  | [d] => { results := [.lit (.bool false)], args := [d] }
  | _ => none }
def InvalMidsWrongFalsely : Prop := invalMidsRow.holds Try.pinned (OpenSpec.ofChange invalMidsWrong)

/-- 'bulwarklaw10.InvalApplies': WHATEVER THE INPUT: true; the input reads as it did. -/
def invalAppliesSpec : ChangeSpec := { name := "invalApplies", fn := fun _ => fun
  | [d] => { results := [.lit (.bool true)], args := [d] }
  | _ => none }
def invalAppliesRow : OpenClaim := { program := "ytbaninglcafhhaa", sum := "900c360ae98eca9ae866d6a2d8812cfb5c1a275a5fd5a71d5b88bf190814f1b2", func := "bulwark/bulwarklaw10.InvalApplies", spec := "invalApplies", unfollowed := true, recurses := true, apart := false }
def InvalAppliesSaid : Prop := invalAppliesRow.holds Try.pinned (OpenSpec.ofChange invalAppliesSpec)

/-- ITS FALSE NEIGHBOUR: 'it returns false'. Refute it at one input. -/
def invalAppliesWrong : ChangeSpec := { name := "invalApplies", fn := fun _ => fun
  | [d] => { results := [.lit (.bool false)], args := [d] }
  | _ => none }
def InvalAppliesWrongFalsely : Prop := invalAppliesRow.holds Try.pinned (OpenSpec.ofChange invalAppliesWrong)

/-- 'bulwarklaw10.InvalWaits': WHATEVER THE INPUT: true; the input reads as it did. -/
def invalWaitsSpec : ChangeSpec := { name := "invalWaits", fn := fun _ => fun
  | [d] => { results := [.lit (.bool true)], args := [d] }
  | _ => none }
def invalWaitsRow : OpenClaim := { program := "ytbaninglcafhhaa", sum := "900c360ae98eca9ae866d6a2d8812cfb5c1a275a5fd5a71d5b88bf190814f1b2", func := "bulwark/bulwarklaw10.InvalWaits", spec := "invalWaits", unfollowed := true, recurses := true, apart := false }
def InvalWaitsSaid : Prop := invalWaitsRow.holds Try.pinned (OpenSpec.ofChange invalWaitsSpec)

/-- ITS FALSE NEIGHBOUR: 'it returns false'. Refute it at one input. -/
def invalWaitsWrong : ChangeSpec := { name := "invalWaits", fn := fun _ => fun
  | [d] => { results := [.lit (.bool false)], args := [d] }
  | _ => none }
def InvalWaitsWrongFalsely : Prop := invalWaitsRow.holds Try.pinned (OpenSpec.ofChange invalWaitsWrong)

/-- 'bulwarklaw9.TlbExact': WHATEVER THE INPUT: true; the input reads as it did. -/
def tlbExactSpec : ChangeSpec := { name := "tlbExact", fn := fun _ => fun
  | [d] => { results := [.lit (.bool true)], args := [d] }
  | _ => none }
def tlbExactRow : OpenClaim := { program := "ytbaninglcafhhaa", sum := "900c360ae98eca9ae866d6a2d8812cfb5c1a275a5fd5a71d5b88bf190814f1b2", func := "bulwark/bulwarklaw9.TlbExact", spec := "tlbExact", unfollowed := true, recurses := true, apart := false }
def TlbExactSaid : Prop := tlbExactRow.holds Try.pinned (OpenSpec.ofChange tlbExactSpec)

/-- ITS FALSE NEIGHBOUR: 'it returns false'. Refute it at one input. -/
def tlbExactWrong : ChangeSpec := { name := "tlbExact", fn := fun _ => fun
  | [d] => { results := [.lit (.bool false)], args := [d] }
  | _ => none }
def TlbExactWrongFalsely : Prop := tlbExactRow.holds Try.pinned (OpenSpec.ofChange tlbExactWrong)

/-- 'bulwarklaw9.TlbWholes': WHATEVER THE INPUT: true; the input reads as it did. -/
def tlbWholesSpec : ChangeSpec := { name := "tlbWholes", fn := fun _ => fun
  | [d] => { results := [.lit (.bool true)], args := [d] }
  | _ => none }
def tlbWholesRow : OpenClaim := { program := "ytbaninglcafhhaa", sum := "900c360ae98eca9ae866d6a2d8812cfb5c1a275a5fd5a71d5b88bf190814f1b2", func := "bulwark/bulwarklaw9.TlbWholes", spec := "tlbWholes", unfollowed := true, recurses := true, apart := false }
def TlbWholesSaid : Prop := tlbWholesRow.holds Try.pinned (OpenSpec.ofChange tlbWholesSpec)

/-- ITS FALSE NEIGHBOUR: 'it returns false'. Refute it at one input. -/
def tlbWholesWrong : ChangeSpec := { name := "tlbWholes", fn := fun _ => fun
  | [d] => { results := [.lit (.bool false)], args := [d] }
  | _ => none }
def TlbWholesWrongFalsely : Prop := tlbWholesRow.holds Try.pinned (OpenSpec.ofChange tlbWholesWrong)

/-- 'bulwarklaw9.TlbMids': WHATEVER THE INPUT: true; the input reads as it did. -/
def tlbMidsSpec : ChangeSpec := { name := "tlbMids", fn := fun _ => fun
  | [d] => { results := [.lit (.bool true)], args := [d] }
  | _ => none }
def tlbMidsRow : OpenClaim := { program := "ytbaninglcafhhaa", sum := "900c360ae98eca9ae866d6a2d8812cfb5c1a275a5fd5a71d5b88bf190814f1b2", func := "bulwark/bulwarklaw9.TlbMids", spec := "tlbMids", unfollowed := true, recurses := true, apart := false }
def TlbMidsSaid : Prop := tlbMidsRow.holds Try.pinned (OpenSpec.ofChange tlbMidsSpec)

/-- ITS FALSE NEIGHBOUR: 'it returns false'. Refute it at one input. -/
def tlbMidsWrong : ChangeSpec := { name := "tlbMids", fn := fun _ => fun
  | [d] => { results := [.lit (.bool false)], args := [d] }
  | _ => none }
def TlbMidsWrongFalsely : Prop := tlbMidsRow.holds Try.pinned (OpenSpec.ofChange tlbMidsWrong)

/-- 'bulwarklaw9.TlbWalks': WHATEVER THE INPUT: true; the input reads as it did. -/
def tlbWalksSpec : ChangeSpec := { name := "tlbWalks", fn := fun _ => fun
  | [d] => { results := [.lit (.bool true)], args := [d] }
  | _ => none }
def tlbWalksRow : OpenClaim := { program := "ytbaninglcafhhaa", sum := "900c360ae98eca9ae866d6a2d8812cfb5c1a275a5fd5a71d5b88bf190814f1b2", func := "bulwark/bulwarklaw9.TlbWalks", spec := "tlbWalks", unfollowed := true, recurses := true, apart := false }
def TlbWalksSaid : Prop := tlbWalksRow.holds Try.pinned (OpenSpec.ofChange tlbWalksSpec)

/-- ITS FALSE NEIGHBOUR: 'it returns false'. Refute it at one input. -/
def tlbWalksWrong : ChangeSpec := { name := "tlbWalks", fn := fun _ => fun
  | [d] => { results := [.lit (.bool false)], args := [d] }
  | _ => none }
def TlbWalksWrongFalsely : Prop := tlbWalksRow.holds Try.pinned (OpenSpec.ofChange tlbWalksWrong)

/-- 'bulwarklaw9.TlbDrops': WHATEVER THE INPUT: true; the input reads as it did. -/
def tlbDropsSpec : ChangeSpec := { name := "tlbDrops", fn := fun _ => fun
  | [d] => { results := [.lit (.bool true)], args := [d] }
  | _ => none }
def tlbDropsRow : OpenClaim := { program := "ytbaninglcafhhaa", sum := "900c360ae98eca9ae866d6a2d8812cfb5c1a275a5fd5a71d5b88bf190814f1b2", func := "bulwark/bulwarklaw9.TlbDrops", spec := "tlbDrops", unfollowed := true, recurses := true, apart := false }
def TlbDropsSaid : Prop := tlbDropsRow.holds Try.pinned (OpenSpec.ofChange tlbDropsSpec)

/-- ITS FALSE NEIGHBOUR: 'it returns false'. Refute it at one input. -/
def tlbDropsWrong : ChangeSpec := { name := "tlbDrops", fn := fun _ => fun
  | [d] => { results := [.lit (.bool false)], args := [d] }
  | _ => none }
def TlbDropsWrongFalsely : Prop := tlbDropsRow.holds Try.pinned (OpenSpec.ofChange tlbDropsWrong)

/- THE SECOND FORM. 'bulk': how many values and letters a reading holds, each counted each time it is reached (what is shared counts as often as it is met; a slice's spare places count too). A statement '..UptoSaid' is the law's where the arguments, and the package variables that the reading takes, are together of bulk at most 1048576: NARROWER than '..Said'. Prove '..Said' where nothing that the law and all that it calls make is longer than what came in: it says more and counts as full. Else prove '..UptoSaid'. A law counts once. -/
mutual
def uptoBulk {H : Type} : DataW H → Nat
  | .lit (.string bytes) => bytes.length + 1
  | .lit _ => 1
  | .nil => 1
  | .ptr d => uptoBulk d + 1
  | .slice elems spare => uptoBulkAll elems + uptoBulkAll spare + 1
  | .agg parts => uptoBulkAll parts + 1
  | .iface _ d => uptoBulk d + 1
  | .map entries => uptoBulkEntries entries + 1
  | .held _ => 1
def uptoBulkAll {H : Type} : List (DataW H) → Nat
  | [] => 0
  | d :: r => uptoBulk d + uptoBulkAll r
def uptoBulkEntries {H : Type} : List (Lit × DataW H) → Nat
  | [] => 0
  | x :: r => uptoBulkEntry x + uptoBulkEntries r
def uptoBulkEntry {H : Type} : Lit × DataW H → Nat
  | (.string bytes, d) => bytes.length + uptoBulk d + 1
  | (_, d) => uptoBulk d + 1
 end
def uptoSmall : (H : Type) → List (DataW H) → Bool := fun _ ds => decide (uptoBulkAll ds ≤ 1048576)
def OpenSpec.upto (s : _root_.Go.ChangeSpec) : _root_.Go.OpenSpec := { _root_.Go.OpenSpec.ofChange s with cond := some uptoSmall }

/-- 'bulwarklaw10.InvalTakes', WHERE WHAT IT READS IS OF BULK AT MOST 1048576: true; the input reads as it did. -/
def invalTakesUptoRow : OpenClaim := { program := "ytbaninglcafhhaa", sum := "900c360ae98eca9ae866d6a2d8812cfb5c1a275a5fd5a71d5b88bf190814f1b2", func := "bulwark/bulwarklaw10.InvalTakes", spec := "invalTakes", unfollowed := true, recurses := true, apart := false, narrowed := true }
def InvalTakesUptoSaid : Prop := invalTakesUptoRow.holds Try.pinned (OpenSpec.upto invalTakesSpec)

/-- 'bulwarklaw10.InvalKinds', WHERE WHAT IT READS IS OF BULK AT MOST 1048576: true; the input reads as it did. -/
def invalKindsUptoRow : OpenClaim := { program := "ytbaninglcafhhaa", sum := "900c360ae98eca9ae866d6a2d8812cfb5c1a275a5fd5a71d5b88bf190814f1b2", func := "bulwark/bulwarklaw10.InvalKinds", spec := "invalKinds", unfollowed := true, recurses := true, apart := false, narrowed := true }
def InvalKindsUptoSaid : Prop := invalKindsUptoRow.holds Try.pinned (OpenSpec.upto invalKindsSpec)

/-- 'bulwarklaw9.TlbOnly', WHERE WHAT IT READS IS OF BULK AT MOST 1048576: true; the input reads as it did. -/
def tlbOnlyUptoRow : OpenClaim := { program := "ytbaninglcafhhaa", sum := "900c360ae98eca9ae866d6a2d8812cfb5c1a275a5fd5a71d5b88bf190814f1b2", func := "bulwark/bulwarklaw9.TlbOnly", spec := "tlbOnly", unfollowed := true, recurses := true, apart := false, narrowed := true }
def TlbOnlyUptoSaid : Prop := tlbOnlyUptoRow.holds Try.pinned (OpenSpec.upto tlbOnlySpec)

/-- 'bulwarklaw10.InvalAll', WHERE WHAT IT READS IS OF BULK AT MOST 1048576: true; the input reads as it did. -/
def invalAllUptoRow : OpenClaim := { program := "ytbaninglcafhhaa", sum := "900c360ae98eca9ae866d6a2d8812cfb5c1a275a5fd5a71d5b88bf190814f1b2", func := "bulwark/bulwarklaw10.InvalAll", spec := "invalAll", unfollowed := true, recurses := true, apart := false, narrowed := true }
def InvalAllUptoSaid : Prop := invalAllUptoRow.holds Try.pinned (OpenSpec.upto invalAllSpec)

/-- 'bulwarklaw10.InvalVMs', WHERE WHAT IT READS IS OF BULK AT MOST 1048576: true; the input reads as it did. -/
def invalVMsUptoRow : OpenClaim := { program := "ytbaninglcafhhaa", sum := "900c360ae98eca9ae866d6a2d8812cfb5c1a275a5fd5a71d5b88bf190814f1b2", func := "bulwark/bulwarklaw10.InvalVMs", spec := "invalVMs", unfollowed := true, recurses := true, apart := false, narrowed := true }
def InvalVMsUptoSaid : Prop := invalVMsUptoRow.holds Try.pinned (OpenSpec.upto invalVMsSpec)

/-- 'bulwarklaw10.InvalStages', WHERE WHAT IT READS IS OF BULK AT MOST 1048576: true; the input reads as it did. -/
def invalStagesUptoRow : OpenClaim := { program := "ytbaninglcafhhaa", sum := "900c360ae98eca9ae866d6a2d8812cfb5c1a275a5fd5a71d5b88bf190814f1b2", func := "bulwark/bulwarklaw10.InvalStages", spec := "invalStages", unfollowed := true, recurses := true, apart := false, narrowed := true }
def InvalStagesUptoSaid : Prop := invalStagesUptoRow.holds Try.pinned (OpenSpec.upto invalStagesSpec)

/-- 'bulwarklaw10.InvalASIDs', WHERE WHAT IT READS IS OF BULK AT MOST 1048576: true; the input reads as it did. -/
def invalASIDsUptoRow : OpenClaim := { program := "ytbaninglcafhhaa", sum := "900c360ae98eca9ae866d6a2d8812cfb5c1a275a5fd5a71d5b88bf190814f1b2", func := "bulwark/bulwarklaw10.InvalASIDs", spec := "invalASIDs", unfollowed := true, recurses := true, apart := false, narrowed := true }
def InvalASIDsUptoSaid : Prop := invalASIDsUptoRow.holds Try.pinned (OpenSpec.upto invalASIDsSpec)

/-- 'bulwarklaw10.InvalPages', WHERE WHAT IT READS IS OF BULK AT MOST 1048576: true; the input reads as it did. -/
def invalPagesUptoRow : OpenClaim := { program := "ytbaninglcafhhaa", sum := "900c360ae98eca9ae866d6a2d8812cfb5c1a275a5fd5a71d5b88bf190814f1b2", func := "bulwark/bulwarklaw10.InvalPages", spec := "invalPages", unfollowed := true, recurses := true, apart := false, narrowed := true }
def InvalPagesUptoSaid : Prop := invalPagesUptoRow.holds Try.pinned (OpenSpec.upto invalPagesSpec)

/-- 'bulwarklaw10.InvalMids', WHERE WHAT IT READS IS OF BULK AT MOST 1048576: true; the input reads as it did. -/
def invalMidsUptoRow : OpenClaim := { program := "ytbaninglcafhhaa", sum := "900c360ae98eca9ae866d6a2d8812cfb5c1a275a5fd5a71d5b88bf190814f1b2", func := "bulwark/bulwarklaw10.InvalMids", spec := "invalMids", unfollowed := true, recurses := true, apart := false, narrowed := true }
def InvalMidsUptoSaid : Prop := invalMidsUptoRow.holds Try.pinned (OpenSpec.upto invalMidsSpec)

/-- 'bulwarklaw10.InvalApplies', WHERE WHAT IT READS IS OF BULK AT MOST 1048576: true; the input reads as it did. -/
def invalAppliesUptoRow : OpenClaim := { program := "ytbaninglcafhhaa", sum := "900c360ae98eca9ae866d6a2d8812cfb5c1a275a5fd5a71d5b88bf190814f1b2", func := "bulwark/bulwarklaw10.InvalApplies", spec := "invalApplies", unfollowed := true, recurses := true, apart := false, narrowed := true }
def InvalAppliesUptoSaid : Prop := invalAppliesUptoRow.holds Try.pinned (OpenSpec.upto invalAppliesSpec)

/-- 'bulwarklaw10.InvalWaits', WHERE WHAT IT READS IS OF BULK AT MOST 1048576: true; the input reads as it did. -/
def invalWaitsUptoRow : OpenClaim := { program := "ytbaninglcafhhaa", sum := "900c360ae98eca9ae866d6a2d8812cfb5c1a275a5fd5a71d5b88bf190814f1b2", func := "bulwark/bulwarklaw10.InvalWaits", spec := "invalWaits", unfollowed := true, recurses := true, apart := false, narrowed := true }
def InvalWaitsUptoSaid : Prop := invalWaitsUptoRow.holds Try.pinned (OpenSpec.upto invalWaitsSpec)

/-- 'bulwarklaw9.TlbExact', WHERE WHAT IT READS IS OF BULK AT MOST 1048576: true; the input reads as it did. -/
def tlbExactUptoRow : OpenClaim := { program := "ytbaninglcafhhaa", sum := "900c360ae98eca9ae866d6a2d8812cfb5c1a275a5fd5a71d5b88bf190814f1b2", func := "bulwark/bulwarklaw9.TlbExact", spec := "tlbExact", unfollowed := true, recurses := true, apart := false, narrowed := true }
def TlbExactUptoSaid : Prop := tlbExactUptoRow.holds Try.pinned (OpenSpec.upto tlbExactSpec)

/-- 'bulwarklaw9.TlbWholes', WHERE WHAT IT READS IS OF BULK AT MOST 1048576: true; the input reads as it did. -/
def tlbWholesUptoRow : OpenClaim := { program := "ytbaninglcafhhaa", sum := "900c360ae98eca9ae866d6a2d8812cfb5c1a275a5fd5a71d5b88bf190814f1b2", func := "bulwark/bulwarklaw9.TlbWholes", spec := "tlbWholes", unfollowed := true, recurses := true, apart := false, narrowed := true }
def TlbWholesUptoSaid : Prop := tlbWholesUptoRow.holds Try.pinned (OpenSpec.upto tlbWholesSpec)

/-- 'bulwarklaw9.TlbMids', WHERE WHAT IT READS IS OF BULK AT MOST 1048576: true; the input reads as it did. -/
def tlbMidsUptoRow : OpenClaim := { program := "ytbaninglcafhhaa", sum := "900c360ae98eca9ae866d6a2d8812cfb5c1a275a5fd5a71d5b88bf190814f1b2", func := "bulwark/bulwarklaw9.TlbMids", spec := "tlbMids", unfollowed := true, recurses := true, apart := false, narrowed := true }
def TlbMidsUptoSaid : Prop := tlbMidsUptoRow.holds Try.pinned (OpenSpec.upto tlbMidsSpec)

/-- 'bulwarklaw9.TlbWalks', WHERE WHAT IT READS IS OF BULK AT MOST 1048576: true; the input reads as it did. -/
def tlbWalksUptoRow : OpenClaim := { program := "ytbaninglcafhhaa", sum := "900c360ae98eca9ae866d6a2d8812cfb5c1a275a5fd5a71d5b88bf190814f1b2", func := "bulwark/bulwarklaw9.TlbWalks", spec := "tlbWalks", unfollowed := true, recurses := true, apart := false, narrowed := true }
def TlbWalksUptoSaid : Prop := tlbWalksUptoRow.holds Try.pinned (OpenSpec.upto tlbWalksSpec)

/-- 'bulwarklaw9.TlbDrops', WHERE WHAT IT READS IS OF BULK AT MOST 1048576: true; the input reads as it did. -/
def tlbDropsUptoRow : OpenClaim := { program := "ytbaninglcafhhaa", sum := "900c360ae98eca9ae866d6a2d8812cfb5c1a275a5fd5a71d5b88bf190814f1b2", func := "bulwark/bulwarklaw9.TlbDrops", spec := "tlbDrops", unfollowed := true, recurses := true, apart := false, narrowed := true }
def TlbDropsUptoSaid : Prop := tlbDropsUptoRow.holds Try.pinned (OpenSpec.upto tlbDropsSpec)

end Rows
end Go.Proofs.Ytbaninglcafhhaa
