/-
  No cell of these rows narrows 'for every input' (looked for: loops, veiled, ifaces, maps, wideKeys, modest, calm, conditions, laid).
  DERIVED. THE GIVEN ROWS OF THIS SEAT. 10 by the template 'for every input the law returns true; each argument reads behind the call as it read before'; 0 by the template 'total and deterministic' (their statements: YtllkhdhanheieaaTotals.lean).
  GIVEN WITH THE SEED: the statements are not yours to turn. If you find one false, say at which input.
  Laid BY PROGRAM, IN A SANDBOX (cutbox-rows.mjs): the forced cells as the released guide's own fill.sh prints them over the translation 4b093d6d79ffdab4… (all of the seat's roots in one cut). By AI agents, Wed Nov 11 2026. No macro, syntax, notation, axiom, sorry.
-/
import Derived.Test.YtllkhdhanheieaaChecked
import GoSem.Claim
import GoSem.ClaimJoined
import GoSem.ClaimMapViews
import Derived.JoinedTies
import Derived.KernelRfl
namespace Go.Proofs.Ytllkhdhanheieaa
/- THE CELL 'sum', in the pinned program and in every row, IS THE sha256 OF THE DUMP (.gsa) THAT YtllkhdhanheieaaProg.lean LOADS. Nothing in Lean hashes anything: it is a label: what it is worth is what the hold of that sum in a sandbox is worth. -/
noncomputable def Try.pinned : Pinned := { name := "ytllkhdhanheieaa", sum := "4b093d6d79ffdab47ea990f8caf4ad0963e63f8e282a3b924992a6d4d9ac0855", checked := Try.checked }
namespace Rows
def none {H : Type} : Left H := { results := [], args := [] }

/-- 'federationlaw1.ValRight': WHATEVER THE INPUT: true; the input reads as it did. -/
def valRightSpec : ChangeSpec := { name := "valRight", fn := fun _ => fun
  | [d1, d2, d3, d4, d5, d6] => { results := [.lit (.bool true)], args := [d1, d2, d3, d4, d5, d6] }
  | _ => none }
def valRightRow : OpenClaim := { program := "ytllkhdhanheieaa", sum := "4b093d6d79ffdab47ea990f8caf4ad0963e63f8e282a3b924992a6d4d9ac0855", func := "federation/federationlaw1.ValRight", spec := "valRight", inPlace := ["internal/bytealg.abigen_runtime_cmpstring"], unfollowed := true, recurses := true, apart := false }
def ValRightSaid : Prop := valRightRow.holds Try.pinned (OpenSpec.ofChange valRightSpec)

/-- ITS FALSE NEIGHBOUR: 'it returns false'. Refute it at one input. -/
def valRightWrong : ChangeSpec := { name := "valRight", fn := fun _ => fun
  | [d1, d2, d3, d4, d5, d6] => { results := [.lit (.bool false)], args := [d1, d2, d3, d4, d5, d6] }
  | _ => none }
def ValRightWrongFalsely : Prop := valRightRow.holds Try.pinned (OpenSpec.ofChange valRightWrong)

/-- 'federationlaw1.ValReckons': WHATEVER THE INPUT: true; the input reads as it did. -/
def valReckonsSpec : ChangeSpec := { name := "valReckons", fn := fun _ => fun
  | [d1, d2, d3, d4, d5, d6] => { results := [.lit (.bool true)], args := [d1, d2, d3, d4, d5, d6] }
  | _ => none }
def valReckonsRow : OpenClaim := { program := "ytllkhdhanheieaa", sum := "4b093d6d79ffdab47ea990f8caf4ad0963e63f8e282a3b924992a6d4d9ac0855", func := "federation/federationlaw1.ValReckons", spec := "valReckons", inPlace := ["internal/bytealg.abigen_runtime_cmpstring"], unfollowed := true, recurses := true, apart := false }
def ValReckonsSaid : Prop := valReckonsRow.holds Try.pinned (OpenSpec.ofChange valReckonsSpec)

/-- ITS FALSE NEIGHBOUR: 'it returns false'. Refute it at one input. -/
def valReckonsWrong : ChangeSpec := { name := "valReckons", fn := fun _ => fun
  | [d1, d2, d3, d4, d5, d6] => { results := [.lit (.bool false)], args := [d1, d2, d3, d4, d5, d6] }
  | _ => none }
def ValReckonsWrongFalsely : Prop := valReckonsRow.holds Try.pinned (OpenSpec.ofChange valReckonsWrong)

/-- 'federationlaw1.ValLaws': WHATEVER THE INPUT: true; the input reads as it did. -/
def valLawsSpec : ChangeSpec := { name := "valLaws", fn := fun _ => fun
  | [d1, d2, d3, d4, d5] => { results := [.lit (.bool true)], args := [d1, d2, d3, d4, d5] }
  | _ => none }
def valLawsRow : OpenClaim := { program := "ytllkhdhanheieaa", sum := "4b093d6d79ffdab47ea990f8caf4ad0963e63f8e282a3b924992a6d4d9ac0855", func := "federation/federationlaw1.ValLaws", spec := "valLaws", inPlace := ["internal/bytealg.abigen_runtime_cmpstring"], unfollowed := true, recurses := true, apart := false }
def ValLawsSaid : Prop := valLawsRow.holds Try.pinned (OpenSpec.ofChange valLawsSpec)

/-- ITS FALSE NEIGHBOUR: 'it returns false'. Refute it at one input. -/
def valLawsWrong : ChangeSpec := { name := "valLaws", fn := fun _ => fun
  | [d1, d2, d3, d4, d5] => { results := [.lit (.bool false)], args := [d1, d2, d3, d4, d5] }
  | _ => none }
def ValLawsWrongFalsely : Prop := valLawsRow.holds Try.pinned (OpenSpec.ofChange valLawsWrong)

/-- 'federationlaw1.ValNulls': WHATEVER THE INPUT: true; the input reads as it did. -/
def valNullsSpec : ChangeSpec := { name := "valNulls", fn := fun _ => fun
  | [d1, d2, d3, d4] => { results := [.lit (.bool true)], args := [d1, d2, d3, d4] }
  | _ => none }
def valNullsRow : OpenClaim := { program := "ytllkhdhanheieaa", sum := "4b093d6d79ffdab47ea990f8caf4ad0963e63f8e282a3b924992a6d4d9ac0855", func := "federation/federationlaw1.ValNulls", spec := "valNulls", inPlace := ["internal/bytealg.abigen_runtime_cmpstring"], unfollowed := true, recurses := true, apart := false }
def ValNullsSaid : Prop := valNullsRow.holds Try.pinned (OpenSpec.ofChange valNullsSpec)

/-- ITS FALSE NEIGHBOUR: 'it returns false'. Refute it at one input. -/
def valNullsWrong : ChangeSpec := { name := "valNulls", fn := fun _ => fun
  | [d1, d2, d3, d4] => { results := [.lit (.bool false)], args := [d1, d2, d3, d4] }
  | _ => none }
def ValNullsWrongFalsely : Prop := valNullsRow.holds Try.pinned (OpenSpec.ofChange valNullsWrong)

/-- 'federationlaw1.ValKnown': WHATEVER THE INPUT: true; the input reads as it did. -/
def valKnownSpec : ChangeSpec := { name := "valKnown", fn := fun _ => fun
  | [d] => { results := [.lit (.bool true)], args := [d] }
  | _ => none }
def valKnownRow : OpenClaim := { program := "ytllkhdhanheieaa", sum := "4b093d6d79ffdab47ea990f8caf4ad0963e63f8e282a3b924992a6d4d9ac0855", func := "federation/federationlaw1.ValKnown", spec := "valKnown", inPlace := ["internal/bytealg.abigen_runtime_cmpstring"], unfollowed := true, recurses := true, apart := false }
def ValKnownSaid : Prop := valKnownRow.holds Try.pinned (OpenSpec.ofChange valKnownSpec)

/-- ITS FALSE NEIGHBOUR: 'it returns false'. Refute it at one input. -/
def valKnownWrong : ChangeSpec := { name := "valKnown", fn := fun _ => fun
  | [d] => { results := [.lit (.bool false)], args := [d] }
  | _ => none }
def ValKnownWrongFalsely : Prop := valKnownRow.holds Try.pinned (OpenSpec.ofChange valKnownWrong)

/-- 'federationlaw1.ValDecs': WHATEVER THE INPUT: true; the input reads as it did. -/
def valDecsSpec : ChangeSpec := { name := "valDecs", fn := fun _ => fun
  | [d1, d2, d3, d4] => { results := [.lit (.bool true)], args := [d1, d2, d3, d4] }
  | _ => none }
def valDecsRow : OpenClaim := { program := "ytllkhdhanheieaa", sum := "4b093d6d79ffdab47ea990f8caf4ad0963e63f8e282a3b924992a6d4d9ac0855", func := "federation/federationlaw1.ValDecs", spec := "valDecs", inPlace := ["internal/bytealg.abigen_runtime_cmpstring"], unfollowed := true, recurses := true, apart := false }
def ValDecsSaid : Prop := valDecsRow.holds Try.pinned (OpenSpec.ofChange valDecsSpec)

/-- ITS FALSE NEIGHBOUR: 'it returns false'. Refute it at one input. -/
def valDecsWrong : ChangeSpec := { name := "valDecs", fn := fun _ => fun
  | [d1, d2, d3, d4] => { results := [.lit (.bool false)], args := [d1, d2, d3, d4] }
  | _ => none }
def ValDecsWrongFalsely : Prop := valDecsRow.holds Try.pinned (OpenSpec.ofChange valDecsWrong)

/-- 'federationlaw1.ValScales': WHATEVER THE INPUT: true; the input reads as it did. -/
def valScalesSpec : ChangeSpec := { name := "valScales", fn := fun _ => fun
  | [d1, d2, d3] => { results := [.lit (.bool true)], args := [d1, d2, d3] }
  | _ => none }
def valScalesRow : OpenClaim := { program := "ytllkhdhanheieaa", sum := "4b093d6d79ffdab47ea990f8caf4ad0963e63f8e282a3b924992a6d4d9ac0855", func := "federation/federationlaw1.ValScales", spec := "valScales", inPlace := ["internal/bytealg.abigen_runtime_cmpstring"], unfollowed := true, recurses := true, apart := false }
def ValScalesSaid : Prop := valScalesRow.holds Try.pinned (OpenSpec.ofChange valScalesSpec)

/-- ITS FALSE NEIGHBOUR: 'it returns false'. Refute it at one input. -/
def valScalesWrong : ChangeSpec := { name := "valScales", fn := fun _ => fun
  | [d1, d2, d3] => { results := [.lit (.bool false)], args := [d1, d2, d3] }
  | _ => none }
def ValScalesWrongFalsely : Prop := valScalesRow.holds Try.pinned (OpenSpec.ofChange valScalesWrong)

/-- 'federationlaw1.ValInts': WHATEVER THE INPUT: true; the input reads as it did. -/
def valIntsSpec : ChangeSpec := { name := "valInts", fn := fun _ => fun
  | [d1, d2, d3] => { results := [.lit (.bool true)], args := [d1, d2, d3] }
  | _ => none }
def valIntsRow : OpenClaim := { program := "ytllkhdhanheieaa", sum := "4b093d6d79ffdab47ea990f8caf4ad0963e63f8e282a3b924992a6d4d9ac0855", func := "federation/federationlaw1.ValInts", spec := "valInts", inPlace := ["internal/bytealg.abigen_runtime_cmpstring"], unfollowed := true, recurses := true, apart := false }
def ValIntsSaid : Prop := valIntsRow.holds Try.pinned (OpenSpec.ofChange valIntsSpec)

/-- ITS FALSE NEIGHBOUR: 'it returns false'. Refute it at one input. -/
def valIntsWrong : ChangeSpec := { name := "valInts", fn := fun _ => fun
  | [d1, d2, d3] => { results := [.lit (.bool false)], args := [d1, d2, d3] }
  | _ => none }
def ValIntsWrongFalsely : Prop := valIntsRow.holds Try.pinned (OpenSpec.ofChange valIntsWrong)

/-- 'federationlaw1.ValKinds': WHATEVER THE INPUT: true; the input reads as it did. -/
def valKindsSpec : ChangeSpec := { name := "valKinds", fn := fun _ => fun
  | [d1, d2, d3, d4, d5, d6] => { results := [.lit (.bool true)], args := [d1, d2, d3, d4, d5, d6] }
  | _ => none }
def valKindsRow : OpenClaim := { program := "ytllkhdhanheieaa", sum := "4b093d6d79ffdab47ea990f8caf4ad0963e63f8e282a3b924992a6d4d9ac0855", func := "federation/federationlaw1.ValKinds", spec := "valKinds", inPlace := ["internal/bytealg.abigen_runtime_cmpstring"], unfollowed := true, recurses := true, apart := false }
def ValKindsSaid : Prop := valKindsRow.holds Try.pinned (OpenSpec.ofChange valKindsSpec)

/-- ITS FALSE NEIGHBOUR: 'it returns false'. Refute it at one input. -/
def valKindsWrong : ChangeSpec := { name := "valKinds", fn := fun _ => fun
  | [d1, d2, d3, d4, d5, d6] => { results := [.lit (.bool false)], args := [d1, d2, d3, d4, d5, d6] }
  | _ => none }
def ValKindsWrongFalsely : Prop := valKindsRow.holds Try.pinned (OpenSpec.ofChange valKindsWrong)

/-- 'federationlaw1.ValOrder': WHATEVER THE INPUT: true; the input reads as it did. -/
def valOrderSpec : ChangeSpec := { name := "valOrder", fn := fun _ => fun
  | [d1, d2, d3, d4, d5, d6, d7, d8] => { results := [.lit (.bool true)], args := [d1, d2, d3, d4, d5, d6, d7, d8] }
  | _ => none }
def valOrderRow : OpenClaim := { program := "ytllkhdhanheieaa", sum := "4b093d6d79ffdab47ea990f8caf4ad0963e63f8e282a3b924992a6d4d9ac0855", func := "federation/federationlaw1.ValOrder", spec := "valOrder", inPlace := ["internal/bytealg.abigen_runtime_cmpstring"], unfollowed := true, recurses := true, apart := false }
def ValOrderSaid : Prop := valOrderRow.holds Try.pinned (OpenSpec.ofChange valOrderSpec)

/-- ITS FALSE NEIGHBOUR: 'it returns false'. Refute it at one input. -/
def valOrderWrong : ChangeSpec := { name := "valOrder", fn := fun _ => fun
  | [d1, d2, d3, d4, d5, d6, d7, d8] => { results := [.lit (.bool false)], args := [d1, d2, d3, d4, d5, d6, d7, d8] }
  | _ => none }
def ValOrderWrongFalsely : Prop := valOrderRow.holds Try.pinned (OpenSpec.ofChange valOrderWrong)

/- THE SECOND FORM. 'bulk': how many values and letters a reading holds, each counted each time it is reached (what is shared counts as often as it is met; a slice's spare places count too). A statement '..UptoSaid' is the law's where the arguments, and the package variables that the reading takes, are together of bulk at most 1048576: NARROWER than '..Said'. Prove '..Said' where nothing that the law and all that it calls make is longer than what came in: it says more and counts as full. Else prove '..UptoSaid'. A law counts once. -/
mutual
def uptoBulk {H : Type} : DataW H → Nat
  | .lit (.string bytes) => bytes.length + 1
  | .lit _ => 1
  | .nil => 1
  | .ptr d => uptoBulk d + 1
  | .slice elems spare => uptoBulkAll elems + uptoBulkAll spare + 1
  | .agg parts => uptoBulkAll parts + 1
  | .iface _ d => uptoBulk d + 1
  | .map entries => uptoBulkEntries entries + 1
  | .held _ => 1
def uptoBulkAll {H : Type} : List (DataW H) → Nat
  | [] => 0
  | d :: r => uptoBulk d + uptoBulkAll r
def uptoBulkEntries {H : Type} : List (Lit × DataW H) → Nat
  | [] => 0
  | x :: r => uptoBulkEntry x + uptoBulkEntries r
def uptoBulkEntry {H : Type} : Lit × DataW H → Nat
  | (.string bytes, d) => bytes.length + uptoBulk d + 1
  | (_, d) => uptoBulk d + 1
 end
def uptoSmall : (H : Type) → List (DataW H) → Bool := fun _ ds => decide (uptoBulkAll ds ≤ 1048576)
def OpenSpec.upto (s : _root_.Go.ChangeSpec) : _root_.Go.OpenSpec := { _root_.Go.OpenSpec.ofChange s with cond := some uptoSmall }

/-- 'federationlaw1.ValRight', WHERE WHAT IT READS IS OF BULK AT MOST 1048576: true; the input reads as it did. -/
def valRightUptoRow : OpenClaim := { program := "ytllkhdhanheieaa", sum := "4b093d6d79ffdab47ea990f8caf4ad0963e63f8e282a3b924992a6d4d9ac0855", func := "federation/federationlaw1.ValRight", spec := "valRight", inPlace := ["internal/bytealg.abigen_runtime_cmpstring"], unfollowed := true, recurses := true, apart := false, narrowed := true }
def ValRightUptoSaid : Prop := valRightUptoRow.holds Try.pinned (OpenSpec.upto valRightSpec)

/-- 'federationlaw1.ValReckons', WHERE WHAT IT READS IS OF BULK AT MOST 1048576: true; the input reads as it did. -/
def valReckonsUptoRow : OpenClaim := { program := "ytllkhdhanheieaa", sum := "4b093d6d79ffdab47ea990f8caf4ad0963e63f8e282a3b924992a6d4d9ac0855", func := "federation/federationlaw1.ValReckons", spec := "valReckons", inPlace := ["internal/bytealg.abigen_runtime_cmpstring"], unfollowed := true, recurses := true, apart := false, narrowed := true }
def ValReckonsUptoSaid : Prop := valReckonsUptoRow.holds Try.pinned (OpenSpec.upto valReckonsSpec)

/-- 'federationlaw1.ValLaws', WHERE WHAT IT READS IS OF BULK AT MOST 1048576: true; the input reads as it did. -/
def valLawsUptoRow : OpenClaim := { program := "ytllkhdhanheieaa", sum := "4b093d6d79ffdab47ea990f8caf4ad0963e63f8e282a3b924992a6d4d9ac0855", func := "federation/federationlaw1.ValLaws", spec := "valLaws", inPlace := ["internal/bytealg.abigen_runtime_cmpstring"], unfollowed := true, recurses := true, apart := false, narrowed := true }
def ValLawsUptoSaid : Prop := valLawsUptoRow.holds Try.pinned (OpenSpec.upto valLawsSpec)

/-- 'federationlaw1.ValNulls', WHERE WHAT IT READS IS OF BULK AT MOST 1048576: true; the input reads as it did. -/
def valNullsUptoRow : OpenClaim := { program := "ytllkhdhanheieaa", sum := "4b093d6d79ffdab47ea990f8caf4ad0963e63f8e282a3b924992a6d4d9ac0855", func := "federation/federationlaw1.ValNulls", spec := "valNulls", inPlace := ["internal/bytealg.abigen_runtime_cmpstring"], unfollowed := true, recurses := true, apart := false, narrowed := true }
def ValNullsUptoSaid : Prop := valNullsUptoRow.holds Try.pinned (OpenSpec.upto valNullsSpec)

/-- 'federationlaw1.ValKnown', WHERE WHAT IT READS IS OF BULK AT MOST 1048576: true; the input reads as it did. -/
def valKnownUptoRow : OpenClaim := { program := "ytllkhdhanheieaa", sum := "4b093d6d79ffdab47ea990f8caf4ad0963e63f8e282a3b924992a6d4d9ac0855", func := "federation/federationlaw1.ValKnown", spec := "valKnown", inPlace := ["internal/bytealg.abigen_runtime_cmpstring"], unfollowed := true, recurses := true, apart := false, narrowed := true }
def ValKnownUptoSaid : Prop := valKnownUptoRow.holds Try.pinned (OpenSpec.upto valKnownSpec)

/-- 'federationlaw1.ValDecs', WHERE WHAT IT READS IS OF BULK AT MOST 1048576: true; the input reads as it did. -/
def valDecsUptoRow : OpenClaim := { program := "ytllkhdhanheieaa", sum := "4b093d6d79ffdab47ea990f8caf4ad0963e63f8e282a3b924992a6d4d9ac0855", func := "federation/federationlaw1.ValDecs", spec := "valDecs", inPlace := ["internal/bytealg.abigen_runtime_cmpstring"], unfollowed := true, recurses := true, apart := false, narrowed := true }
def ValDecsUptoSaid : Prop := valDecsUptoRow.holds Try.pinned (OpenSpec.upto valDecsSpec)

/-- 'federationlaw1.ValScales', WHERE WHAT IT READS IS OF BULK AT MOST 1048576: true; the input reads as it did. -/
def valScalesUptoRow : OpenClaim := { program := "ytllkhdhanheieaa", sum := "4b093d6d79ffdab47ea990f8caf4ad0963e63f8e282a3b924992a6d4d9ac0855", func := "federation/federationlaw1.ValScales", spec := "valScales", inPlace := ["internal/bytealg.abigen_runtime_cmpstring"], unfollowed := true, recurses := true, apart := false, narrowed := true }
def ValScalesUptoSaid : Prop := valScalesUptoRow.holds Try.pinned (OpenSpec.upto valScalesSpec)

/-- 'federationlaw1.ValInts', WHERE WHAT IT READS IS OF BULK AT MOST 1048576: true; the input reads as it did. -/
def valIntsUptoRow : OpenClaim := { program := "ytllkhdhanheieaa", sum := "4b093d6d79ffdab47ea990f8caf4ad0963e63f8e282a3b924992a6d4d9ac0855", func := "federation/federationlaw1.ValInts", spec := "valInts", inPlace := ["internal/bytealg.abigen_runtime_cmpstring"], unfollowed := true, recurses := true, apart := false, narrowed := true }
def ValIntsUptoSaid : Prop := valIntsUptoRow.holds Try.pinned (OpenSpec.upto valIntsSpec)

/-- 'federationlaw1.ValKinds', WHERE WHAT IT READS IS OF BULK AT MOST 1048576: true; the input reads as it did. -/
def valKindsUptoRow : OpenClaim := { program := "ytllkhdhanheieaa", sum := "4b093d6d79ffdab47ea990f8caf4ad0963e63f8e282a3b924992a6d4d9ac0855", func := "federation/federationlaw1.ValKinds", spec := "valKinds", inPlace := ["internal/bytealg.abigen_runtime_cmpstring"], unfollowed := true, recurses := true, apart := false, narrowed := true }
def ValKindsUptoSaid : Prop := valKindsUptoRow.holds Try.pinned (OpenSpec.upto valKindsSpec)

/-- 'federationlaw1.ValOrder', WHERE WHAT IT READS IS OF BULK AT MOST 1048576: true; the input reads as it did. -/
def valOrderUptoRow : OpenClaim := { program := "ytllkhdhanheieaa", sum := "4b093d6d79ffdab47ea990f8caf4ad0963e63f8e282a3b924992a6d4d9ac0855", func := "federation/federationlaw1.ValOrder", spec := "valOrder", inPlace := ["internal/bytealg.abigen_runtime_cmpstring"], unfollowed := true, recurses := true, apart := false, narrowed := true }
def ValOrderUptoSaid : Prop := valOrderUptoRow.holds Try.pinned (OpenSpec.upto valOrderSpec)

end Rows
end Go.Proofs.Ytllkhdhanheieaa
