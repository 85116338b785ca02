/-
  NARROWER THAN 'FOR EVERY INPUT', by the rows' own cells (each row's printed sentence says how): EvalAll: loops · EvalLits: loops.
  DERIVED. THE GIVEN ROWS OF THIS SEAT. 9 by the template 'for every input the law returns true; each argument reads behind the call as it read before'; 0 by the template 'total and deterministic' (their statements: YtglffgneikoeaaaTotals.lean).
  GIVEN WITH THE SEED: the statements are not yours to turn. If you find one false, say at which input.
  Laid BY PROGRAM, IN A SANDBOX (cutbox-rows.mjs): the forced cells as the released guide's own fill.sh prints them over the translation 56fa34d963bfb777… (all of the seat's roots in one cut). By AI agents, Wed Nov 11 2026. No macro, syntax, notation, axiom, sorry.
-/
import Derived.Test.YtglffgneikoeaaaChecked
import GoSem.Claim
import GoSem.ClaimJoined
import GoSem.ClaimMapViews
import Derived.JoinedTies
import Derived.KernelRfl
namespace Go.Proofs.Ytglffgneikoeaaa
/- THE CELL 'sum', in the pinned program and in every row, IS THE sha256 OF THE DUMP (.gsa) THAT YtglffgneikoeaaaProg.lean LOADS. Nothing in Lean hashes anything: it is a label: what it is worth is what the hold of that sum in a sandbox is worth. -/
noncomputable def Try.pinned : Pinned := { name := "ytglffgneikoeaaa", sum := "56fa34d963bfb7770c0843e0dc7b181b3402bc13ff3a3eaf4d97dbba0e94105c", checked := Try.checked }
namespace Rows
def none {H : Type} : Left H := { results := [], args := [] }

/-- 'federationlaw4.EvalAll': WHATEVER THE INPUT: true; the input reads as it did. -/
def evalAllSpec : ChangeSpec := { name := "evalAll", fn := fun _ => fun
  | [d1, d2, d3, d4, d5] => { results := [.lit (.bool true)], args := [d1, d2, d3, d4, d5] }
  | _ => none }
def evalAllRow : OpenClaim := { program := "ytglffgneikoeaaa", sum := "56fa34d963bfb7770c0843e0dc7b181b3402bc13ff3a3eaf4d97dbba0e94105c", func := "federation/federationlaw4.EvalAll", spec := "evalAll", inPlace := ["internal/bytealg.abigen_runtime_cmpstring"], unfollowed := true, recurses := true, loops := true, apart := false }
def EvalAllSaid : Prop := evalAllRow.holds Try.pinned (OpenSpec.ofChange evalAllSpec)

/-- ITS FALSE NEIGHBOUR: 'it returns false'. Refute it at one input. -/
def evalAllWrong : ChangeSpec := { name := "evalAll", fn := fun _ => fun
  | [d1, d2, d3, d4, d5] => { results := [.lit (.bool false)], args := [d1, d2, d3, d4, d5] }
  | _ => none }
def EvalAllWrongFalsely : Prop := evalAllRow.holds Try.pinned (OpenSpec.ofChange evalAllWrong)

/-- 'federationlaw4.EvalLogic': WHATEVER THE INPUT: true; the input reads as it did. -/
def evalLogicSpec : ChangeSpec := { name := "evalLogic", fn := fun _ => fun
  | [d1, d2] => { results := [.lit (.bool true)], args := [d1, d2] }
  | _ => none }
def evalLogicRow : OpenClaim := { program := "ytglffgneikoeaaa", sum := "56fa34d963bfb7770c0843e0dc7b181b3402bc13ff3a3eaf4d97dbba0e94105c", func := "federation/federationlaw4.EvalLogic", spec := "evalLogic", inPlace := ["internal/bytealg.abigen_runtime_cmpstring"], unfollowed := true, recurses := true, apart := false }
def EvalLogicSaid : Prop := evalLogicRow.holds Try.pinned (OpenSpec.ofChange evalLogicSpec)

/-- ITS FALSE NEIGHBOUR: 'it returns false'. Refute it at one input. -/
def evalLogicWrong : ChangeSpec := { name := "evalLogic", fn := fun _ => fun
  | [d1, d2] => { results := [.lit (.bool false)], args := [d1, d2] }
  | _ => none }
def EvalLogicWrongFalsely : Prop := evalLogicRow.holds Try.pinned (OpenSpec.ofChange evalLogicWrong)

/-- 'federationlaw4.EvalCompares': WHATEVER THE INPUT: true; the input reads as it did. -/
def evalComparesSpec : ChangeSpec := { name := "evalCompares", fn := fun _ => fun
  | [d1, d2, d3] => { results := [.lit (.bool true)], args := [d1, d2, d3] }
  | _ => none }
def evalComparesRow : OpenClaim := { program := "ytglffgneikoeaaa", sum := "56fa34d963bfb7770c0843e0dc7b181b3402bc13ff3a3eaf4d97dbba0e94105c", func := "federation/federationlaw4.EvalCompares", spec := "evalCompares", inPlace := ["internal/bytealg.abigen_runtime_cmpstring"], unfollowed := true, recurses := true, apart := false }
def EvalComparesSaid : Prop := evalComparesRow.holds Try.pinned (OpenSpec.ofChange evalComparesSpec)

/-- ITS FALSE NEIGHBOUR: 'it returns false'. Refute it at one input. -/
def evalComparesWrong : ChangeSpec := { name := "evalCompares", fn := fun _ => fun
  | [d1, d2, d3] => { results := [.lit (.bool false)], args := [d1, d2, d3] }
  | _ => none }
def EvalComparesWrongFalsely : Prop := evalComparesRow.holds Try.pinned (OpenSpec.ofChange evalComparesWrong)

/-- 'federationlaw4.EvalNulls': WHATEVER THE INPUT: true; the input reads as it did. -/
def evalNullsSpec : ChangeSpec := { name := "evalNulls", fn := fun _ => fun
  | [d1, d2, d3, d4, d5] => { results := [.lit (.bool true)], args := [d1, d2, d3, d4, d5] }
  | _ => none }
def evalNullsRow : OpenClaim := { program := "ytglffgneikoeaaa", sum := "56fa34d963bfb7770c0843e0dc7b181b3402bc13ff3a3eaf4d97dbba0e94105c", func := "federation/federationlaw4.EvalNulls", spec := "evalNulls", inPlace := ["internal/bytealg.abigen_runtime_cmpstring"], unfollowed := true, recurses := true, apart := false }
def EvalNullsSaid : Prop := evalNullsRow.holds Try.pinned (OpenSpec.ofChange evalNullsSpec)

/-- ITS FALSE NEIGHBOUR: 'it returns false'. Refute it at one input. -/
def evalNullsWrong : ChangeSpec := { name := "evalNulls", fn := fun _ => fun
  | [d1, d2, d3, d4, d5] => { results := [.lit (.bool false)], args := [d1, d2, d3, d4, d5] }
  | _ => none }
def EvalNullsWrongFalsely : Prop := evalNullsRow.holds Try.pinned (OpenSpec.ofChange evalNullsWrong)

/-- 'federationlaw4.EvalErrs': WHATEVER THE INPUT: true; the input reads as it did. -/
def evalErrsSpec : ChangeSpec := { name := "evalErrs", fn := fun _ => fun
  | [d] => { results := [.lit (.bool true)], args := [d] }
  | _ => none }
def evalErrsRow : OpenClaim := { program := "ytglffgneikoeaaa", sum := "56fa34d963bfb7770c0843e0dc7b181b3402bc13ff3a3eaf4d97dbba0e94105c", func := "federation/federationlaw4.EvalErrs", spec := "evalErrs", inPlace := ["internal/bytealg.abigen_runtime_cmpstring"], unfollowed := true, recurses := true, apart := false }
def EvalErrsSaid : Prop := evalErrsRow.holds Try.pinned (OpenSpec.ofChange evalErrsSpec)

/-- ITS FALSE NEIGHBOUR: 'it returns false'. Refute it at one input. -/
def evalErrsWrong : ChangeSpec := { name := "evalErrs", fn := fun _ => fun
  | [d] => { results := [.lit (.bool false)], args := [d] }
  | _ => none }
def EvalErrsWrongFalsely : Prop := evalErrsRow.holds Try.pinned (OpenSpec.ofChange evalErrsWrong)

/-- 'federationlaw4.EvalReckons': WHATEVER THE INPUT: true; the input reads as it did. -/
def evalReckonsSpec : ChangeSpec := { name := "evalReckons", fn := fun _ => fun
  | [d1, d2, d3] => { results := [.lit (.bool true)], args := [d1, d2, d3] }
  | _ => none }
def evalReckonsRow : OpenClaim := { program := "ytglffgneikoeaaa", sum := "56fa34d963bfb7770c0843e0dc7b181b3402bc13ff3a3eaf4d97dbba0e94105c", func := "federation/federationlaw4.EvalReckons", spec := "evalReckons", inPlace := ["internal/bytealg.abigen_runtime_cmpstring"], unfollowed := true, recurses := true, apart := false }
def EvalReckonsSaid : Prop := evalReckonsRow.holds Try.pinned (OpenSpec.ofChange evalReckonsSpec)

/-- ITS FALSE NEIGHBOUR: 'it returns false'. Refute it at one input. -/
def evalReckonsWrong : ChangeSpec := { name := "evalReckons", fn := fun _ => fun
  | [d1, d2, d3] => { results := [.lit (.bool false)], args := [d1, d2, d3] }
  | _ => none }
def EvalReckonsWrongFalsely : Prop := evalReckonsRow.holds Try.pinned (OpenSpec.ofChange evalReckonsWrong)

/-- 'federationlaw4.EvalFirst': WHATEVER THE INPUT: true; the input reads as it did. -/
def evalFirstSpec : ChangeSpec := { name := "evalFirst", fn := fun _ => fun
  | [d1, d2] => { results := [.lit (.bool true)], args := [d1, d2] }
  | _ => none }
def evalFirstRow : OpenClaim := { program := "ytglffgneikoeaaa", sum := "56fa34d963bfb7770c0843e0dc7b181b3402bc13ff3a3eaf4d97dbba0e94105c", func := "federation/federationlaw4.EvalFirst", spec := "evalFirst", inPlace := ["internal/bytealg.abigen_runtime_cmpstring"], unfollowed := true, recurses := true, apart := false }
def EvalFirstSaid : Prop := evalFirstRow.holds Try.pinned (OpenSpec.ofChange evalFirstSpec)

/-- ITS FALSE NEIGHBOUR: 'it returns false'. Refute it at one input. -/
def evalFirstWrong : ChangeSpec := { name := "evalFirst", fn := fun _ => fun
  | [d1, d2] => { results := [.lit (.bool false)], args := [d1, d2] }
  | _ => none }
def EvalFirstWrongFalsely : Prop := evalFirstRow.holds Try.pinned (OpenSpec.ofChange evalFirstWrong)

/-- 'federationlaw4.EvalLits': WHATEVER THE INPUT: true; the input reads as it did. -/
def evalLitsSpec : ChangeSpec := { name := "evalLits", fn := fun _ => fun
  | [d1, d2, d3, d4] => { results := [.lit (.bool true)], args := [d1, d2, d3, d4] }
  | _ => none }
def evalLitsRow : OpenClaim := { program := "ytglffgneikoeaaa", sum := "56fa34d963bfb7770c0843e0dc7b181b3402bc13ff3a3eaf4d97dbba0e94105c", func := "federation/federationlaw4.EvalLits", spec := "evalLits", inPlace := ["internal/bytealg.abigen_runtime_cmpstring"], unfollowed := true, recurses := true, loops := true, apart := false }
def EvalLitsSaid : Prop := evalLitsRow.holds Try.pinned (OpenSpec.ofChange evalLitsSpec)

/-- ITS FALSE NEIGHBOUR: 'it returns false'. Refute it at one input. -/
def evalLitsWrong : ChangeSpec := { name := "evalLits", fn := fun _ => fun
  | [d1, d2, d3, d4] => { results := [.lit (.bool false)], args := [d1, d2, d3, d4] }
  | _ => none }
def EvalLitsWrongFalsely : Prop := evalLitsRow.holds Try.pinned (OpenSpec.ofChange evalLitsWrong)

/-- 'federationlaw4.EvalSame': WHATEVER THE INPUT: true; the input reads as it did. -/
def evalSameSpec : ChangeSpec := { name := "evalSame", fn := fun _ => fun
  | [d1, d2, d3] => { results := [.lit (.bool true)], args := [d1, d2, d3] }
  | _ => none }
def evalSameRow : OpenClaim := { program := "ytglffgneikoeaaa", sum := "56fa34d963bfb7770c0843e0dc7b181b3402bc13ff3a3eaf4d97dbba0e94105c", func := "federation/federationlaw4.EvalSame", spec := "evalSame", inPlace := ["internal/bytealg.abigen_runtime_cmpstring"], unfollowed := true, recurses := true, apart := false }
def EvalSameSaid : Prop := evalSameRow.holds Try.pinned (OpenSpec.ofChange evalSameSpec)

/-- ITS FALSE NEIGHBOUR: 'it returns false'. Refute it at one input. -/
def evalSameWrong : ChangeSpec := { name := "evalSame", fn := fun _ => fun
  | [d1, d2, d3] => { results := [.lit (.bool false)], args := [d1, d2, d3] }
  | _ => none }
def EvalSameWrongFalsely : Prop := evalSameRow.holds Try.pinned (OpenSpec.ofChange evalSameWrong)

/- THE SECOND FORM. 'bulk': how many values and letters a reading holds, each counted each time it is reached (what is shared counts as often as it is met; a slice's spare places count too). A statement '..UptoSaid' is the law's where the arguments, and the package variables that the reading takes, are together of bulk at most 1048576: NARROWER than '..Said'. Prove '..Said' where nothing that the law and all that it calls make is longer than what came in: it says more and counts as full. Else prove '..UptoSaid'. A law counts once. -/
mutual
def uptoBulk {H : Type} : DataW H → Nat
  | .lit (.string bytes) => bytes.length + 1
  | .lit _ => 1
  | .nil => 1
  | .ptr d => uptoBulk d + 1
  | .slice elems spare => uptoBulkAll elems + uptoBulkAll spare + 1
  | .agg parts => uptoBulkAll parts + 1
  | .iface _ d => uptoBulk d + 1
  | .map entries => uptoBulkEntries entries + 1
  | .held _ => 1
def uptoBulkAll {H : Type} : List (DataW H) → Nat
  | [] => 0
  | d :: r => uptoBulk d + uptoBulkAll r
def uptoBulkEntries {H : Type} : List (Lit × DataW H) → Nat
  | [] => 0
  | x :: r => uptoBulkEntry x + uptoBulkEntries r
def uptoBulkEntry {H : Type} : Lit × DataW H → Nat
  | (.string bytes, d) => bytes.length + uptoBulk d + 1
  | (_, d) => uptoBulk d + 1
 end
def uptoSmall : (H : Type) → List (DataW H) → Bool := fun _ ds => decide (uptoBulkAll ds ≤ 1048576)
def OpenSpec.upto (s : _root_.Go.ChangeSpec) : _root_.Go.OpenSpec := { _root_.Go.OpenSpec.ofChange s with cond := some uptoSmall }

/-- 'federationlaw4.EvalAll', WHERE WHAT IT READS IS OF BULK AT MOST 1048576: true; the input reads as it did. -/
def evalAllUptoRow : OpenClaim := { program := "ytglffgneikoeaaa", sum := "56fa34d963bfb7770c0843e0dc7b181b3402bc13ff3a3eaf4d97dbba0e94105c", func := "federation/federationlaw4.EvalAll", spec := "evalAll", inPlace := ["internal/bytealg.abigen_runtime_cmpstring"], unfollowed := true, recurses := true, loops := true, apart := false, narrowed := true }
def EvalAllUptoSaid : Prop := evalAllUptoRow.holds Try.pinned (OpenSpec.upto evalAllSpec)

/-- 'federationlaw4.EvalLogic', WHERE WHAT IT READS IS OF BULK AT MOST 1048576: true; the input reads as it did. -/
def evalLogicUptoRow : OpenClaim := { program := "ytglffgneikoeaaa", sum := "56fa34d963bfb7770c0843e0dc7b181b3402bc13ff3a3eaf4d97dbba0e94105c", func := "federation/federationlaw4.EvalLogic", spec := "evalLogic", inPlace := ["internal/bytealg.abigen_runtime_cmpstring"], unfollowed := true, recurses := true, apart := false, narrowed := true }
def EvalLogicUptoSaid : Prop := evalLogicUptoRow.holds Try.pinned (OpenSpec.upto evalLogicSpec)

/-- 'federationlaw4.EvalCompares', WHERE WHAT IT READS IS OF BULK AT MOST 1048576: true; the input reads as it did. -/
def evalComparesUptoRow : OpenClaim := { program := "ytglffgneikoeaaa", sum := "56fa34d963bfb7770c0843e0dc7b181b3402bc13ff3a3eaf4d97dbba0e94105c", func := "federation/federationlaw4.EvalCompares", spec := "evalCompares", inPlace := ["internal/bytealg.abigen_runtime_cmpstring"], unfollowed := true, recurses := true, apart := false, narrowed := true }
def EvalComparesUptoSaid : Prop := evalComparesUptoRow.holds Try.pinned (OpenSpec.upto evalComparesSpec)

/-- 'federationlaw4.EvalNulls', WHERE WHAT IT READS IS OF BULK AT MOST 1048576: true; the input reads as it did. -/
def evalNullsUptoRow : OpenClaim := { program := "ytglffgneikoeaaa", sum := "56fa34d963bfb7770c0843e0dc7b181b3402bc13ff3a3eaf4d97dbba0e94105c", func := "federation/federationlaw4.EvalNulls", spec := "evalNulls", inPlace := ["internal/bytealg.abigen_runtime_cmpstring"], unfollowed := true, recurses := true, apart := false, narrowed := true }
def EvalNullsUptoSaid : Prop := evalNullsUptoRow.holds Try.pinned (OpenSpec.upto evalNullsSpec)

/-- 'federationlaw4.EvalErrs', WHERE WHAT IT READS IS OF BULK AT MOST 1048576: true; the input reads as it did. -/
def evalErrsUptoRow : OpenClaim := { program := "ytglffgneikoeaaa", sum := "56fa34d963bfb7770c0843e0dc7b181b3402bc13ff3a3eaf4d97dbba0e94105c", func := "federation/federationlaw4.EvalErrs", spec := "evalErrs", inPlace := ["internal/bytealg.abigen_runtime_cmpstring"], unfollowed := true, recurses := true, apart := false, narrowed := true }
def EvalErrsUptoSaid : Prop := evalErrsUptoRow.holds Try.pinned (OpenSpec.upto evalErrsSpec)

/-- 'federationlaw4.EvalReckons', WHERE WHAT IT READS IS OF BULK AT MOST 1048576: true; the input reads as it did. -/
def evalReckonsUptoRow : OpenClaim := { program := "ytglffgneikoeaaa", sum := "56fa34d963bfb7770c0843e0dc7b181b3402bc13ff3a3eaf4d97dbba0e94105c", func := "federation/federationlaw4.EvalReckons", spec := "evalReckons", inPlace := ["internal/bytealg.abigen_runtime_cmpstring"], unfollowed := true, recurses := true, apart := false, narrowed := true }
def EvalReckonsUptoSaid : Prop := evalReckonsUptoRow.holds Try.pinned (OpenSpec.upto evalReckonsSpec)

/-- 'federationlaw4.EvalFirst', WHERE WHAT IT READS IS OF BULK AT MOST 1048576: true; the input reads as it did. -/
def evalFirstUptoRow : OpenClaim := { program := "ytglffgneikoeaaa", sum := "56fa34d963bfb7770c0843e0dc7b181b3402bc13ff3a3eaf4d97dbba0e94105c", func := "federation/federationlaw4.EvalFirst", spec := "evalFirst", inPlace := ["internal/bytealg.abigen_runtime_cmpstring"], unfollowed := true, recurses := true, apart := false, narrowed := true }
def EvalFirstUptoSaid : Prop := evalFirstUptoRow.holds Try.pinned (OpenSpec.upto evalFirstSpec)

/-- 'federationlaw4.EvalLits', WHERE WHAT IT READS IS OF BULK AT MOST 1048576: true; the input reads as it did. -/
def evalLitsUptoRow : OpenClaim := { program := "ytglffgneikoeaaa", sum := "56fa34d963bfb7770c0843e0dc7b181b3402bc13ff3a3eaf4d97dbba0e94105c", func := "federation/federationlaw4.EvalLits", spec := "evalLits", inPlace := ["internal/bytealg.abigen_runtime_cmpstring"], unfollowed := true, recurses := true, loops := true, apart := false, narrowed := true }
def EvalLitsUptoSaid : Prop := evalLitsUptoRow.holds Try.pinned (OpenSpec.upto evalLitsSpec)

/-- 'federationlaw4.EvalSame', WHERE WHAT IT READS IS OF BULK AT MOST 1048576: true; the input reads as it did. -/
def evalSameUptoRow : OpenClaim := { program := "ytglffgneikoeaaa", sum := "56fa34d963bfb7770c0843e0dc7b181b3402bc13ff3a3eaf4d97dbba0e94105c", func := "federation/federationlaw4.EvalSame", spec := "evalSame", inPlace := ["internal/bytealg.abigen_runtime_cmpstring"], unfollowed := true, recurses := true, apart := false, narrowed := true }
def EvalSameUptoSaid : Prop := evalSameUptoRow.holds Try.pinned (OpenSpec.upto evalSameSpec)

end Rows
end Go.Proofs.Ytglffgneikoeaaa
