/-
  No cell of these rows narrows 'for every input' (looked for: loops, veiled, ifaces, maps, wideKeys, modest, calm, conditions, laid).
  DERIVED. THE GIVEN ROWS OF THIS SEAT. 9 by the template 'for every input the law returns true; each argument reads behind the call as it read before'; 0 by the template 'total and deterministic' (their statements: YtjacflmgbmfhcaaTotals.lean).
  GIVEN WITH THE SEED: the statements are not yours to turn. If you find one false, say at which input.
  Laid BY PROGRAM, IN A SANDBOX (cutbox-rows.mjs): the forced cells as the released guide's own fill.sh prints them over the translation 92cb063b5a548170… (all of the seat's roots in one cut). By AI agents, Wed Nov 11 2026. No macro, syntax, notation, axiom, sorry.
-/
import Derived.Test.YtjacflmgbmfhcaaChecked
import GoSem.Claim
import GoSem.ClaimJoined
import GoSem.ClaimMapViews
import Derived.JoinedTies
import Derived.KernelRfl
namespace Go.Proofs.Ytjacflmgbmfhcaa
/- THE CELL 'sum', in the pinned program and in every row, IS THE sha256 OF THE DUMP (.gsa) THAT YtjacflmgbmfhcaaProg.lean LOADS. Nothing in Lean hashes anything: it is a label: what it is worth is what the hold of that sum in a sandbox is worth. -/
noncomputable def Try.pinned : Pinned := { name := "ytjacflmgbmfhcaa", sum := "92cb063b5a548170cc2ea76e5dd4fe2ad4314db4ff883dd09de20c0703531371", checked := Try.checked }
namespace Rows
def none {H : Type} : Left H := { results := [], args := [] }

/-- 'federationlaw2.KeyBack': WHATEVER THE INPUT: true; the input reads as it did. -/
def keyBackSpec : ChangeSpec := { name := "keyBack", fn := fun _ => fun
  | [d1, d2, d3, d4] => { results := [.lit (.bool true)], args := [d1, d2, d3, d4] }
  | _ => none }
def keyBackRow : OpenClaim := { program := "ytjacflmgbmfhcaa", sum := "92cb063b5a548170cc2ea76e5dd4fe2ad4314db4ff883dd09de20c0703531371", func := "federation/federationlaw2.KeyBack", spec := "keyBack", unfollowed := true, recurses := true, apart := false }
def KeyBackSaid : Prop := keyBackRow.holds Try.pinned (OpenSpec.ofChange keyBackSpec)

/-- ITS FALSE NEIGHBOUR: 'it returns false'. Refute it at one input. -/
def keyBackWrong : ChangeSpec := { name := "keyBack", fn := fun _ => fun
  | [d1, d2, d3, d4] => { results := [.lit (.bool false)], args := [d1, d2, d3, d4] }
  | _ => none }
def KeyBackWrongFalsely : Prop := keyBackRow.holds Try.pinned (OpenSpec.ofChange keyBackWrong)

/-- 'federationlaw2.KeyOrder': WHATEVER THE INPUT: true; the input reads as it did. -/
def keyOrderSpec : ChangeSpec := { name := "keyOrder", fn := fun _ => fun
  | [d1, d2, d3, d4, d5, d6] => { results := [.lit (.bool true)], args := [d1, d2, d3, d4, d5, d6] }
  | _ => none }
def keyOrderRow : OpenClaim := { program := "ytjacflmgbmfhcaa", sum := "92cb063b5a548170cc2ea76e5dd4fe2ad4314db4ff883dd09de20c0703531371", func := "federation/federationlaw2.KeyOrder", spec := "keyOrder", unfollowed := true, recurses := true, apart := false }
def KeyOrderSaid : Prop := keyOrderRow.holds Try.pinned (OpenSpec.ofChange keyOrderSpec)

/-- ITS FALSE NEIGHBOUR: 'it returns false'. Refute it at one input. -/
def keyOrderWrong : ChangeSpec := { name := "keyOrder", fn := fun _ => fun
  | [d1, d2, d3, d4, d5, d6] => { results := [.lit (.bool false)], args := [d1, d2, d3, d4, d5, d6] }
  | _ => none }
def KeyOrderWrongFalsely : Prop := keyOrderRow.holds Try.pinned (OpenSpec.ofChange keyOrderWrong)

/-- 'federationlaw2.KeyRows': WHATEVER THE INPUT: true; the input reads as it did. -/
def keyRowsSpec : ChangeSpec := { name := "keyRows", fn := fun _ => fun
  | [d1, d2, d3] => { results := [.lit (.bool true)], args := [d1, d2, d3] }
  | _ => none }
def keyRowsRow : OpenClaim := { program := "ytjacflmgbmfhcaa", sum := "92cb063b5a548170cc2ea76e5dd4fe2ad4314db4ff883dd09de20c0703531371", func := "federation/federationlaw2.KeyRows", spec := "keyRows", unfollowed := true, recurses := true, apart := false }
def KeyRowsSaid : Prop := keyRowsRow.holds Try.pinned (OpenSpec.ofChange keyRowsSpec)

/-- ITS FALSE NEIGHBOUR: 'it returns false'. Refute it at one input. -/
def keyRowsWrong : ChangeSpec := { name := "keyRows", fn := fun _ => fun
  | [d1, d2, d3] => { results := [.lit (.bool false)], args := [d1, d2, d3] }
  | _ => none }
def KeyRowsWrongFalsely : Prop := keyRowsRow.holds Try.pinned (OpenSpec.ofChange keyRowsWrong)

/-- 'federationlaw2.KeyInts': WHATEVER THE INPUT: true; the input reads as it did. -/
def keyIntsSpec : ChangeSpec := { name := "keyInts", fn := fun _ => fun
  | [d1, d2, d3, d4] => { results := [.lit (.bool true)], args := [d1, d2, d3, d4] }
  | _ => none }
def keyIntsRow : OpenClaim := { program := "ytjacflmgbmfhcaa", sum := "92cb063b5a548170cc2ea76e5dd4fe2ad4314db4ff883dd09de20c0703531371", func := "federation/federationlaw2.KeyInts", spec := "keyInts", unfollowed := true, recurses := true, apart := false }
def KeyIntsSaid : Prop := keyIntsRow.holds Try.pinned (OpenSpec.ofChange keyIntsSpec)

/-- ITS FALSE NEIGHBOUR: 'it returns false'. Refute it at one input. -/
def keyIntsWrong : ChangeSpec := { name := "keyInts", fn := fun _ => fun
  | [d1, d2, d3, d4] => { results := [.lit (.bool false)], args := [d1, d2, d3, d4] }
  | _ => none }
def KeyIntsWrongFalsely : Prop := keyIntsRow.holds Try.pinned (OpenSpec.ofChange keyIntsWrong)

/-- 'federationlaw2.KeyTexts': WHATEVER THE INPUT: true; the input reads as it did. -/
def keyTextsSpec : ChangeSpec := { name := "keyTexts", fn := fun _ => fun
  | [d1, d2, d3] => { results := [.lit (.bool true)], args := [d1, d2, d3] }
  | _ => none }
def keyTextsRow : OpenClaim := { program := "ytjacflmgbmfhcaa", sum := "92cb063b5a548170cc2ea76e5dd4fe2ad4314db4ff883dd09de20c0703531371", func := "federation/federationlaw2.KeyTexts", spec := "keyTexts", unfollowed := true, recurses := true, apart := false }
def KeyTextsSaid : Prop := keyTextsRow.holds Try.pinned (OpenSpec.ofChange keyTextsSpec)

/-- ITS FALSE NEIGHBOUR: 'it returns false'. Refute it at one input. -/
def keyTextsWrong : ChangeSpec := { name := "keyTexts", fn := fun _ => fun
  | [d1, d2, d3] => { results := [.lit (.bool false)], args := [d1, d2, d3] }
  | _ => none }
def KeyTextsWrongFalsely : Prop := keyTextsRow.holds Try.pinned (OpenSpec.ofChange keyTextsWrong)

/-- 'federationlaw2.KeyRowOrder': WHATEVER THE INPUT: true; the input reads as it did. -/
def keyRowOrderSpec : ChangeSpec := { name := "keyRowOrder", fn := fun _ => fun
  | [d1, d2, d3, d4, d5, d6] => { results := [.lit (.bool true)], args := [d1, d2, d3, d4, d5, d6] }
  | _ => none }
def keyRowOrderRow : OpenClaim := { program := "ytjacflmgbmfhcaa", sum := "92cb063b5a548170cc2ea76e5dd4fe2ad4314db4ff883dd09de20c0703531371", func := "federation/federationlaw2.KeyRowOrder", spec := "keyRowOrder", unfollowed := true, recurses := true, apart := false }
def KeyRowOrderSaid : Prop := keyRowOrderRow.holds Try.pinned (OpenSpec.ofChange keyRowOrderSpec)

/-- ITS FALSE NEIGHBOUR: 'it returns false'. Refute it at one input. -/
def keyRowOrderWrong : ChangeSpec := { name := "keyRowOrder", fn := fun _ => fun
  | [d1, d2, d3, d4, d5, d6] => { results := [.lit (.bool false)], args := [d1, d2, d3, d4, d5, d6] }
  | _ => none }
def KeyRowOrderWrongFalsely : Prop := keyRowOrderRow.holds Try.pinned (OpenSpec.ofChange keyRowOrderWrong)

/-- 'federationlaw2.KeySizes': WHATEVER THE INPUT: true; the input reads as it did. -/
def keySizesSpec : ChangeSpec := { name := "keySizes", fn := fun _ => fun
  | [d1, d2, d3] => { results := [.lit (.bool true)], args := [d1, d2, d3] }
  | _ => none }
def keySizesRow : OpenClaim := { program := "ytjacflmgbmfhcaa", sum := "92cb063b5a548170cc2ea76e5dd4fe2ad4314db4ff883dd09de20c0703531371", func := "federation/federationlaw2.KeySizes", spec := "keySizes", unfollowed := true, recurses := true, apart := false }
def KeySizesSaid : Prop := keySizesRow.holds Try.pinned (OpenSpec.ofChange keySizesSpec)

/-- ITS FALSE NEIGHBOUR: 'it returns false'. Refute it at one input. -/
def keySizesWrong : ChangeSpec := { name := "keySizes", fn := fun _ => fun
  | [d1, d2, d3] => { results := [.lit (.bool false)], args := [d1, d2, d3] }
  | _ => none }
def KeySizesWrongFalsely : Prop := keySizesRow.holds Try.pinned (OpenSpec.ofChange keySizesWrong)

/-- 'federationlaw2.KeyCut': WHATEVER THE INPUT: true; the input reads as it did. -/
def keyCutSpec : ChangeSpec := { name := "keyCut", fn := fun _ => fun
  | [d1, d2, d3, d4, d5] => { results := [.lit (.bool true)], args := [d1, d2, d3, d4, d5] }
  | _ => none }
def keyCutRow : OpenClaim := { program := "ytjacflmgbmfhcaa", sum := "92cb063b5a548170cc2ea76e5dd4fe2ad4314db4ff883dd09de20c0703531371", func := "federation/federationlaw2.KeyCut", spec := "keyCut", unfollowed := true, recurses := true, apart := false }
def KeyCutSaid : Prop := keyCutRow.holds Try.pinned (OpenSpec.ofChange keyCutSpec)

/-- ITS FALSE NEIGHBOUR: 'it returns false'. Refute it at one input. -/
def keyCutWrong : ChangeSpec := { name := "keyCut", fn := fun _ => fun
  | [d1, d2, d3, d4, d5] => { results := [.lit (.bool false)], args := [d1, d2, d3, d4, d5] }
  | _ => none }
def KeyCutWrongFalsely : Prop := keyCutRow.holds Try.pinned (OpenSpec.ofChange keyCutWrong)

/-- 'federationlaw2.KeyNumbers': WHATEVER THE INPUT: true; the input reads as it did. -/
def keyNumbersSpec : ChangeSpec := { name := "keyNumbers", fn := fun _ => fun
  | [d1, d2, d3] => { results := [.lit (.bool true)], args := [d1, d2, d3] }
  | _ => none }
def keyNumbersRow : OpenClaim := { program := "ytjacflmgbmfhcaa", sum := "92cb063b5a548170cc2ea76e5dd4fe2ad4314db4ff883dd09de20c0703531371", func := "federation/federationlaw2.KeyNumbers", spec := "keyNumbers", unfollowed := true, recurses := true, apart := false }
def KeyNumbersSaid : Prop := keyNumbersRow.holds Try.pinned (OpenSpec.ofChange keyNumbersSpec)

/-- ITS FALSE NEIGHBOUR: 'it returns false'. Refute it at one input. -/
def keyNumbersWrong : ChangeSpec := { name := "keyNumbers", fn := fun _ => fun
  | [d1, d2, d3] => { results := [.lit (.bool false)], args := [d1, d2, d3] }
  | _ => none }
def KeyNumbersWrongFalsely : Prop := keyNumbersRow.holds Try.pinned (OpenSpec.ofChange keyNumbersWrong)

/- THE SECOND FORM. 'bulk': how many values and letters a reading holds, each counted each time it is reached (what is shared counts as often as it is met; a slice's spare places count too). A statement '..UptoSaid' is the law's where the arguments, and the package variables that the reading takes, are together of bulk at most 1048576: NARROWER than '..Said'. Prove '..Said' where nothing that the law and all that it calls make is longer than what came in: it says more and counts as full. Else prove '..UptoSaid'. A law counts once. -/
mutual
def uptoBulk {H : Type} : DataW H → Nat
  | .lit (.string bytes) => bytes.length + 1
  | .lit _ => 1
  | .nil => 1
  | .ptr d => uptoBulk d + 1
  | .slice elems spare => uptoBulkAll elems + uptoBulkAll spare + 1
  | .agg parts => uptoBulkAll parts + 1
  | .iface _ d => uptoBulk d + 1
  | .map entries => uptoBulkEntries entries + 1
  | .held _ => 1
def uptoBulkAll {H : Type} : List (DataW H) → Nat
  | [] => 0
  | d :: r => uptoBulk d + uptoBulkAll r
def uptoBulkEntries {H : Type} : List (Lit × DataW H) → Nat
  | [] => 0
  | x :: r => uptoBulkEntry x + uptoBulkEntries r
def uptoBulkEntry {H : Type} : Lit × DataW H → Nat
  | (.string bytes, d) => bytes.length + uptoBulk d + 1
  | (_, d) => uptoBulk d + 1
 end
def uptoSmall : (H : Type) → List (DataW H) → Bool := fun _ ds => decide (uptoBulkAll ds ≤ 1048576)
def OpenSpec.upto (s : _root_.Go.ChangeSpec) : _root_.Go.OpenSpec := { _root_.Go.OpenSpec.ofChange s with cond := some uptoSmall }

/-- 'federationlaw2.KeyBack', WHERE WHAT IT READS IS OF BULK AT MOST 1048576: true; the input reads as it did. -/
def keyBackUptoRow : OpenClaim := { program := "ytjacflmgbmfhcaa", sum := "92cb063b5a548170cc2ea76e5dd4fe2ad4314db4ff883dd09de20c0703531371", func := "federation/federationlaw2.KeyBack", spec := "keyBack", unfollowed := true, recurses := true, apart := false, narrowed := true }
def KeyBackUptoSaid : Prop := keyBackUptoRow.holds Try.pinned (OpenSpec.upto keyBackSpec)

/-- 'federationlaw2.KeyOrder', WHERE WHAT IT READS IS OF BULK AT MOST 1048576: true; the input reads as it did. -/
def keyOrderUptoRow : OpenClaim := { program := "ytjacflmgbmfhcaa", sum := "92cb063b5a548170cc2ea76e5dd4fe2ad4314db4ff883dd09de20c0703531371", func := "federation/federationlaw2.KeyOrder", spec := "keyOrder", unfollowed := true, recurses := true, apart := false, narrowed := true }
def KeyOrderUptoSaid : Prop := keyOrderUptoRow.holds Try.pinned (OpenSpec.upto keyOrderSpec)

/-- 'federationlaw2.KeyRows', WHERE WHAT IT READS IS OF BULK AT MOST 1048576: true; the input reads as it did. -/
def keyRowsUptoRow : OpenClaim := { program := "ytjacflmgbmfhcaa", sum := "92cb063b5a548170cc2ea76e5dd4fe2ad4314db4ff883dd09de20c0703531371", func := "federation/federationlaw2.KeyRows", spec := "keyRows", unfollowed := true, recurses := true, apart := false, narrowed := true }
def KeyRowsUptoSaid : Prop := keyRowsUptoRow.holds Try.pinned (OpenSpec.upto keyRowsSpec)

/-- 'federationlaw2.KeyInts', WHERE WHAT IT READS IS OF BULK AT MOST 1048576: true; the input reads as it did. -/
def keyIntsUptoRow : OpenClaim := { program := "ytjacflmgbmfhcaa", sum := "92cb063b5a548170cc2ea76e5dd4fe2ad4314db4ff883dd09de20c0703531371", func := "federation/federationlaw2.KeyInts", spec := "keyInts", unfollowed := true, recurses := true, apart := false, narrowed := true }
def KeyIntsUptoSaid : Prop := keyIntsUptoRow.holds Try.pinned (OpenSpec.upto keyIntsSpec)

/-- 'federationlaw2.KeyTexts', WHERE WHAT IT READS IS OF BULK AT MOST 1048576: true; the input reads as it did. -/
def keyTextsUptoRow : OpenClaim := { program := "ytjacflmgbmfhcaa", sum := "92cb063b5a548170cc2ea76e5dd4fe2ad4314db4ff883dd09de20c0703531371", func := "federation/federationlaw2.KeyTexts", spec := "keyTexts", unfollowed := true, recurses := true, apart := false, narrowed := true }
def KeyTextsUptoSaid : Prop := keyTextsUptoRow.holds Try.pinned (OpenSpec.upto keyTextsSpec)

/-- 'federationlaw2.KeyRowOrder', WHERE WHAT IT READS IS OF BULK AT MOST 1048576: true; the input reads as it did. -/
def keyRowOrderUptoRow : OpenClaim := { program := "ytjacflmgbmfhcaa", sum := "92cb063b5a548170cc2ea76e5dd4fe2ad4314db4ff883dd09de20c0703531371", func := "federation/federationlaw2.KeyRowOrder", spec := "keyRowOrder", unfollowed := true, recurses := true, apart := false, narrowed := true }
def KeyRowOrderUptoSaid : Prop := keyRowOrderUptoRow.holds Try.pinned (OpenSpec.upto keyRowOrderSpec)

/-- 'federationlaw2.KeySizes', WHERE WHAT IT READS IS OF BULK AT MOST 1048576: true; the input reads as it did. -/
def keySizesUptoRow : OpenClaim := { program := "ytjacflmgbmfhcaa", sum := "92cb063b5a548170cc2ea76e5dd4fe2ad4314db4ff883dd09de20c0703531371", func := "federation/federationlaw2.KeySizes", spec := "keySizes", unfollowed := true, recurses := true, apart := false, narrowed := true }
def KeySizesUptoSaid : Prop := keySizesUptoRow.holds Try.pinned (OpenSpec.upto keySizesSpec)

/-- 'federationlaw2.KeyCut', WHERE WHAT IT READS IS OF BULK AT MOST 1048576: true; the input reads as it did. -/
def keyCutUptoRow : OpenClaim := { program := "ytjacflmgbmfhcaa", sum := "92cb063b5a548170cc2ea76e5dd4fe2ad4314db4ff883dd09de20c0703531371", func := "federation/federationlaw2.KeyCut", spec := "keyCut", unfollowed := true, recurses := true, apart := false, narrowed := true }
def KeyCutUptoSaid : Prop := keyCutUptoRow.holds Try.pinned (OpenSpec.upto keyCutSpec)

/-- 'federationlaw2.KeyNumbers', WHERE WHAT IT READS IS OF BULK AT MOST 1048576: true; the input reads as it did. -/
def keyNumbersUptoRow : OpenClaim := { program := "ytjacflmgbmfhcaa", sum := "92cb063b5a548170cc2ea76e5dd4fe2ad4314db4ff883dd09de20c0703531371", func := "federation/federationlaw2.KeyNumbers", spec := "keyNumbers", unfollowed := true, recurses := true, apart := false, narrowed := true }
def KeyNumbersUptoSaid : Prop := keyNumbersUptoRow.holds Try.pinned (OpenSpec.upto keyNumbersSpec)

end Rows
end Go.Proofs.Ytjacflmgbmfhcaa
