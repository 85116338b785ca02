/-
  DERIVED. GIVEN WITH THE SEED: THE CARDS: each row of YtdlkibeljkapeaaGreatDoorRows.lean that lists a variable, with what it lists TIED to the program's text (the seventh form; the later family's looks); each row that meets fmt, with fmt's text TOLD by the authors' own Lean function (tested against real Go, not proved from fmt's source: count such statements apart). THE CARD IS WHAT COUNTS. Prove the row's statement (the work); the ties are given (YtdlkibeljkapeaaGreatDoorTie.lean); close each card by the builder's one call (the guide's Derived/Test/ToyasCard.lean, 'card_holds'). Laid BY PROGRAM, IN A SANDBOX (cutbox-door.mjs). By AI agents, Wed Nov 11 2026. No macro, syntax, notation, axiom, sorry.
-/
import Derived.Test.YtdlkibeljkapeaaGreatDoorRows
import GoSem.ClaimSeven
namespace Go.Proofs.YtdlkibeljkapeaaGreatDoor
namespace Rows

/-- THE TIED CARD OF 'federationlaw3.SqlBack'. -/
def sqlBackCard : Claim7 := { stood := { row := sqlBackRow, standIns := [], harness := (true, "4a7cd61a69ba46c43a0a48856308e608822e98d00cfd90297578468758b17046"), looks := false }, kinds := [], alts := [], laidByText := true, laidKinds := [.data, .data, .data, .data, .listed, .data, .pinned], laidTests := true, laidLooks := .later }
def SqlBackCardSaid : Prop := Claim7.holds Tryz.pinned (.plain (OpenSpec.ofChange sqlBackSpec)) sqlBackCard

/-- THE TIED CARD OF 'federationlaw3.SqlAll'. -/
def sqlAllCard : Claim7 := { stood := { row := sqlAllRow, standIns := [], harness := (true, "4a7cd61a69ba46c43a0a48856308e608822e98d00cfd90297578468758b17046"), looks := false }, kinds := [], alts := [], laidByText := true, laidKinds := [.data, .data, .data, .data, .listed, .data, .pinned], laidTests := true, laidLooks := .later }
def SqlAllCardSaid : Prop := Claim7.holds Tryz.pinned (.plain (OpenSpec.ofChange sqlAllSpec)) sqlAllCard

/-- THE TIED CARD OF 'federationlaw3.SqlLits'. -/
def sqlLitsCard : Claim7 := { stood := { row := sqlLitsRow, standIns := [], harness := (true, "4a7cd61a69ba46c43a0a48856308e608822e98d00cfd90297578468758b17046"), looks := false }, kinds := [], alts := [], laidByText := true, laidKinds := [.data, .data, .data, .data, .listed, .data, .pinned], laidTests := true, laidLooks := .later }
def SqlLitsCardSaid : Prop := Claim7.holds Tryz.pinned (.plain (OpenSpec.ofChange sqlLitsSpec)) sqlLitsCard

/-- THE TIED CARD OF 'federationlaw3.SqlExprs'. -/
def sqlExprsCard : Claim7 := { stood := { row := sqlExprsRow, standIns := [], harness := (true, "4a7cd61a69ba46c43a0a48856308e608822e98d00cfd90297578468758b17046"), looks := false }, kinds := [], alts := [], laidByText := true, laidKinds := [.data, .data, .data, .data, .listed, .data, .pinned], laidTests := true, laidLooks := .later }
def SqlExprsCardSaid : Prop := Claim7.holds Tryz.pinned (.plain (OpenSpec.ofChange sqlExprsSpec)) sqlExprsCard

/-- THE TIED CARD OF 'federationlaw3.SqlKnown'. -/
def sqlKnownCard : Claim7 := { stood := { row := sqlKnownRow, standIns := [], harness := (true, "4a7cd61a69ba46c43a0a48856308e608822e98d00cfd90297578468758b17046"), looks := false }, kinds := [], alts := [], laidByText := true, laidKinds := [.data, .data, .data, .data, .listed, .data, .pinned], laidTests := true, laidLooks := .later }
def SqlKnownCardSaid : Prop := Claim7.holds Tryz.pinned (.plain (OpenSpec.ofChange sqlKnownSpec)) sqlKnownCard

/-- THE TIED CARD OF 'federationlaw3.SqlDeep'. -/
def sqlDeepCard : Claim7 := { stood := { row := sqlDeepRow, standIns := [], harness := (true, "4a7cd61a69ba46c43a0a48856308e608822e98d00cfd90297578468758b17046"), looks := false }, kinds := [], alts := [], laidByText := true, laidKinds := [.data, .data, .data, .data, .listed, .data, .pinned], laidTests := true, laidLooks := .later }
def SqlDeepCardSaid : Prop := Claim7.holds Tryz.pinned (.plain (OpenSpec.ofChange sqlDeepSpec)) sqlDeepCard

/-- THE TIED CARD OF 'federationlaw3.SqlBlanks'. -/
def sqlBlanksCard : Claim7 := { stood := { row := sqlBlanksRow, standIns := [], harness := (true, "4a7cd61a69ba46c43a0a48856308e608822e98d00cfd90297578468758b17046"), looks := false }, kinds := [], alts := [], laidByText := true, laidKinds := [.data, .data, .data, .data, .listed, .data, .pinned], laidTests := true, laidLooks := .later }
def SqlBlanksCardSaid : Prop := Claim7.holds Tryz.pinned (.plain (OpenSpec.ofChange sqlBlanksSpec)) sqlBlanksCard

/-- THE TIED CARD OF 'federationlaw3.SqlNumbers'. -/
def sqlNumbersCard : Claim7 := { stood := { row := sqlNumbersRow, standIns := [], harness := (true, "4a7cd61a69ba46c43a0a48856308e608822e98d00cfd90297578468758b17046"), looks := false }, kinds := [], alts := [], laidByText := true, laidKinds := [.data, .data, .data, .data, .listed, .data, .pinned], laidTests := true, laidLooks := .later }
def SqlNumbersCardSaid : Prop := Claim7.holds Tryz.pinned (.plain (OpenSpec.ofChange sqlNumbersSpec)) sqlNumbersCard

/-- THE TIED CARD OF 'federationlaw3.SqlLong'. -/
def sqlLongCard : Claim7 := { stood := { row := sqlLongRow, standIns := [], harness := (true, "4a7cd61a69ba46c43a0a48856308e608822e98d00cfd90297578468758b17046"), looks := false }, kinds := [], alts := [], laidByText := true, laidKinds := [.data, .data, .data, .data, .listed, .data, .pinned], laidTests := true, laidLooks := .later }
def SqlLongCardSaid : Prop := Claim7.holds Tryz.pinned (.plain (OpenSpec.ofChange sqlLongSpec)) sqlLongCard

/-- THE TIED CARD OF 'federationlaw3.SqlAgain'. -/
def sqlAgainCard : Claim7 := { stood := { row := sqlAgainRow, standIns := [], harness := (true, "4a7cd61a69ba46c43a0a48856308e608822e98d00cfd90297578468758b17046"), looks := false }, kinds := [], alts := [], laidByText := true, laidKinds := [.data, .data, .data, .data, .listed, .data, .pinned], laidTests := true, laidLooks := .later }
def SqlAgainCardSaid : Prop := Claim7.holds Tryz.pinned (.plain (OpenSpec.ofChange sqlAgainSpec)) sqlAgainCard

/-- THE SECOND FORM's CARD OF 'federationlaw3.SqlBack'. -/
def sqlBackUptoCard : Claim7 := { stood := { row := sqlBackUptoRow, standIns := [], harness := (true, "4a7cd61a69ba46c43a0a48856308e608822e98d00cfd90297578468758b17046"), looks := false }, kinds := [], alts := [], laidByText := true, laidKinds := [.data, .data, .data, .data, .listed, .data, .pinned], laidTests := true, laidLooks := .later }
def SqlBackUptoCardSaid : Prop := Claim7.holds Tryz.pinned (.plain (OpenSpec.upto sqlBackSpec)) sqlBackUptoCard

/-- THE SECOND FORM's CARD OF 'federationlaw3.SqlAll'. -/
def sqlAllUptoCard : Claim7 := { stood := { row := sqlAllUptoRow, standIns := [], harness := (true, "4a7cd61a69ba46c43a0a48856308e608822e98d00cfd90297578468758b17046"), looks := false }, kinds := [], alts := [], laidByText := true, laidKinds := [.data, .data, .data, .data, .listed, .data, .pinned], laidTests := true, laidLooks := .later }
def SqlAllUptoCardSaid : Prop := Claim7.holds Tryz.pinned (.plain (OpenSpec.upto sqlAllSpec)) sqlAllUptoCard

/-- THE SECOND FORM's CARD OF 'federationlaw3.SqlLits'. -/
def sqlLitsUptoCard : Claim7 := { stood := { row := sqlLitsUptoRow, standIns := [], harness := (true, "4a7cd61a69ba46c43a0a48856308e608822e98d00cfd90297578468758b17046"), looks := false }, kinds := [], alts := [], laidByText := true, laidKinds := [.data, .data, .data, .data, .listed, .data, .pinned], laidTests := true, laidLooks := .later }
def SqlLitsUptoCardSaid : Prop := Claim7.holds Tryz.pinned (.plain (OpenSpec.upto sqlLitsSpec)) sqlLitsUptoCard

/-- THE SECOND FORM's CARD OF 'federationlaw3.SqlExprs'. -/
def sqlExprsUptoCard : Claim7 := { stood := { row := sqlExprsUptoRow, standIns := [], harness := (true, "4a7cd61a69ba46c43a0a48856308e608822e98d00cfd90297578468758b17046"), looks := false }, kinds := [], alts := [], laidByText := true, laidKinds := [.data, .data, .data, .data, .listed, .data, .pinned], laidTests := true, laidLooks := .later }
def SqlExprsUptoCardSaid : Prop := Claim7.holds Tryz.pinned (.plain (OpenSpec.upto sqlExprsSpec)) sqlExprsUptoCard

/-- THE SECOND FORM's CARD OF 'federationlaw3.SqlKnown'. -/
def sqlKnownUptoCard : Claim7 := { stood := { row := sqlKnownUptoRow, standIns := [], harness := (true, "4a7cd61a69ba46c43a0a48856308e608822e98d00cfd90297578468758b17046"), looks := false }, kinds := [], alts := [], laidByText := true, laidKinds := [.data, .data, .data, .data, .listed, .data, .pinned], laidTests := true, laidLooks := .later }
def SqlKnownUptoCardSaid : Prop := Claim7.holds Tryz.pinned (.plain (OpenSpec.upto sqlKnownSpec)) sqlKnownUptoCard

/-- THE SECOND FORM's CARD OF 'federationlaw3.SqlDeep'. -/
def sqlDeepUptoCard : Claim7 := { stood := { row := sqlDeepUptoRow, standIns := [], harness := (true, "4a7cd61a69ba46c43a0a48856308e608822e98d00cfd90297578468758b17046"), looks := false }, kinds := [], alts := [], laidByText := true, laidKinds := [.data, .data, .data, .data, .listed, .data, .pinned], laidTests := true, laidLooks := .later }
def SqlDeepUptoCardSaid : Prop := Claim7.holds Tryz.pinned (.plain (OpenSpec.upto sqlDeepSpec)) sqlDeepUptoCard

/-- THE SECOND FORM's CARD OF 'federationlaw3.SqlBlanks'. -/
def sqlBlanksUptoCard : Claim7 := { stood := { row := sqlBlanksUptoRow, standIns := [], harness := (true, "4a7cd61a69ba46c43a0a48856308e608822e98d00cfd90297578468758b17046"), looks := false }, kinds := [], alts := [], laidByText := true, laidKinds := [.data, .data, .data, .data, .listed, .data, .pinned], laidTests := true, laidLooks := .later }
def SqlBlanksUptoCardSaid : Prop := Claim7.holds Tryz.pinned (.plain (OpenSpec.upto sqlBlanksSpec)) sqlBlanksUptoCard

/-- THE SECOND FORM's CARD OF 'federationlaw3.SqlNumbers'. -/
def sqlNumbersUptoCard : Claim7 := { stood := { row := sqlNumbersUptoRow, standIns := [], harness := (true, "4a7cd61a69ba46c43a0a48856308e608822e98d00cfd90297578468758b17046"), looks := false }, kinds := [], alts := [], laidByText := true, laidKinds := [.data, .data, .data, .data, .listed, .data, .pinned], laidTests := true, laidLooks := .later }
def SqlNumbersUptoCardSaid : Prop := Claim7.holds Tryz.pinned (.plain (OpenSpec.upto sqlNumbersSpec)) sqlNumbersUptoCard

/-- THE SECOND FORM's CARD OF 'federationlaw3.SqlLong'. -/
def sqlLongUptoCard : Claim7 := { stood := { row := sqlLongUptoRow, standIns := [], harness := (true, "4a7cd61a69ba46c43a0a48856308e608822e98d00cfd90297578468758b17046"), looks := false }, kinds := [], alts := [], laidByText := true, laidKinds := [.data, .data, .data, .data, .listed, .data, .pinned], laidTests := true, laidLooks := .later }
def SqlLongUptoCardSaid : Prop := Claim7.holds Tryz.pinned (.plain (OpenSpec.upto sqlLongSpec)) sqlLongUptoCard

/-- THE SECOND FORM's CARD OF 'federationlaw3.SqlAgain'. -/
def sqlAgainUptoCard : Claim7 := { stood := { row := sqlAgainUptoRow, standIns := [], harness := (true, "4a7cd61a69ba46c43a0a48856308e608822e98d00cfd90297578468758b17046"), looks := false }, kinds := [], alts := [], laidByText := true, laidKinds := [.data, .data, .data, .data, .listed, .data, .pinned], laidTests := true, laidLooks := .later }
def SqlAgainUptoCardSaid : Prop := Claim7.holds Tryz.pinned (.plain (OpenSpec.upto sqlAgainSpec)) sqlAgainUptoCard
end Rows
end Go.Proofs.YtdlkibeljkapeaaGreatDoor
