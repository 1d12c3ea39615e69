/-
  DERIVED. GIVEN WITH THE SEED: THE CARDS: each row of YtjbbigodkhnokaaDoorRows.lean that lists a variable, with what it lists TIED to the program's text (the seventh form; the later family's looks); each row that meets fmt, with fmt's text TOLD by the authors' own Lean function (tested against real Go, not proved from fmt's source: count such statements apart). THE CARD IS WHAT COUNTS. Prove the row's statement (the work); the ties are given (YtjbbigodkhnokaaDoorTie.lean); close each card by the builder's one call (the guide's Derived/Test/ToyasCard.lean, 'card_holds'). Laid BY PROGRAM, IN A SANDBOX (cutbox-door.mjs). By AI agents, Wed Nov 11 2026. No macro, syntax, notation, axiom, sorry.
-/
import Derived.Test.YtjbbigodkhnokaaDoorRows
import GoSem.ClaimSeven
namespace Go.Proofs.YtjbbigodkhnokaaDoor
namespace Rows

/-- THE TIED CARD OF 'clevislaw07.TradeTotals'. -/
def tradeTotalsCard : Claim7 := { stood := { row := tradeTotalsRow, standIns := [], harness := (true, "66638c399d0fc4352386fea94f3e32447ebd355385105a4075aaa90bd8d654d8"), looks := false }, kinds := [], alts := [], laidByText := true, laidKinds := [.data, .pinned], laidTests := true, laidLooks := .later }
def TradeTotalsCardSaid : Prop := Claim7.holds Tryd.pinned (.plain (OpenSpec.ofChange tradeTotalsSpec)) tradeTotalsCard

/-- THE TIED CARD OF 'clevislaw07.TradeChecks'. -/
def tradeChecksCard : Claim7 := { stood := { row := tradeChecksRow, standIns := [], harness := (true, "66638c399d0fc4352386fea94f3e32447ebd355385105a4075aaa90bd8d654d8"), looks := false }, kinds := [], alts := [], laidByText := true, laidKinds := [.data, .pinned], laidTests := true, laidLooks := .later }
def TradeChecksCardSaid : Prop := Claim7.holds Tryd.pinned (.plain (OpenSpec.ofChange tradeChecksSpec)) tradeChecksCard

/-- THE TIED CARD OF 'clevislaw07.TradeOrders'. -/
def tradeOrdersCard : Claim7 := { stood := { row := tradeOrdersRow, standIns := [], harness := (true, "66638c399d0fc4352386fea94f3e32447ebd355385105a4075aaa90bd8d654d8"), looks := false }, kinds := [], alts := [], laidByText := true, laidKinds := [.data, .pinned], laidTests := true, laidLooks := .later }
def TradeOrdersCardSaid : Prop := Claim7.holds Tryd.pinned (.plain (OpenSpec.ofChange tradeOrdersSpec)) tradeOrdersCard

/-- THE SECOND FORM's CARD OF 'clevislaw07.TradeTotals'. -/
def tradeTotalsUptoCard : Claim7 := { stood := { row := tradeTotalsUptoRow, standIns := [], harness := (true, "66638c399d0fc4352386fea94f3e32447ebd355385105a4075aaa90bd8d654d8"), looks := false }, kinds := [], alts := [], laidByText := true, laidKinds := [.data, .pinned], laidTests := true, laidLooks := .later }
def TradeTotalsUptoCardSaid : Prop := Claim7.holds Tryd.pinned (.plain (OpenSpec.upto tradeTotalsSpec)) tradeTotalsUptoCard

/-- THE SECOND FORM's CARD OF 'clevislaw07.TradeChecks'. -/
def tradeChecksUptoCard : Claim7 := { stood := { row := tradeChecksUptoRow, standIns := [], harness := (true, "66638c399d0fc4352386fea94f3e32447ebd355385105a4075aaa90bd8d654d8"), looks := false }, kinds := [], alts := [], laidByText := true, laidKinds := [.data, .pinned], laidTests := true, laidLooks := .later }
def TradeChecksUptoCardSaid : Prop := Claim7.holds Tryd.pinned (.plain (OpenSpec.upto tradeChecksSpec)) tradeChecksUptoCard

/-- THE SECOND FORM's CARD OF 'clevislaw07.TradeOrders'. -/
def tradeOrdersUptoCard : Claim7 := { stood := { row := tradeOrdersUptoRow, standIns := [], harness := (true, "66638c399d0fc4352386fea94f3e32447ebd355385105a4075aaa90bd8d654d8"), looks := false }, kinds := [], alts := [], laidByText := true, laidKinds := [.data, .pinned], laidTests := true, laidLooks := .later }
def TradeOrdersUptoCardSaid : Prop := Claim7.holds Tryd.pinned (.plain (OpenSpec.upto tradeOrdersSpec)) tradeOrdersUptoCard
end Rows
end Go.Proofs.YtjbbigodkhnokaaDoor
