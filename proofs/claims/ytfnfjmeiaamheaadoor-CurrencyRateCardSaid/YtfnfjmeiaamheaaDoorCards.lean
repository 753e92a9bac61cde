/-
  DERIVED. GIVEN WITH THE SEED: THE CARDS: each row of YtfnfjmeiaamheaaDoorRows.lean that lists a variable, with what it lists TIED to the program's text (the seventh form; the later family's looks); each row that meets fmt, with fmt's text TOLD by the authors' own Lean function (tested against real Go, not proved from fmt's source: count such statements apart). THE CARD IS WHAT COUNTS. Prove the row's statement (the work); the ties are given (YtfnfjmeiaamheaaDoorTie.lean); close each card by the builder's one call (the guide's Derived/Test/ToyasCard.lean, 'card_holds'). Laid BY PROGRAM, IN A SANDBOX (cutbox-door.mjs). By AI agents, Wed Nov 11 2026. No macro, syntax, notation, axiom, sorry.
-/
import Derived.Test.YtfnfjmeiaamheaaDoorRows
import GoSem.ClaimSeven
namespace Go.Proofs.YtfnfjmeiaamheaaDoor
namespace Rows

/-- THE TIED CARD OF 'insolvencylaw7.CurrencyCheck'. -/
def currencyCheckCard : Claim7 := { stood := { row := currencyCheckRow, standIns := [], harness := (true, "5bfc081f87bed625174066f6293cfe8983b3a0676fe84266add06b58b293d139"), looks := false }, kinds := [], alts := [], laidByText := true, laidKinds := [.data, .pinned], laidTests := true, laidLooks := .later }
def CurrencyCheckCardSaid : Prop := Claim7.holds Tryd.pinned (.plain (OpenSpec.ofChange currencyCheckSpec)) currencyCheckCard

/-- THE TIED CARD OF 'insolvencylaw7.CurrencyMany'. -/
def currencyManyCard : Claim7 := { stood := { row := currencyManyRow, standIns := [], harness := (true, "5bfc081f87bed625174066f6293cfe8983b3a0676fe84266add06b58b293d139"), looks := false }, kinds := [], alts := [], laidByText := true, laidKinds := [.data, .pinned], laidTests := true, laidLooks := .later }
def CurrencyManyCardSaid : Prop := Claim7.holds Tryd.pinned (.plain (OpenSpec.ofChange currencyManySpec)) currencyManyCard

/-- THE TIED CARD OF 'insolvencylaw7.CurrencyRate'. -/
def currencyRateCard : Claim7 := { stood := { row := currencyRateRow, standIns := [], harness := (true, "5bfc081f87bed625174066f6293cfe8983b3a0676fe84266add06b58b293d139"), looks := false }, kinds := [], alts := [], laidByText := true, laidKinds := [.data, .pinned], laidTests := true, laidLooks := .later }
def CurrencyRateCardSaid : Prop := Claim7.holds Tryd.pinned (.plain (OpenSpec.ofChange currencyRateSpec)) currencyRateCard

/-- THE TIED CARD OF 'insolvencylaw7.CurrencyLatest'. -/
def currencyLatestCard : Claim7 := { stood := { row := currencyLatestRow, standIns := [], harness := (true, "5bfc081f87bed625174066f6293cfe8983b3a0676fe84266add06b58b293d139"), looks := false }, kinds := [], alts := [], laidByText := true, laidKinds := [.data, .pinned], laidTests := true, laidLooks := .later }
def CurrencyLatestCardSaid : Prop := Claim7.holds Tryd.pinned (.plain (OpenSpec.ofChange currencyLatestSpec)) currencyLatestCard

/-- THE TIED CARD OF 'insolvencylaw7.CurrencyConvert'. -/
def currencyConvertCard : Claim7 := { stood := { row := currencyConvertRow, standIns := [], harness := (true, "5bfc081f87bed625174066f6293cfe8983b3a0676fe84266add06b58b293d139"), looks := false }, kinds := [], alts := [], laidByText := true, laidKinds := [.data, .pinned], laidTests := true, laidLooks := .later }
def CurrencyConvertCardSaid : Prop := Claim7.holds Tryd.pinned (.plain (OpenSpec.ofChange currencyConvertSpec)) currencyConvertCard

/-- THE TIED CARD OF 'insolvencylaw7.CurrencyQuoted'. -/
def currencyQuotedCard : Claim7 := { stood := { row := currencyQuotedRow, standIns := [], harness := (true, "5bfc081f87bed625174066f6293cfe8983b3a0676fe84266add06b58b293d139"), looks := false }, kinds := [], alts := [], laidByText := true, laidKinds := [.data, .pinned], laidTests := true, laidLooks := .later }
def CurrencyQuotedCardSaid : Prop := Claim7.holds Tryd.pinned (.plain (OpenSpec.ofChange currencyQuotedSpec)) currencyQuotedCard

/-- THE TIED CARD OF 'insolvencylaw7.CurrencyBack'. -/
def currencyBackCard : Claim7 := { stood := { row := currencyBackRow, standIns := [], harness := (true, "5bfc081f87bed625174066f6293cfe8983b3a0676fe84266add06b58b293d139"), looks := false }, kinds := [], alts := [], laidByText := true, laidKinds := [.data, .pinned], laidTests := true, laidLooks := .later }
def CurrencyBackCardSaid : Prop := Claim7.holds Tryd.pinned (.plain (OpenSpec.ofChange currencyBackSpec)) currencyBackCard

/-- THE SECOND FORM's CARD OF 'insolvencylaw7.CurrencyCheck'. -/
def currencyCheckUptoCard : Claim7 := { stood := { row := currencyCheckUptoRow, standIns := [], harness := (true, "5bfc081f87bed625174066f6293cfe8983b3a0676fe84266add06b58b293d139"), looks := false }, kinds := [], alts := [], laidByText := true, laidKinds := [.data, .pinned], laidTests := true, laidLooks := .later }
def CurrencyCheckUptoCardSaid : Prop := Claim7.holds Tryd.pinned (.plain (OpenSpec.upto currencyCheckSpec)) currencyCheckUptoCard

/-- THE SECOND FORM's CARD OF 'insolvencylaw7.CurrencyMany'. -/
def currencyManyUptoCard : Claim7 := { stood := { row := currencyManyUptoRow, standIns := [], harness := (true, "5bfc081f87bed625174066f6293cfe8983b3a0676fe84266add06b58b293d139"), looks := false }, kinds := [], alts := [], laidByText := true, laidKinds := [.data, .pinned], laidTests := true, laidLooks := .later }
def CurrencyManyUptoCardSaid : Prop := Claim7.holds Tryd.pinned (.plain (OpenSpec.upto currencyManySpec)) currencyManyUptoCard

/-- THE SECOND FORM's CARD OF 'insolvencylaw7.CurrencyRate'. -/
def currencyRateUptoCard : Claim7 := { stood := { row := currencyRateUptoRow, standIns := [], harness := (true, "5bfc081f87bed625174066f6293cfe8983b3a0676fe84266add06b58b293d139"), looks := false }, kinds := [], alts := [], laidByText := true, laidKinds := [.data, .pinned], laidTests := true, laidLooks := .later }
def CurrencyRateUptoCardSaid : Prop := Claim7.holds Tryd.pinned (.plain (OpenSpec.upto currencyRateSpec)) currencyRateUptoCard

/-- THE SECOND FORM's CARD OF 'insolvencylaw7.CurrencyLatest'. -/
def currencyLatestUptoCard : Claim7 := { stood := { row := currencyLatestUptoRow, standIns := [], harness := (true, "5bfc081f87bed625174066f6293cfe8983b3a0676fe84266add06b58b293d139"), looks := false }, kinds := [], alts := [], laidByText := true, laidKinds := [.data, .pinned], laidTests := true, laidLooks := .later }
def CurrencyLatestUptoCardSaid : Prop := Claim7.holds Tryd.pinned (.plain (OpenSpec.upto currencyLatestSpec)) currencyLatestUptoCard

/-- THE SECOND FORM's CARD OF 'insolvencylaw7.CurrencyConvert'. -/
def currencyConvertUptoCard : Claim7 := { stood := { row := currencyConvertUptoRow, standIns := [], harness := (true, "5bfc081f87bed625174066f6293cfe8983b3a0676fe84266add06b58b293d139"), looks := false }, kinds := [], alts := [], laidByText := true, laidKinds := [.data, .pinned], laidTests := true, laidLooks := .later }
def CurrencyConvertUptoCardSaid : Prop := Claim7.holds Tryd.pinned (.plain (OpenSpec.upto currencyConvertSpec)) currencyConvertUptoCard

/-- THE SECOND FORM's CARD OF 'insolvencylaw7.CurrencyQuoted'. -/
def currencyQuotedUptoCard : Claim7 := { stood := { row := currencyQuotedUptoRow, standIns := [], harness := (true, "5bfc081f87bed625174066f6293cfe8983b3a0676fe84266add06b58b293d139"), looks := false }, kinds := [], alts := [], laidByText := true, laidKinds := [.data, .pinned], laidTests := true, laidLooks := .later }
def CurrencyQuotedUptoCardSaid : Prop := Claim7.holds Tryd.pinned (.plain (OpenSpec.upto currencyQuotedSpec)) currencyQuotedUptoCard

/-- THE SECOND FORM's CARD OF 'insolvencylaw7.CurrencyBack'. -/
def currencyBackUptoCard : Claim7 := { stood := { row := currencyBackUptoRow, standIns := [], harness := (true, "5bfc081f87bed625174066f6293cfe8983b3a0676fe84266add06b58b293d139"), looks := false }, kinds := [], alts := [], laidByText := true, laidKinds := [.data, .pinned], laidTests := true, laidLooks := .later }
def CurrencyBackUptoCardSaid : Prop := Claim7.holds Tryd.pinned (.plain (OpenSpec.upto currencyBackSpec)) currencyBackUptoCard
end Rows
end Go.Proofs.YtfnfjmeiaamheaaDoor
