/-
  DERIVED. GIVEN WITH THE SEED: THE CARDS: each row of YtenhfnadhmjloaaDoorRows.lean that lists a variable, with what it lists TIED to the program's text (the seventh form; the later family's looks); each row that meets fmt, with fmt's text TOLD by the authors' own Lean function (tested against real Go, not proved from fmt's source: count such statements apart). THE CARD IS WHAT COUNTS. Prove the row's statement (the work); the ties are given (YtenhfnadhmjloaaDoorTie.lean); close each card by the builder's one call (the guide's Derived/Test/ToyasCard.lean, 'card_holds'). Laid BY PROGRAM, IN A SANDBOX (cutbox-door.mjs). By AI agents, Wed Nov 11 2026. No macro, syntax, notation, axiom, sorry.
-/
import Derived.Test.YtenhfnadhmjloaaDoorRows
import GoSem.ClaimSeven
namespace Go.Proofs.YtenhfnadhmjloaaDoor
namespace Rows

/-- THE TIED CARD OF 'spandrellaw07.TokenWords'. -/
def tokenWordsCard : Claim7 := { stood := { row := tokenWordsRow, standIns := [], harness := (true, "551622fd71e3a7f9b30e05f43adcc85f11ae93f6d336fba504faff55d8d2c863"), looks := true }, kinds := [], alts := [], laidByText := true, laidKinds := [.data, .data, .data, .sentinel, .sentinel], laidTests := true, laidLooks := .later }
def TokenWordsCardSaid : Prop := Claim7.holds Tryd.pinned (.plain (OpenSpec.ofChange tokenWordsSpec)) tokenWordsCard

/-- THE TIED CARD OF 'spandrellaw07.TokenOrder'. -/
def tokenOrderCard : Claim7 := { stood := { row := tokenOrderRow, standIns := [], harness := (true, "551622fd71e3a7f9b30e05f43adcc85f11ae93f6d336fba504faff55d8d2c863"), looks := true }, kinds := [], alts := [], laidByText := true, laidKinds := [.data, .data, .data, .sentinel, .sentinel], laidTests := true, laidLooks := .later }
def TokenOrderCardSaid : Prop := Claim7.holds Tryd.pinned (.plain (OpenSpec.ofChange tokenOrderSpec)) tokenOrderCard

/-- THE TIED CARD OF 'spandrellaw07.TokenNumbers'. -/
def tokenNumbersCard : Claim7 := { stood := { row := tokenNumbersRow, standIns := [], harness := (true, "551622fd71e3a7f9b30e05f43adcc85f11ae93f6d336fba504faff55d8d2c863"), looks := true }, kinds := [], alts := [], laidByText := true, laidKinds := [.data, .data, .data, .sentinel, .sentinel], laidTests := true, laidLooks := .later }
def TokenNumbersCardSaid : Prop := Claim7.holds Tryd.pinned (.plain (OpenSpec.ofChange tokenNumbersSpec)) tokenNumbersCard

/-- THE TIED CARD OF 'spandrellaw07.TokenWhole'. -/
def tokenWholeCard : Claim7 := { stood := { row := tokenWholeRow, standIns := [], harness := (true, "551622fd71e3a7f9b30e05f43adcc85f11ae93f6d336fba504faff55d8d2c863"), looks := true }, kinds := [], alts := [], laidByText := true, laidKinds := [.data, .data, .data, .sentinel, .sentinel], laidTests := true, laidLooks := .later }
def TokenWholeCardSaid : Prop := Claim7.holds Tryd.pinned (.plain (OpenSpec.ofChange tokenWholeSpec)) tokenWholeCard

/-- THE SECOND FORM's CARD OF 'spandrellaw07.TokenWords'. -/
def tokenWordsUptoCard : Claim7 := { stood := { row := tokenWordsUptoRow, standIns := [], harness := (true, "551622fd71e3a7f9b30e05f43adcc85f11ae93f6d336fba504faff55d8d2c863"), looks := true }, kinds := [], alts := [], laidByText := true, laidKinds := [.data, .data, .data, .sentinel, .sentinel], laidTests := true, laidLooks := .later }
def TokenWordsUptoCardSaid : Prop := Claim7.holds Tryd.pinned (.plain (OpenSpec.upto tokenWordsSpec)) tokenWordsUptoCard

/-- THE SECOND FORM's CARD OF 'spandrellaw07.TokenOrder'. -/
def tokenOrderUptoCard : Claim7 := { stood := { row := tokenOrderUptoRow, standIns := [], harness := (true, "551622fd71e3a7f9b30e05f43adcc85f11ae93f6d336fba504faff55d8d2c863"), looks := true }, kinds := [], alts := [], laidByText := true, laidKinds := [.data, .data, .data, .sentinel, .sentinel], laidTests := true, laidLooks := .later }
def TokenOrderUptoCardSaid : Prop := Claim7.holds Tryd.pinned (.plain (OpenSpec.upto tokenOrderSpec)) tokenOrderUptoCard

/-- THE SECOND FORM's CARD OF 'spandrellaw07.TokenNumbers'. -/
def tokenNumbersUptoCard : Claim7 := { stood := { row := tokenNumbersUptoRow, standIns := [], harness := (true, "551622fd71e3a7f9b30e05f43adcc85f11ae93f6d336fba504faff55d8d2c863"), looks := true }, kinds := [], alts := [], laidByText := true, laidKinds := [.data, .data, .data, .sentinel, .sentinel], laidTests := true, laidLooks := .later }
def TokenNumbersUptoCardSaid : Prop := Claim7.holds Tryd.pinned (.plain (OpenSpec.upto tokenNumbersSpec)) tokenNumbersUptoCard

/-- THE SECOND FORM's CARD OF 'spandrellaw07.TokenWhole'. -/
def tokenWholeUptoCard : Claim7 := { stood := { row := tokenWholeUptoRow, standIns := [], harness := (true, "551622fd71e3a7f9b30e05f43adcc85f11ae93f6d336fba504faff55d8d2c863"), looks := true }, kinds := [], alts := [], laidByText := true, laidKinds := [.data, .data, .data, .sentinel, .sentinel], laidTests := true, laidLooks := .later }
def TokenWholeUptoCardSaid : Prop := Claim7.holds Tryd.pinned (.plain (OpenSpec.upto tokenWholeSpec)) tokenWholeUptoCard
end Rows
end Go.Proofs.YtenhfnadhmjloaaDoor
