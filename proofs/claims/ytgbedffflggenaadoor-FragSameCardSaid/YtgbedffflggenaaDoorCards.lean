/-
  DERIVED. GIVEN WITH THE SEED: THE CARDS: each row of YtgbedffflggenaaDoorRows.lean that lists a variable, with what it lists TIED to the program's text (the seventh form; the later family's looks); each row that meets fmt, with fmt's text TOLD by the authors' own Lean function (tested against real Go, not proved from fmt's source: count such statements apart). THE CARD IS WHAT COUNTS. Prove the row's statement (the work); the ties are given (YtgbedffflggenaaDoorTie.lean); close each card by the builder's one call (the guide's Derived/Test/ToyasCard.lean, 'card_holds'). Laid BY PROGRAM, IN A SANDBOX (cutbox-door.mjs). By AI agents, Wed Nov 11 2026. No macro, syntax, notation, axiom, sorry.
-/
import Derived.Test.YtgbedffflggenaaDoorRows
import GoSem.ClaimSeven
namespace Go.Proofs.YtgbedffflggenaaDoor
namespace Rows

/-- THE TIED CARD OF 'spandrellaw18.FragTexts'. -/
def fragTextsCard : Claim7 := { stood := { row := fragTextsRow, standIns := [], harness := (true, "998b49b3e7b0252a80d018b8f53d49c44ef6b2d7f1488ae66e08bbd62dacf7ce"), looks := false }, kinds := [], alts := [], laidByText := true, laidKinds := [.data, .data, .data], laidTests := true, laidLooks := .later }
def FragTextsCardSaid : Prop := Claim7.holds Tryd.pinned (.plain (OpenSpec.ofChange fragTextsSpec)) fragTextsCard

/-- THE TIED CARD OF 'spandrellaw18.FragLines'. -/
def fragLinesCard : Claim7 := { stood := { row := fragLinesRow, standIns := [], harness := (true, "998b49b3e7b0252a80d018b8f53d49c44ef6b2d7f1488ae66e08bbd62dacf7ce"), looks := false }, kinds := [], alts := [], laidByText := true, laidKinds := [.data, .data, .data], laidTests := true, laidLooks := .later }
def FragLinesCardSaid : Prop := Claim7.holds Tryd.pinned (.plain (OpenSpec.ofChange fragLinesSpec)) fragLinesCard

/-- THE TIED CARD OF 'spandrellaw18.FragNests'. -/
def fragNestsCard : Claim7 := { stood := { row := fragNestsRow, standIns := [], harness := (true, "998b49b3e7b0252a80d018b8f53d49c44ef6b2d7f1488ae66e08bbd62dacf7ce"), looks := false }, kinds := [], alts := [], laidByText := true, laidKinds := [.data, .data, .data], laidTests := true, laidLooks := .later }
def FragNestsCardSaid : Prop := Claim7.holds Tryd.pinned (.plain (OpenSpec.ofChange fragNestsSpec)) fragNestsCard

/-- THE TIED CARD OF 'spandrellaw18.FragSame'. -/
def fragSameCard : Claim7 := { stood := { row := fragSameRow, standIns := [], harness := (true, "998b49b3e7b0252a80d018b8f53d49c44ef6b2d7f1488ae66e08bbd62dacf7ce"), looks := false }, kinds := [], alts := [], laidByText := true, laidKinds := [.data, .data, .data], laidTests := true, laidLooks := .later }
def FragSameCardSaid : Prop := Claim7.holds Tryd.pinned (.plain (OpenSpec.ofChange fragSameSpec)) fragSameCard

/-- THE SECOND FORM's CARD OF 'spandrellaw18.FragTexts'. -/
def fragTextsUptoCard : Claim7 := { stood := { row := fragTextsUptoRow, standIns := [], harness := (true, "998b49b3e7b0252a80d018b8f53d49c44ef6b2d7f1488ae66e08bbd62dacf7ce"), looks := false }, kinds := [], alts := [], laidByText := true, laidKinds := [.data, .data, .data], laidTests := true, laidLooks := .later }
def FragTextsUptoCardSaid : Prop := Claim7.holds Tryd.pinned (.plain (OpenSpec.upto fragTextsSpec)) fragTextsUptoCard

/-- THE SECOND FORM's CARD OF 'spandrellaw18.FragLines'. -/
def fragLinesUptoCard : Claim7 := { stood := { row := fragLinesUptoRow, standIns := [], harness := (true, "998b49b3e7b0252a80d018b8f53d49c44ef6b2d7f1488ae66e08bbd62dacf7ce"), looks := false }, kinds := [], alts := [], laidByText := true, laidKinds := [.data, .data, .data], laidTests := true, laidLooks := .later }
def FragLinesUptoCardSaid : Prop := Claim7.holds Tryd.pinned (.plain (OpenSpec.upto fragLinesSpec)) fragLinesUptoCard

/-- THE SECOND FORM's CARD OF 'spandrellaw18.FragNests'. -/
def fragNestsUptoCard : Claim7 := { stood := { row := fragNestsUptoRow, standIns := [], harness := (true, "998b49b3e7b0252a80d018b8f53d49c44ef6b2d7f1488ae66e08bbd62dacf7ce"), looks := false }, kinds := [], alts := [], laidByText := true, laidKinds := [.data, .data, .data], laidTests := true, laidLooks := .later }
def FragNestsUptoCardSaid : Prop := Claim7.holds Tryd.pinned (.plain (OpenSpec.upto fragNestsSpec)) fragNestsUptoCard

/-- THE SECOND FORM's CARD OF 'spandrellaw18.FragSame'. -/
def fragSameUptoCard : Claim7 := { stood := { row := fragSameUptoRow, standIns := [], harness := (true, "998b49b3e7b0252a80d018b8f53d49c44ef6b2d7f1488ae66e08bbd62dacf7ce"), looks := false }, kinds := [], alts := [], laidByText := true, laidKinds := [.data, .data, .data], laidTests := true, laidLooks := .later }
def FragSameUptoCardSaid : Prop := Claim7.holds Tryd.pinned (.plain (OpenSpec.upto fragSameSpec)) fragSameUptoCard
end Rows
end Go.Proofs.YtgbedffflggenaaDoor
