/-
  DERIVED. GIVEN WITH THE SEED: THE CARDS: each row of YthhhpaifelgcpaaDoorRows.lean that lists a variable, with what it lists TIED to the program's text (the seventh form; the later family's looks); each row that meets fmt, with fmt's text TOLD by the authors' own Lean function (tested against real Go, not proved from fmt's source: count such statements apart). THE CARD IS WHAT COUNTS. Prove the row's statement (the work); the ties are given (YthhhpaifelgcpaaDoorTie.lean); close each card by the builder's one call (the guide's Derived/Test/ToyasCard.lean, 'card_holds'). Laid BY PROGRAM, IN A SANDBOX (cutbox-door.mjs). By AI agents, Wed Nov 11 2026. No macro, syntax, notation, axiom, sorry.
-/
import Derived.Test.YthhhpaifelgcpaaDoorRows
import GoSem.ClaimSeven
namespace Go.Proofs.YthhhpaifelgcpaaDoor
namespace Rows

/-- THE TIED CARD OF 'spandrellaw08.ShapeDeep'. -/
def shapeDeepCard : Claim7 := { stood := { row := shapeDeepRow, standIns := [], harness := (true, "a985500303843a91dc2e6052acaba38c981e6f2f9964facb44eff31d7bd0377a"), looks := false }, kinds := [], alts := [], laidByText := true, laidKinds := [.data, .data, .data, .data, .pinned], laidTests := true, laidLooks := .later }
def ShapeDeepCardSaid : Prop := Claim7.holds Tryd.pinned (.plain (OpenSpec.ofChange shapeDeepSpec)) shapeDeepCard

/-- THE TIED CARD OF 'spandrellaw08.ShapeParts'. -/
def shapePartsCard : Claim7 := { stood := { row := shapePartsRow, standIns := [], harness := (true, "a985500303843a91dc2e6052acaba38c981e6f2f9964facb44eff31d7bd0377a"), looks := false }, kinds := [], alts := [], laidByText := true, laidKinds := [.data, .data, .data, .data, .pinned], laidTests := true, laidLooks := .later }
def ShapePartsCardSaid : Prop := Claim7.holds Tryd.pinned (.plain (OpenSpec.ofChange shapePartsSpec)) shapePartsCard

/-- THE TIED CARD OF 'spandrellaw08.ShapeCons'. -/
def shapeConsCard : Claim7 := { stood := { row := shapeConsRow, standIns := [], harness := (true, "a985500303843a91dc2e6052acaba38c981e6f2f9964facb44eff31d7bd0377a"), looks := false }, kinds := [], alts := [], laidByText := true, laidKinds := [.data, .data, .data, .data, .pinned], laidTests := true, laidLooks := .later }
def ShapeConsCardSaid : Prop := Claim7.holds Tryd.pinned (.plain (OpenSpec.ofChange shapeConsSpec)) shapeConsCard

/-- THE SECOND FORM's CARD OF 'spandrellaw08.ShapeDeep'. -/
def shapeDeepUptoCard : Claim7 := { stood := { row := shapeDeepUptoRow, standIns := [], harness := (true, "a985500303843a91dc2e6052acaba38c981e6f2f9964facb44eff31d7bd0377a"), looks := false }, kinds := [], alts := [], laidByText := true, laidKinds := [.data, .data, .data, .data, .pinned], laidTests := true, laidLooks := .later }
def ShapeDeepUptoCardSaid : Prop := Claim7.holds Tryd.pinned (.plain (OpenSpec.upto shapeDeepSpec)) shapeDeepUptoCard

/-- THE SECOND FORM's CARD OF 'spandrellaw08.ShapeParts'. -/
def shapePartsUptoCard : Claim7 := { stood := { row := shapePartsUptoRow, standIns := [], harness := (true, "a985500303843a91dc2e6052acaba38c981e6f2f9964facb44eff31d7bd0377a"), looks := false }, kinds := [], alts := [], laidByText := true, laidKinds := [.data, .data, .data, .data, .pinned], laidTests := true, laidLooks := .later }
def ShapePartsUptoCardSaid : Prop := Claim7.holds Tryd.pinned (.plain (OpenSpec.upto shapePartsSpec)) shapePartsUptoCard

/-- THE SECOND FORM's CARD OF 'spandrellaw08.ShapeCons'. -/
def shapeConsUptoCard : Claim7 := { stood := { row := shapeConsUptoRow, standIns := [], harness := (true, "a985500303843a91dc2e6052acaba38c981e6f2f9964facb44eff31d7bd0377a"), looks := false }, kinds := [], alts := [], laidByText := true, laidKinds := [.data, .data, .data, .data, .pinned], laidTests := true, laidLooks := .later }
def ShapeConsUptoCardSaid : Prop := Claim7.holds Tryd.pinned (.plain (OpenSpec.upto shapeConsSpec)) shapeConsUptoCard
end Rows
end Go.Proofs.YthhhpaifelgcpaaDoor
