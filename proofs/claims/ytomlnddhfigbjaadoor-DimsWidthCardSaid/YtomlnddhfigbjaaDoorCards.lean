/-
  DERIVED. GIVEN WITH THE SEED: THE CARDS: each row of YtomlnddhfigbjaaDoorRows.lean that lists a variable, with what it lists TIED to the program's text (the seventh form; the later family's looks); each row that meets fmt, with fmt's text TOLD by the authors' own Lean function (tested against real Go, not proved from fmt's source: count such statements apart). THE CARD IS WHAT COUNTS. Prove the row's statement (the work); the ties are given (YtomlnddhfigbjaaDoorTie.lean); close each card by the builder's one call (the guide's Derived/Test/ToyasCard.lean, 'card_holds'). Laid BY PROGRAM, IN A SANDBOX (cutbox-door.mjs). By AI agents, Wed Nov 11 2026. No macro, syntax, notation, axiom, sorry.
-/
import Derived.Test.YtomlnddhfigbjaaDoorRows
import GoSem.ClaimSeven
namespace Go.Proofs.YtomlnddhfigbjaaDoor
namespace Rows

/-- THE TIED CARD OF 'proofmarklaw04.DimsTells'. -/
def dimsTellsCard : Claim7 := { stood := { row := dimsTellsRow, standIns := [], harness := (true, "9aea6c981d26449c903cafdfd508393a7225aa5a6c43cd5e1f08cee6b3cda5a9"), looks := true }, kinds := [], alts := [], laidByText := true, laidKinds := [.handle], laidTests := true, laidLooks := .later }
def DimsTellsCardSaid : Prop := Claim7.holds Tryd.pinned (.plain (OpenSpec.ofChange dimsTellsSpec)) dimsTellsCard

/-- THE TIED CARD OF 'proofmarklaw04.DimsPlain'. -/
def dimsPlainCard : Claim7 := { stood := { row := dimsPlainRow, standIns := [], harness := (true, "9aea6c981d26449c903cafdfd508393a7225aa5a6c43cd5e1f08cee6b3cda5a9"), looks := true }, kinds := [], alts := [], laidByText := true, laidKinds := [.handle], laidTests := true, laidLooks := .later }
def DimsPlainCardSaid : Prop := Claim7.holds Tryd.pinned (.plain (OpenSpec.ofChange dimsPlainSpec)) dimsPlainCard

/-- THE TIED CARD OF 'proofmarklaw04.DimsHangs'. -/
def dimsHangsCard : Claim7 := { stood := { row := dimsHangsRow, standIns := [], harness := (true, "9aea6c981d26449c903cafdfd508393a7225aa5a6c43cd5e1f08cee6b3cda5a9"), looks := true }, kinds := [], alts := [], laidByText := true, laidKinds := [.handle], laidTests := true, laidLooks := .later }
def DimsHangsCardSaid : Prop := Claim7.holds Tryd.pinned (.plain (OpenSpec.ofChange dimsHangsSpec)) dimsHangsCard

/-- THE TIED CARD OF 'proofmarklaw04.DimsAdds'. -/
def dimsAddsCard : Claim7 := { stood := { row := dimsAddsRow, standIns := [], harness := (true, "9aea6c981d26449c903cafdfd508393a7225aa5a6c43cd5e1f08cee6b3cda5a9"), looks := true }, kinds := [], alts := [], laidByText := true, laidKinds := [.handle], laidTests := true, laidLooks := .later }
def DimsAddsCardSaid : Prop := Claim7.holds Tryd.pinned (.plain (OpenSpec.ofChange dimsAddsSpec)) dimsAddsCard

/-- THE TIED CARD OF 'proofmarklaw04.DimsMany'. -/
def dimsManyCard : Claim7 := { stood := { row := dimsManyRow, standIns := [], harness := (true, "9aea6c981d26449c903cafdfd508393a7225aa5a6c43cd5e1f08cee6b3cda5a9"), looks := true }, kinds := [], alts := [], laidByText := true, laidKinds := [.handle], laidTests := true, laidLooks := .later }
def DimsManyCardSaid : Prop := Claim7.holds Tryd.pinned (.plain (OpenSpec.ofChange dimsManySpec)) dimsManyCard

/-- THE TIED CARD OF 'proofmarklaw04.DimsWidth'. -/
def dimsWidthCard : Claim7 := { stood := { row := dimsWidthRow, standIns := [], harness := (true, "9aea6c981d26449c903cafdfd508393a7225aa5a6c43cd5e1f08cee6b3cda5a9"), looks := true }, kinds := [], alts := [], laidByText := true, laidKinds := [.handle], laidTests := true, laidLooks := .later }
def DimsWidthCardSaid : Prop := Claim7.holds Tryd.pinned (.plain (OpenSpec.ofChange dimsWidthSpec)) dimsWidthCard

/-- THE TIED CARD OF 'proofmarklaw04.DimsNames'. -/
def dimsNamesCard : Claim7 := { stood := { row := dimsNamesRow, standIns := [], harness := (true, "9aea6c981d26449c903cafdfd508393a7225aa5a6c43cd5e1f08cee6b3cda5a9"), looks := true }, kinds := [], alts := [], laidByText := true, laidKinds := [.handle], laidTests := true, laidLooks := .later }
def DimsNamesCardSaid : Prop := Claim7.holds Tryd.pinned (.plain (OpenSpec.ofChange dimsNamesSpec)) dimsNamesCard

/-- THE SECOND FORM's CARD OF 'proofmarklaw04.DimsTells'. -/
def dimsTellsUptoCard : Claim7 := { stood := { row := dimsTellsUptoRow, standIns := [], harness := (true, "9aea6c981d26449c903cafdfd508393a7225aa5a6c43cd5e1f08cee6b3cda5a9"), looks := true }, kinds := [], alts := [], laidByText := true, laidKinds := [.handle], laidTests := true, laidLooks := .later }
def DimsTellsUptoCardSaid : Prop := Claim7.holds Tryd.pinned (.plain (OpenSpec.upto dimsTellsSpec)) dimsTellsUptoCard

/-- THE SECOND FORM's CARD OF 'proofmarklaw04.DimsPlain'. -/
def dimsPlainUptoCard : Claim7 := { stood := { row := dimsPlainUptoRow, standIns := [], harness := (true, "9aea6c981d26449c903cafdfd508393a7225aa5a6c43cd5e1f08cee6b3cda5a9"), looks := true }, kinds := [], alts := [], laidByText := true, laidKinds := [.handle], laidTests := true, laidLooks := .later }
def DimsPlainUptoCardSaid : Prop := Claim7.holds Tryd.pinned (.plain (OpenSpec.upto dimsPlainSpec)) dimsPlainUptoCard

/-- THE SECOND FORM's CARD OF 'proofmarklaw04.DimsHangs'. -/
def dimsHangsUptoCard : Claim7 := { stood := { row := dimsHangsUptoRow, standIns := [], harness := (true, "9aea6c981d26449c903cafdfd508393a7225aa5a6c43cd5e1f08cee6b3cda5a9"), looks := true }, kinds := [], alts := [], laidByText := true, laidKinds := [.handle], laidTests := true, laidLooks := .later }
def DimsHangsUptoCardSaid : Prop := Claim7.holds Tryd.pinned (.plain (OpenSpec.upto dimsHangsSpec)) dimsHangsUptoCard

/-- THE SECOND FORM's CARD OF 'proofmarklaw04.DimsAdds'. -/
def dimsAddsUptoCard : Claim7 := { stood := { row := dimsAddsUptoRow, standIns := [], harness := (true, "9aea6c981d26449c903cafdfd508393a7225aa5a6c43cd5e1f08cee6b3cda5a9"), looks := true }, kinds := [], alts := [], laidByText := true, laidKinds := [.handle], laidTests := true, laidLooks := .later }
def DimsAddsUptoCardSaid : Prop := Claim7.holds Tryd.pinned (.plain (OpenSpec.upto dimsAddsSpec)) dimsAddsUptoCard

/-- THE SECOND FORM's CARD OF 'proofmarklaw04.DimsMany'. -/
def dimsManyUptoCard : Claim7 := { stood := { row := dimsManyUptoRow, standIns := [], harness := (true, "9aea6c981d26449c903cafdfd508393a7225aa5a6c43cd5e1f08cee6b3cda5a9"), looks := true }, kinds := [], alts := [], laidByText := true, laidKinds := [.handle], laidTests := true, laidLooks := .later }
def DimsManyUptoCardSaid : Prop := Claim7.holds Tryd.pinned (.plain (OpenSpec.upto dimsManySpec)) dimsManyUptoCard

/-- THE SECOND FORM's CARD OF 'proofmarklaw04.DimsWidth'. -/
def dimsWidthUptoCard : Claim7 := { stood := { row := dimsWidthUptoRow, standIns := [], harness := (true, "9aea6c981d26449c903cafdfd508393a7225aa5a6c43cd5e1f08cee6b3cda5a9"), looks := true }, kinds := [], alts := [], laidByText := true, laidKinds := [.handle], laidTests := true, laidLooks := .later }
def DimsWidthUptoCardSaid : Prop := Claim7.holds Tryd.pinned (.plain (OpenSpec.upto dimsWidthSpec)) dimsWidthUptoCard

/-- THE SECOND FORM's CARD OF 'proofmarklaw04.DimsNames'. -/
def dimsNamesUptoCard : Claim7 := { stood := { row := dimsNamesUptoRow, standIns := [], harness := (true, "9aea6c981d26449c903cafdfd508393a7225aa5a6c43cd5e1f08cee6b3cda5a9"), looks := true }, kinds := [], alts := [], laidByText := true, laidKinds := [.handle], laidTests := true, laidLooks := .later }
def DimsNamesUptoCardSaid : Prop := Claim7.holds Tryd.pinned (.plain (OpenSpec.upto dimsNamesSpec)) dimsNamesUptoCard
end Rows
end Go.Proofs.YtomlnddhfigbjaaDoor
