/-
  NARROWER THAN 'FOR EVERY INPUT', by the rows' own cells (each row's printed sentence says how): DimsTells: laid · DimsPlain: laid · DimsHangs: laid · DimsAdds: laid · DimsMany: laid · DimsWidth: laid · DimsNames: laid.
  DERIVED. THE GIVEN ROWS OF THIS SEAT. 7 by the template 'for every input the law returns true; each argument reads behind the call as it read before'; 0 by the template 'total and deterministic' (their statements: YtomlnddhfigbjaaDoorTotals.lean).
  GIVEN WITH THE SEED: the statements are not yours to turn. If you find one false, say at which input.
  Laid BY PROGRAM, IN A SANDBOX (cutbox-rows.mjs): the forced cells as the released guide's own fill.sh prints them over the translation 7eb1289df69ac0ec… (all of the seat's roots in one cut). By AI agents, Wed Nov 11 2026. No macro, syntax, notation, axiom, sorry.
-/
import Derived.Test.YtomlnddhfigbjaaDoorChecked
import GoSem.Claim
import GoSem.ClaimJoined
import GoSem.ClaimMapViews
import Derived.JoinedTies
import Derived.KernelRfl
namespace Go.Proofs.YtomlnddhfigbjaaDoor
/- THE CELL 'sum', in the pinned program and in every row, IS THE sha256 OF THE DUMP (.gsa) THAT YtomlnddhfigbjaaDoorProg.lean LOADS. Nothing in Lean hashes anything: it is a label: what it is worth is what the hold of that sum in a sandbox is worth. -/
noncomputable def Tryd.pinned : Pinned := { name := "ytomlnddhfigbjaadoor", sum := "7eb1289df69ac0eca7865bea857396889f27516c9f42ff42d40d1be99695973f", checked := Tryd.checked }
namespace Rows
def none {H : Type} : Left H := { results := [], args := [] }

/- WHAT THE LISTED PACKAGE-LEVEL VARIABLES READ AS WHEN THE CALL BEGINS. Each datum BY PROGRAM (the guide's laid-datum.mjs) off the statement by which the dump's own 'gosem.cut.vars' lays the variable. In a bare row this is a premise. The card (YtomlnddhfigbjaaDoorCards.lean) ties it to the program's text. -/
def laid_errors_errorType {H : Type} : DataW H := .iface "internal/reflectlite.rtype" (.agg [.ptr (.lit (.string [101, 114, 114, 111, 114]))])

/-- 'proofmarklaw04.DimsTells': WHATEVER THE INPUT: true; the input reads as it did. -/
def dimsTellsSpec : ChangeSpec := { name := "dimsTells", fn := fun _ => fun
  | [d1, d2, d3] => { results := [.lit (.bool true)], args := [d1, d2, d3] }
  | _ => none }
def dimsTellsRow : OpenClaim := { program := "ytomlnddhfigbjaadoor", sum := "7eb1289df69ac0eca7865bea857396889f27516c9f42ff42d40d1be99695973f", func := "proofmark/proofmarklaw04.DimsTells", spec := "dimsTells", inPlace := ["internal/reflectlite.ValueOf", "(internal/reflectlite.Value).Type", "(internal/reflectlite.Value).IsNil", "internal/reflectlite.TypeOf", "(internal/reflectlite.Value).Elem", "(internal/reflectlite.Value).Set"], unfollowed := true, recurses := true, named := ["errors.errorType"], apart := false, laid := [("errors.errorType", laid_errors_errorType)] }
def DimsTellsSaid : Prop := dimsTellsRow.holds Tryd.pinned (OpenSpec.ofChange dimsTellsSpec)

/-- ITS FALSE NEIGHBOUR: 'it returns false'. Refute it at one input. -/
def dimsTellsWrong : ChangeSpec := { name := "dimsTells", fn := fun _ => fun
  | [d1, d2, d3] => { results := [.lit (.bool false)], args := [d1, d2, d3] }
  | _ => none }
def DimsTellsWrongFalsely : Prop := dimsTellsRow.holds Tryd.pinned (OpenSpec.ofChange dimsTellsWrong)

/-- 'proofmarklaw04.DimsPlain': WHATEVER THE INPUT: true; the input reads as it did. -/
def dimsPlainSpec : ChangeSpec := { name := "dimsPlain", fn := fun _ => fun
  | [d1, d2] => { results := [.lit (.bool true)], args := [d1, d2] }
  | _ => none }
def dimsPlainRow : OpenClaim := { program := "ytomlnddhfigbjaadoor", sum := "7eb1289df69ac0eca7865bea857396889f27516c9f42ff42d40d1be99695973f", func := "proofmark/proofmarklaw04.DimsPlain", spec := "dimsPlain", inPlace := ["internal/reflectlite.ValueOf", "(internal/reflectlite.Value).Type", "(internal/reflectlite.Value).IsNil", "internal/reflectlite.TypeOf", "(internal/reflectlite.Value).Elem", "(internal/reflectlite.Value).Set"], unfollowed := true, recurses := true, named := ["errors.errorType"], apart := false, laid := [("errors.errorType", laid_errors_errorType)] }
def DimsPlainSaid : Prop := dimsPlainRow.holds Tryd.pinned (OpenSpec.ofChange dimsPlainSpec)

/-- ITS FALSE NEIGHBOUR: 'it returns false'. Refute it at one input. -/
def dimsPlainWrong : ChangeSpec := { name := "dimsPlain", fn := fun _ => fun
  | [d1, d2] => { results := [.lit (.bool false)], args := [d1, d2] }
  | _ => none }
def DimsPlainWrongFalsely : Prop := dimsPlainRow.holds Tryd.pinned (OpenSpec.ofChange dimsPlainWrong)

/-- 'proofmarklaw04.DimsHangs': WHATEVER THE INPUT: true; the input reads as it did. -/
def dimsHangsSpec : ChangeSpec := { name := "dimsHangs", fn := fun _ => fun
  | [d1, d2, d3] => { results := [.lit (.bool true)], args := [d1, d2, d3] }
  | _ => none }
def dimsHangsRow : OpenClaim := { program := "ytomlnddhfigbjaadoor", sum := "7eb1289df69ac0eca7865bea857396889f27516c9f42ff42d40d1be99695973f", func := "proofmark/proofmarklaw04.DimsHangs", spec := "dimsHangs", inPlace := ["internal/reflectlite.ValueOf", "(internal/reflectlite.Value).Type", "(internal/reflectlite.Value).IsNil", "internal/reflectlite.TypeOf", "(internal/reflectlite.Value).Elem", "(internal/reflectlite.Value).Set"], unfollowed := true, recurses := true, named := ["errors.errorType"], apart := false, laid := [("errors.errorType", laid_errors_errorType)] }
def DimsHangsSaid : Prop := dimsHangsRow.holds Tryd.pinned (OpenSpec.ofChange dimsHangsSpec)

/-- ITS FALSE NEIGHBOUR: 'it returns false'. Refute it at one input. -/
def dimsHangsWrong : ChangeSpec := { name := "dimsHangs", fn := fun _ => fun
  | [d1, d2, d3] => { results := [.lit (.bool false)], args := [d1, d2, d3] }
  | _ => none }
def DimsHangsWrongFalsely : Prop := dimsHangsRow.holds Tryd.pinned (OpenSpec.ofChange dimsHangsWrong)

/-- 'proofmarklaw04.DimsAdds': WHATEVER THE INPUT: true; the input reads as it did. -/
def dimsAddsSpec : ChangeSpec := { name := "dimsAdds", fn := fun _ => fun
  | [d1, d2, d3, d4] => { results := [.lit (.bool true)], args := [d1, d2, d3, d4] }
  | _ => none }
def dimsAddsRow : OpenClaim := { program := "ytomlnddhfigbjaadoor", sum := "7eb1289df69ac0eca7865bea857396889f27516c9f42ff42d40d1be99695973f", func := "proofmark/proofmarklaw04.DimsAdds", spec := "dimsAdds", inPlace := ["internal/reflectlite.ValueOf", "(internal/reflectlite.Value).Type", "(internal/reflectlite.Value).IsNil", "internal/reflectlite.TypeOf", "(internal/reflectlite.Value).Elem", "(internal/reflectlite.Value).Set"], unfollowed := true, recurses := true, named := ["errors.errorType"], apart := false, laid := [("errors.errorType", laid_errors_errorType)] }
def DimsAddsSaid : Prop := dimsAddsRow.holds Tryd.pinned (OpenSpec.ofChange dimsAddsSpec)

/-- ITS FALSE NEIGHBOUR: 'it returns false'. Refute it at one input. -/
def dimsAddsWrong : ChangeSpec := { name := "dimsAdds", fn := fun _ => fun
  | [d1, d2, d3, d4] => { results := [.lit (.bool false)], args := [d1, d2, d3, d4] }
  | _ => none }
def DimsAddsWrongFalsely : Prop := dimsAddsRow.holds Tryd.pinned (OpenSpec.ofChange dimsAddsWrong)

/-- 'proofmarklaw04.DimsMany': WHATEVER THE INPUT: true; the input reads as it did. -/
def dimsManySpec : ChangeSpec := { name := "dimsMany", fn := fun _ => fun
  | [d1, d2] => { results := [.lit (.bool true)], args := [d1, d2] }
  | _ => none }
def dimsManyRow : OpenClaim := { program := "ytomlnddhfigbjaadoor", sum := "7eb1289df69ac0eca7865bea857396889f27516c9f42ff42d40d1be99695973f", func := "proofmark/proofmarklaw04.DimsMany", spec := "dimsMany", inPlace := ["internal/reflectlite.ValueOf", "(internal/reflectlite.Value).Type", "(internal/reflectlite.Value).IsNil", "internal/reflectlite.TypeOf", "(internal/reflectlite.Value).Elem", "(internal/reflectlite.Value).Set"], unfollowed := true, recurses := true, named := ["errors.errorType"], apart := false, laid := [("errors.errorType", laid_errors_errorType)] }
def DimsManySaid : Prop := dimsManyRow.holds Tryd.pinned (OpenSpec.ofChange dimsManySpec)

/-- ITS FALSE NEIGHBOUR: 'it returns false'. Refute it at one input. -/
def dimsManyWrong : ChangeSpec := { name := "dimsMany", fn := fun _ => fun
  | [d1, d2] => { results := [.lit (.bool false)], args := [d1, d2] }
  | _ => none }
def DimsManyWrongFalsely : Prop := dimsManyRow.holds Tryd.pinned (OpenSpec.ofChange dimsManyWrong)

/-- 'proofmarklaw04.DimsWidth': WHATEVER THE INPUT: true; the input reads as it did. -/
def dimsWidthSpec : ChangeSpec := { name := "dimsWidth", fn := fun _ => fun
  | [d1, d2] => { results := [.lit (.bool true)], args := [d1, d2] }
  | _ => none }
def dimsWidthRow : OpenClaim := { program := "ytomlnddhfigbjaadoor", sum := "7eb1289df69ac0eca7865bea857396889f27516c9f42ff42d40d1be99695973f", func := "proofmark/proofmarklaw04.DimsWidth", spec := "dimsWidth", inPlace := ["internal/reflectlite.ValueOf", "(internal/reflectlite.Value).Type", "(internal/reflectlite.Value).IsNil", "internal/reflectlite.TypeOf", "(internal/reflectlite.Value).Elem", "(internal/reflectlite.Value).Set"], unfollowed := true, recurses := true, named := ["errors.errorType"], apart := false, laid := [("errors.errorType", laid_errors_errorType)] }
def DimsWidthSaid : Prop := dimsWidthRow.holds Tryd.pinned (OpenSpec.ofChange dimsWidthSpec)

/-- ITS FALSE NEIGHBOUR: 'it returns false'. Refute it at one input. -/
def dimsWidthWrong : ChangeSpec := { name := "dimsWidth", fn := fun _ => fun
  | [d1, d2] => { results := [.lit (.bool false)], args := [d1, d2] }
  | _ => none }
def DimsWidthWrongFalsely : Prop := dimsWidthRow.holds Tryd.pinned (OpenSpec.ofChange dimsWidthWrong)

/-- 'proofmarklaw04.DimsNames': WHATEVER THE INPUT: true; the input reads as it did. -/
def dimsNamesSpec : ChangeSpec := { name := "dimsNames", fn := fun _ => fun
  | [d1, d2, d3] => { results := [.lit (.bool true)], args := [d1, d2, d3] }
  | _ => none }
def dimsNamesRow : OpenClaim := { program := "ytomlnddhfigbjaadoor", sum := "7eb1289df69ac0eca7865bea857396889f27516c9f42ff42d40d1be99695973f", func := "proofmark/proofmarklaw04.DimsNames", spec := "dimsNames", inPlace := ["internal/reflectlite.ValueOf", "(internal/reflectlite.Value).Type", "(internal/reflectlite.Value).IsNil", "internal/reflectlite.TypeOf", "(internal/reflectlite.Value).Elem", "(internal/reflectlite.Value).Set"], unfollowed := true, recurses := true, named := ["errors.errorType"], apart := false, laid := [("errors.errorType", laid_errors_errorType)] }
def DimsNamesSaid : Prop := dimsNamesRow.holds Tryd.pinned (OpenSpec.ofChange dimsNamesSpec)

/-- ITS FALSE NEIGHBOUR: 'it returns false'. Refute it at one input. -/
def dimsNamesWrong : ChangeSpec := { name := "dimsNames", fn := fun _ => fun
  | [d1, d2, d3] => { results := [.lit (.bool false)], args := [d1, d2, d3] }
  | _ => none }
def DimsNamesWrongFalsely : Prop := dimsNamesRow.holds Tryd.pinned (OpenSpec.ofChange dimsNamesWrong)

/- THE SECOND FORM. 'bulk': how many values and letters a reading holds, each counted each time it is reached (what is shared counts as often as it is met; a slice's spare places count too). A statement '..UptoSaid' is the law's where the arguments, and the package variables that the reading takes, are together of bulk at most 1048576: NARROWER than '..Said'. Prove '..Said' where nothing that the law and all that it calls make is longer than what came in: it says more and counts as full. Else prove '..UptoSaid'. A law counts once. -/
mutual
def uptoBulk {H : Type} : DataW H → Nat
  | .lit (.string bytes) => bytes.length + 1
  | .lit _ => 1
  | .nil => 1
  | .ptr d => uptoBulk d + 1
  | .slice elems spare => uptoBulkAll elems + uptoBulkAll spare + 1
  | .agg parts => uptoBulkAll parts + 1
  | .iface _ d => uptoBulk d + 1
  | .map entries => uptoBulkEntries entries + 1
  | .held _ => 1
def uptoBulkAll {H : Type} : List (DataW H) → Nat
  | [] => 0
  | d :: r => uptoBulk d + uptoBulkAll r
def uptoBulkEntries {H : Type} : List (Lit × DataW H) → Nat
  | [] => 0
  | x :: r => uptoBulkEntry x + uptoBulkEntries r
def uptoBulkEntry {H : Type} : Lit × DataW H → Nat
  | (.string bytes, d) => bytes.length + uptoBulk d + 1
  | (_, d) => uptoBulk d + 1
 end
def uptoSmall : (H : Type) → List (DataW H) → Bool := fun _ ds => decide (uptoBulkAll ds ≤ 1048576)
def OpenSpec.upto (s : _root_.Go.ChangeSpec) : _root_.Go.OpenSpec := { _root_.Go.OpenSpec.ofChange s with cond := some uptoSmall }

/-- 'proofmarklaw04.DimsTells', WHERE WHAT IT READS IS OF BULK AT MOST 1048576: true; the input reads as it did. -/
def dimsTellsUptoRow : OpenClaim := { program := "ytomlnddhfigbjaadoor", sum := "7eb1289df69ac0eca7865bea857396889f27516c9f42ff42d40d1be99695973f", func := "proofmark/proofmarklaw04.DimsTells", spec := "dimsTells", inPlace := ["internal/reflectlite.ValueOf", "(internal/reflectlite.Value).Type", "(internal/reflectlite.Value).IsNil", "internal/reflectlite.TypeOf", "(internal/reflectlite.Value).Elem", "(internal/reflectlite.Value).Set"], unfollowed := true, recurses := true, named := ["errors.errorType"], apart := false, laid := [("errors.errorType", laid_errors_errorType)], narrowed := true }
def DimsTellsUptoSaid : Prop := dimsTellsUptoRow.holds Tryd.pinned (OpenSpec.upto dimsTellsSpec)

/-- 'proofmarklaw04.DimsPlain', WHERE WHAT IT READS IS OF BULK AT MOST 1048576: true; the input reads as it did. -/
def dimsPlainUptoRow : OpenClaim := { program := "ytomlnddhfigbjaadoor", sum := "7eb1289df69ac0eca7865bea857396889f27516c9f42ff42d40d1be99695973f", func := "proofmark/proofmarklaw04.DimsPlain", spec := "dimsPlain", inPlace := ["internal/reflectlite.ValueOf", "(internal/reflectlite.Value).Type", "(internal/reflectlite.Value).IsNil", "internal/reflectlite.TypeOf", "(internal/reflectlite.Value).Elem", "(internal/reflectlite.Value).Set"], unfollowed := true, recurses := true, named := ["errors.errorType"], apart := false, laid := [("errors.errorType", laid_errors_errorType)], narrowed := true }
def DimsPlainUptoSaid : Prop := dimsPlainUptoRow.holds Tryd.pinned (OpenSpec.upto dimsPlainSpec)

/-- 'proofmarklaw04.DimsHangs', WHERE WHAT IT READS IS OF BULK AT MOST 1048576: true; the input reads as it did. -/
def dimsHangsUptoRow : OpenClaim := { program := "ytomlnddhfigbjaadoor", sum := "7eb1289df69ac0eca7865bea857396889f27516c9f42ff42d40d1be99695973f", func := "proofmark/proofmarklaw04.DimsHangs", spec := "dimsHangs", inPlace := ["internal/reflectlite.ValueOf", "(internal/reflectlite.Value).Type", "(internal/reflectlite.Value).IsNil", "internal/reflectlite.TypeOf", "(internal/reflectlite.Value).Elem", "(internal/reflectlite.Value).Set"], unfollowed := true, recurses := true, named := ["errors.errorType"], apart := false, laid := [("errors.errorType", laid_errors_errorType)], narrowed := true }
def DimsHangsUptoSaid : Prop := dimsHangsUptoRow.holds Tryd.pinned (OpenSpec.upto dimsHangsSpec)

/-- 'proofmarklaw04.DimsAdds', WHERE WHAT IT READS IS OF BULK AT MOST 1048576: true; the input reads as it did. -/
def dimsAddsUptoRow : OpenClaim := { program := "ytomlnddhfigbjaadoor", sum := "7eb1289df69ac0eca7865bea857396889f27516c9f42ff42d40d1be99695973f", func := "proofmark/proofmarklaw04.DimsAdds", spec := "dimsAdds", inPlace := ["internal/reflectlite.ValueOf", "(internal/reflectlite.Value).Type", "(internal/reflectlite.Value).IsNil", "internal/reflectlite.TypeOf", "(internal/reflectlite.Value).Elem", "(internal/reflectlite.Value).Set"], unfollowed := true, recurses := true, named := ["errors.errorType"], apart := false, laid := [("errors.errorType", laid_errors_errorType)], narrowed := true }
def DimsAddsUptoSaid : Prop := dimsAddsUptoRow.holds Tryd.pinned (OpenSpec.upto dimsAddsSpec)

/-- 'proofmarklaw04.DimsMany', WHERE WHAT IT READS IS OF BULK AT MOST 1048576: true; the input reads as it did. -/
def dimsManyUptoRow : OpenClaim := { program := "ytomlnddhfigbjaadoor", sum := "7eb1289df69ac0eca7865bea857396889f27516c9f42ff42d40d1be99695973f", func := "proofmark/proofmarklaw04.DimsMany", spec := "dimsMany", inPlace := ["internal/reflectlite.ValueOf", "(internal/reflectlite.Value).Type", "(internal/reflectlite.Value).IsNil", "internal/reflectlite.TypeOf", "(internal/reflectlite.Value).Elem", "(internal/reflectlite.Value).Set"], unfollowed := true, recurses := true, named := ["errors.errorType"], apart := false, laid := [("errors.errorType", laid_errors_errorType)], narrowed := true }
def DimsManyUptoSaid : Prop := dimsManyUptoRow.holds Tryd.pinned (OpenSpec.upto dimsManySpec)

/-- 'proofmarklaw04.DimsWidth', WHERE WHAT IT READS IS OF BULK AT MOST 1048576: true; the input reads as it did. -/
def dimsWidthUptoRow : OpenClaim := { program := "ytomlnddhfigbjaadoor", sum := "7eb1289df69ac0eca7865bea857396889f27516c9f42ff42d40d1be99695973f", func := "proofmark/proofmarklaw04.DimsWidth", spec := "dimsWidth", inPlace := ["internal/reflectlite.ValueOf", "(internal/reflectlite.Value).Type", "(internal/reflectlite.Value).IsNil", "internal/reflectlite.TypeOf", "(internal/reflectlite.Value).Elem", "(internal/reflectlite.Value).Set"], unfollowed := true, recurses := true, named := ["errors.errorType"], apart := false, laid := [("errors.errorType", laid_errors_errorType)], narrowed := true }
def DimsWidthUptoSaid : Prop := dimsWidthUptoRow.holds Tryd.pinned (OpenSpec.upto dimsWidthSpec)

/-- 'proofmarklaw04.DimsNames', WHERE WHAT IT READS IS OF BULK AT MOST 1048576: true; the input reads as it did. -/
def dimsNamesUptoRow : OpenClaim := { program := "ytomlnddhfigbjaadoor", sum := "7eb1289df69ac0eca7865bea857396889f27516c9f42ff42d40d1be99695973f", func := "proofmark/proofmarklaw04.DimsNames", spec := "dimsNames", inPlace := ["internal/reflectlite.ValueOf", "(internal/reflectlite.Value).Type", "(internal/reflectlite.Value).IsNil", "internal/reflectlite.TypeOf", "(internal/reflectlite.Value).Elem", "(internal/reflectlite.Value).Set"], unfollowed := true, recurses := true, named := ["errors.errorType"], apart := false, laid := [("errors.errorType", laid_errors_errorType)], narrowed := true }
def DimsNamesUptoSaid : Prop := dimsNamesUptoRow.holds Tryd.pinned (OpenSpec.upto dimsNamesSpec)

end Rows
end Go.Proofs.YtomlnddhfigbjaaDoor
