/-
  No cell of these rows narrows 'for every input' (looked for: loops, veiled, ifaces, maps, wideKeys, modest, calm, conditions, laid).
  DERIVED. THE GIVEN ROWS OF THIS SEAT. 14 by the template 'for every input the law returns true; each argument reads behind the call as it read before'; 0 by the template 'total and deterministic' (their statements: YtdlfmobnmcamaaaTotals.lean).
  GIVEN WITH THE SEED: the statements are not yours to turn. If you find one false, say at which input.
  Laid BY PROGRAM, IN A SANDBOX (cutbox-rows.mjs): the forced cells as the released guide's own fill.sh prints them over the translation 35a927ead991c652… (all of the seat's roots in one cut). By AI agents, Wed Nov 11 2026. No macro, syntax, notation, axiom, sorry.
-/
import Derived.Test.YtdlfmobnmcamaaaChecked
import GoSem.Claim
import GoSem.ClaimJoined
import GoSem.ClaimMapViews
import Derived.JoinedTies
import Derived.KernelRfl
namespace Go.Proofs.Ytdlfmobnmcamaaa
/- THE CELL 'sum', in the pinned program and in every row, IS THE sha256 OF THE DUMP (.gsa) THAT YtdlfmobnmcamaaaProg.lean LOADS. Nothing in Lean hashes anything: it is a label: what it is worth is what the hold of that sum in a sandbox is worth. -/
noncomputable def Try.pinned : Pinned := { name := "ytdlfmobnmcamaaa", sum := "35a927ead991c65220684d3d3f8575a7fd03629b985803877f6d044065674a1e", checked := Try.checked }
namespace Rows
def none {H : Type} : Left H := { results := [], args := [] }

/-- 'proofmarklaw20.RupTells': WHATEVER THE INPUT: true; the input reads as it did. -/
def rupTellsSpec : ChangeSpec := { name := "rupTells", fn := fun _ => fun
  | [d] => { results := [.lit (.bool true)], args := [d] }
  | _ => none }
def rupTellsRow : OpenClaim := { program := "ytdlfmobnmcamaaa", sum := "35a927ead991c65220684d3d3f8575a7fd03629b985803877f6d044065674a1e", func := "proofmark/proofmarklaw20.RupTells", spec := "rupTells", unfollowed := true, recurses := true, apart := false }
def RupTellsSaid : Prop := rupTellsRow.holds Try.pinned (OpenSpec.ofChange rupTellsSpec)

/-- ITS FALSE NEIGHBOUR: 'it returns false'. Refute it at one input. -/
def rupTellsWrong : ChangeSpec := { name := "rupTells", fn := fun _ => fun
  | [d] => { results := [.lit (.bool false)], args := [d] }
  | _ => none }
def RupTellsWrongFalsely : Prop := rupTellsRow.holds Try.pinned (OpenSpec.ofChange rupTellsWrong)

/-- 'proofmarklaw20.RupMore': WHATEVER THE INPUT: true; the input reads as it did. -/
def rupMoreSpec : ChangeSpec := { name := "rupMore", fn := fun _ => fun
  | [d1, d2, d3] => { results := [.lit (.bool true)], args := [d1, d2, d3] }
  | _ => none }
def rupMoreRow : OpenClaim := { program := "ytdlfmobnmcamaaa", sum := "35a927ead991c65220684d3d3f8575a7fd03629b985803877f6d044065674a1e", func := "proofmark/proofmarklaw20.RupMore", spec := "rupMore", unfollowed := true, recurses := true, apart := false }
def RupMoreSaid : Prop := rupMoreRow.holds Try.pinned (OpenSpec.ofChange rupMoreSpec)

/-- ITS FALSE NEIGHBOUR: 'it returns false'. Refute it at one input. -/
def rupMoreWrong : ChangeSpec := { name := "rupMore", fn := fun _ => fun
  | [d1, d2, d3] => { results := [.lit (.bool false)], args := [d1, d2, d3] }
  | _ => none }
def RupMoreWrongFalsely : Prop := rupMoreRow.holds Try.pinned (OpenSpec.ofChange rupMoreWrong)

/-- 'proofmarklaw20.RupLonger': WHATEVER THE INPUT: true; the input reads as it did. -/
def rupLongerSpec : ChangeSpec := { name := "rupLonger", fn := fun _ => fun
  | [d] => { results := [.lit (.bool true)], args := [d] }
  | _ => none }
def rupLongerRow : OpenClaim := { program := "ytdlfmobnmcamaaa", sum := "35a927ead991c65220684d3d3f8575a7fd03629b985803877f6d044065674a1e", func := "proofmark/proofmarklaw20.RupLonger", spec := "rupLonger", unfollowed := true, recurses := true, apart := false }
def RupLongerSaid : Prop := rupLongerRow.holds Try.pinned (OpenSpec.ofChange rupLongerSpec)

/-- ITS FALSE NEIGHBOUR: 'it returns false'. Refute it at one input. -/
def rupLongerWrong : ChangeSpec := { name := "rupLonger", fn := fun _ => fun
  | [d] => { results := [.lit (.bool false)], args := [d] }
  | _ => none }
def RupLongerWrongFalsely : Prop := rupLongerRow.holds Try.pinned (OpenSpec.ofChange rupLongerWrong)

/-- 'proofmarklaw20.RupCuts': WHATEVER THE INPUT: true; the input reads as it did. -/
def rupCutsSpec : ChangeSpec := { name := "rupCuts", fn := fun _ => fun
  | [d1, d2, d3] => { results := [.lit (.bool true)], args := [d1, d2, d3] }
  | _ => none }
def rupCutsRow : OpenClaim := { program := "ytdlfmobnmcamaaa", sum := "35a927ead991c65220684d3d3f8575a7fd03629b985803877f6d044065674a1e", func := "proofmark/proofmarklaw20.RupCuts", spec := "rupCuts", unfollowed := true, recurses := true, apart := false }
def RupCutsSaid : Prop := rupCutsRow.holds Try.pinned (OpenSpec.ofChange rupCutsSpec)

/-- ITS FALSE NEIGHBOUR: 'it returns false'. Refute it at one input. -/
def rupCutsWrong : ChangeSpec := { name := "rupCuts", fn := fun _ => fun
  | [d1, d2, d3] => { results := [.lit (.bool false)], args := [d1, d2, d3] }
  | _ => none }
def RupCutsWrongFalsely : Prop := rupCutsRow.holds Try.pinned (OpenSpec.ofChange rupCutsWrong)

/-- 'proofmarklaw18.PropTells': WHATEVER THE INPUT: true; the input reads as it did. -/
def propTellsSpec : ChangeSpec := { name := "propTells", fn := fun _ => fun
  | [d] => { results := [.lit (.bool true)], args := [d] }
  | _ => none }
def propTellsRow : OpenClaim := { program := "ytdlfmobnmcamaaa", sum := "35a927ead991c65220684d3d3f8575a7fd03629b985803877f6d044065674a1e", func := "proofmark/proofmarklaw18.PropTells", spec := "propTells", unfollowed := true, recurses := true, apart := false }
def PropTellsSaid : Prop := propTellsRow.holds Try.pinned (OpenSpec.ofChange propTellsSpec)

/-- ITS FALSE NEIGHBOUR: 'it returns false'. Refute it at one input. -/
def propTellsWrong : ChangeSpec := { name := "propTells", fn := fun _ => fun
  | [d] => { results := [.lit (.bool false)], args := [d] }
  | _ => none }
def PropTellsWrongFalsely : Prop := propTellsRow.holds Try.pinned (OpenSpec.ofChange propTellsWrong)

/-- 'proofmarklaw18.PropUnits': WHATEVER THE INPUT: true; the input reads as it did. -/
def propUnitsSpec : ChangeSpec := { name := "propUnits", fn := fun _ => fun
  | [d1, d2] => { results := [.lit (.bool true)], args := [d1, d2] }
  | _ => none }
def propUnitsRow : OpenClaim := { program := "ytdlfmobnmcamaaa", sum := "35a927ead991c65220684d3d3f8575a7fd03629b985803877f6d044065674a1e", func := "proofmark/proofmarklaw18.PropUnits", spec := "propUnits", unfollowed := true, recurses := true, apart := false }
def PropUnitsSaid : Prop := propUnitsRow.holds Try.pinned (OpenSpec.ofChange propUnitsSpec)

/-- ITS FALSE NEIGHBOUR: 'it returns false'. Refute it at one input. -/
def propUnitsWrong : ChangeSpec := { name := "propUnits", fn := fun _ => fun
  | [d1, d2] => { results := [.lit (.bool false)], args := [d1, d2] }
  | _ => none }
def PropUnitsWrongFalsely : Prop := propUnitsRow.holds Try.pinned (OpenSpec.ofChange propUnitsWrong)

/-- 'proofmarklaw18.PropEnds': WHATEVER THE INPUT: true; the input reads as it did. -/
def propEndsSpec : ChangeSpec := { name := "propEnds", fn := fun _ => fun
  | [d1, d2] => { results := [.lit (.bool true)], args := [d1, d2] }
  | _ => none }
def propEndsRow : OpenClaim := { program := "ytdlfmobnmcamaaa", sum := "35a927ead991c65220684d3d3f8575a7fd03629b985803877f6d044065674a1e", func := "proofmark/proofmarklaw18.PropEnds", spec := "propEnds", unfollowed := true, recurses := true, apart := false }
def PropEndsSaid : Prop := propEndsRow.holds Try.pinned (OpenSpec.ofChange propEndsSpec)

/-- ITS FALSE NEIGHBOUR: 'it returns false'. Refute it at one input. -/
def propEndsWrong : ChangeSpec := { name := "propEnds", fn := fun _ => fun
  | [d1, d2] => { results := [.lit (.bool false)], args := [d1, d2] }
  | _ => none }
def PropEndsWrongFalsely : Prop := propEndsRow.holds Try.pinned (OpenSpec.ofChange propEndsWrong)

/-- 'proofmarklaw18.PropOrder': WHATEVER THE INPUT: true; the input reads as it did. -/
def propOrderSpec : ChangeSpec := { name := "propOrder", fn := fun _ => fun
  | [d1, d2, d3] => { results := [.lit (.bool true)], args := [d1, d2, d3] }
  | _ => none }
def propOrderRow : OpenClaim := { program := "ytdlfmobnmcamaaa", sum := "35a927ead991c65220684d3d3f8575a7fd03629b985803877f6d044065674a1e", func := "proofmark/proofmarklaw18.PropOrder", spec := "propOrder", unfollowed := true, recurses := true, apart := false }
def PropOrderSaid : Prop := propOrderRow.holds Try.pinned (OpenSpec.ofChange propOrderSpec)

/-- ITS FALSE NEIGHBOUR: 'it returns false'. Refute it at one input. -/
def propOrderWrong : ChangeSpec := { name := "propOrder", fn := fun _ => fun
  | [d1, d2, d3] => { results := [.lit (.bool false)], args := [d1, d2, d3] }
  | _ => none }
def PropOrderWrongFalsely : Prop := propOrderRow.holds Try.pinned (OpenSpec.ofChange propOrderWrong)

/-- 'proofmarklaw18.PropMore': WHATEVER THE INPUT: true; the input reads as it did. -/
def propMoreSpec : ChangeSpec := { name := "propMore", fn := fun _ => fun
  | [d1, d2, d3] => { results := [.lit (.bool true)], args := [d1, d2, d3] }
  | _ => none }
def propMoreRow : OpenClaim := { program := "ytdlfmobnmcamaaa", sum := "35a927ead991c65220684d3d3f8575a7fd03629b985803877f6d044065674a1e", func := "proofmark/proofmarklaw18.PropMore", spec := "propMore", unfollowed := true, recurses := true, apart := false }
def PropMoreSaid : Prop := propMoreRow.holds Try.pinned (OpenSpec.ofChange propMoreSpec)

/-- ITS FALSE NEIGHBOUR: 'it returns false'. Refute it at one input. -/
def propMoreWrong : ChangeSpec := { name := "propMore", fn := fun _ => fun
  | [d1, d2, d3] => { results := [.lit (.bool false)], args := [d1, d2, d3] }
  | _ => none }
def PropMoreWrongFalsely : Prop := propMoreRow.holds Try.pinned (OpenSpec.ofChange propMoreWrong)

/-- 'proofmarklaw18.PropResolves': WHATEVER THE INPUT: true; the input reads as it did. -/
def propResolvesSpec : ChangeSpec := { name := "propResolves", fn := fun _ => fun
  | [d1, d2, d3] => { results := [.lit (.bool true)], args := [d1, d2, d3] }
  | _ => none }
def propResolvesRow : OpenClaim := { program := "ytdlfmobnmcamaaa", sum := "35a927ead991c65220684d3d3f8575a7fd03629b985803877f6d044065674a1e", func := "proofmark/proofmarklaw18.PropResolves", spec := "propResolves", unfollowed := true, recurses := true, apart := false }
def PropResolvesSaid : Prop := propResolvesRow.holds Try.pinned (OpenSpec.ofChange propResolvesSpec)

/-- ITS FALSE NEIGHBOUR: 'it returns false'. Refute it at one input. -/
def propResolvesWrong : ChangeSpec := { name := "propResolves", fn := fun _ => fun
  | [d1, d2, d3] => { results := [.lit (.bool false)], args := [d1, d2, d3] }
  | _ => none }
def PropResolvesWrongFalsely : Prop := propResolvesRow.holds Try.pinned (OpenSpec.ofChange propResolvesWrong)

/-- 'proofmarklaw18.PropNorms': WHATEVER THE INPUT: true; the input reads as it did. -/
def propNormsSpec : ChangeSpec := { name := "propNorms", fn := fun _ => fun
  | [d] => { results := [.lit (.bool true)], args := [d] }
  | _ => none }
def propNormsRow : OpenClaim := { program := "ytdlfmobnmcamaaa", sum := "35a927ead991c65220684d3d3f8575a7fd03629b985803877f6d044065674a1e", func := "proofmark/proofmarklaw18.PropNorms", spec := "propNorms", unfollowed := true, recurses := true, apart := false }
def PropNormsSaid : Prop := propNormsRow.holds Try.pinned (OpenSpec.ofChange propNormsSpec)

/-- ITS FALSE NEIGHBOUR: 'it returns false'. Refute it at one input. -/
def propNormsWrong : ChangeSpec := { name := "propNorms", fn := fun _ => fun
  | [d] => { results := [.lit (.bool false)], args := [d] }
  | _ => none }
def PropNormsWrongFalsely : Prop := propNormsRow.holds Try.pinned (OpenSpec.ofChange propNormsWrong)

/-- 'proofmarklaw20.RupFollows': WHATEVER THE INPUT: true; the input reads as it did. -/
def rupFollowsSpec : ChangeSpec := { name := "rupFollows", fn := fun _ => fun
  | [d1, d2] => { results := [.lit (.bool true)], args := [d1, d2] }
  | _ => none }
def rupFollowsRow : OpenClaim := { program := "ytdlfmobnmcamaaa", sum := "35a927ead991c65220684d3d3f8575a7fd03629b985803877f6d044065674a1e", func := "proofmark/proofmarklaw20.RupFollows", spec := "rupFollows", unfollowed := true, recurses := true, apart := false }
def RupFollowsSaid : Prop := rupFollowsRow.holds Try.pinned (OpenSpec.ofChange rupFollowsSpec)

/-- ITS FALSE NEIGHBOUR: 'it returns false'. Refute it at one input. -/
def rupFollowsWrong : ChangeSpec := { name := "rupFollows", fn := fun _ => fun
  | [d1, d2] => { results := [.lit (.bool false)], args := [d1, d2] }
  | _ => none }
def RupFollowsWrongFalsely : Prop := rupFollowsRow.holds Try.pinned (OpenSpec.ofChange rupFollowsWrong)

/-- 'proofmarklaw20.RupRefutes': WHATEVER THE INPUT: true; the input reads as it did. -/
def rupRefutesSpec : ChangeSpec := { name := "rupRefutes", fn := fun _ => fun
  | [d1, d2, d3] => { results := [.lit (.bool true)], args := [d1, d2, d3] }
  | _ => none }
def rupRefutesRow : OpenClaim := { program := "ytdlfmobnmcamaaa", sum := "35a927ead991c65220684d3d3f8575a7fd03629b985803877f6d044065674a1e", func := "proofmark/proofmarklaw20.RupRefutes", spec := "rupRefutes", unfollowed := true, recurses := true, apart := false }
def RupRefutesSaid : Prop := rupRefutesRow.holds Try.pinned (OpenSpec.ofChange rupRefutesSpec)

/-- ITS FALSE NEIGHBOUR: 'it returns false'. Refute it at one input. -/
def rupRefutesWrong : ChangeSpec := { name := "rupRefutes", fn := fun _ => fun
  | [d1, d2, d3] => { results := [.lit (.bool false)], args := [d1, d2, d3] }
  | _ => none }
def RupRefutesWrongFalsely : Prop := rupRefutesRow.holds Try.pinned (OpenSpec.ofChange rupRefutesWrong)

/-- 'proofmarklaw20.RupFull': WHATEVER THE INPUT: true; the input reads as it did. -/
def rupFullSpec : ChangeSpec := { name := "rupFull", fn := fun _ => fun
  | [d1, d2] => { results := [.lit (.bool true)], args := [d1, d2] }
  | _ => none }
def rupFullRow : OpenClaim := { program := "ytdlfmobnmcamaaa", sum := "35a927ead991c65220684d3d3f8575a7fd03629b985803877f6d044065674a1e", func := "proofmark/proofmarklaw20.RupFull", spec := "rupFull", unfollowed := true, recurses := true, apart := false }
def RupFullSaid : Prop := rupFullRow.holds Try.pinned (OpenSpec.ofChange rupFullSpec)

/-- ITS FALSE NEIGHBOUR: 'it returns false'. Refute it at one input. -/
def rupFullWrong : ChangeSpec := { name := "rupFull", fn := fun _ => fun
  | [d1, d2] => { results := [.lit (.bool false)], args := [d1, d2] }
  | _ => none }
def RupFullWrongFalsely : Prop := rupFullRow.holds Try.pinned (OpenSpec.ofChange rupFullWrong)

/- THE SECOND FORM. 'bulk': how many values and letters a reading holds, each counted each time it is reached (what is shared counts as often as it is met; a slice's spare places count too). A statement '..UptoSaid' is the law's where the arguments, and the package variables that the reading takes, are together of bulk at most 1048576: NARROWER than '..Said'. Prove '..Said' where nothing that the law and all that it calls make is longer than what came in: it says more and counts as full. Else prove '..UptoSaid'. A law counts once. -/
mutual
def uptoBulk {H : Type} : DataW H → Nat
  | .lit (.string bytes) => bytes.length + 1
  | .lit _ => 1
  | .nil => 1
  | .ptr d => uptoBulk d + 1
  | .slice elems spare => uptoBulkAll elems + uptoBulkAll spare + 1
  | .agg parts => uptoBulkAll parts + 1
  | .iface _ d => uptoBulk d + 1
  | .map entries => uptoBulkEntries entries + 1
  | .held _ => 1
def uptoBulkAll {H : Type} : List (DataW H) → Nat
  | [] => 0
  | d :: r => uptoBulk d + uptoBulkAll r
def uptoBulkEntries {H : Type} : List (Lit × DataW H) → Nat
  | [] => 0
  | x :: r => uptoBulkEntry x + uptoBulkEntries r
def uptoBulkEntry {H : Type} : Lit × DataW H → Nat
  | (.string bytes, d) => bytes.length + uptoBulk d + 1
  | (_, d) => uptoBulk d + 1
 end
def uptoSmall : (H : Type) → List (DataW H) → Bool := fun _ ds => decide (uptoBulkAll ds ≤ 1048576)
def OpenSpec.upto (s : _root_.Go.ChangeSpec) : _root_.Go.OpenSpec := { _root_.Go.OpenSpec.ofChange s with cond := some uptoSmall }

/-- 'proofmarklaw20.RupTells', WHERE WHAT IT READS IS OF BULK AT MOST 1048576: true; the input reads as it did. -/
def rupTellsUptoRow : OpenClaim := { program := "ytdlfmobnmcamaaa", sum := "35a927ead991c65220684d3d3f8575a7fd03629b985803877f6d044065674a1e", func := "proofmark/proofmarklaw20.RupTells", spec := "rupTells", unfollowed := true, recurses := true, apart := false, narrowed := true }
def RupTellsUptoSaid : Prop := rupTellsUptoRow.holds Try.pinned (OpenSpec.upto rupTellsSpec)

/-- 'proofmarklaw20.RupMore', WHERE WHAT IT READS IS OF BULK AT MOST 1048576: true; the input reads as it did. -/
def rupMoreUptoRow : OpenClaim := { program := "ytdlfmobnmcamaaa", sum := "35a927ead991c65220684d3d3f8575a7fd03629b985803877f6d044065674a1e", func := "proofmark/proofmarklaw20.RupMore", spec := "rupMore", unfollowed := true, recurses := true, apart := false, narrowed := true }
def RupMoreUptoSaid : Prop := rupMoreUptoRow.holds Try.pinned (OpenSpec.upto rupMoreSpec)

/-- 'proofmarklaw20.RupLonger', WHERE WHAT IT READS IS OF BULK AT MOST 1048576: true; the input reads as it did. -/
def rupLongerUptoRow : OpenClaim := { program := "ytdlfmobnmcamaaa", sum := "35a927ead991c65220684d3d3f8575a7fd03629b985803877f6d044065674a1e", func := "proofmark/proofmarklaw20.RupLonger", spec := "rupLonger", unfollowed := true, recurses := true, apart := false, narrowed := true }
def RupLongerUptoSaid : Prop := rupLongerUptoRow.holds Try.pinned (OpenSpec.upto rupLongerSpec)

/-- 'proofmarklaw20.RupCuts', WHERE WHAT IT READS IS OF BULK AT MOST 1048576: true; the input reads as it did. -/
def rupCutsUptoRow : OpenClaim := { program := "ytdlfmobnmcamaaa", sum := "35a927ead991c65220684d3d3f8575a7fd03629b985803877f6d044065674a1e", func := "proofmark/proofmarklaw20.RupCuts", spec := "rupCuts", unfollowed := true, recurses := true, apart := false, narrowed := true }
def RupCutsUptoSaid : Prop := rupCutsUptoRow.holds Try.pinned (OpenSpec.upto rupCutsSpec)

/-- 'proofmarklaw18.PropTells', WHERE WHAT IT READS IS OF BULK AT MOST 1048576: true; the input reads as it did. -/
def propTellsUptoRow : OpenClaim := { program := "ytdlfmobnmcamaaa", sum := "35a927ead991c65220684d3d3f8575a7fd03629b985803877f6d044065674a1e", func := "proofmark/proofmarklaw18.PropTells", spec := "propTells", unfollowed := true, recurses := true, apart := false, narrowed := true }
def PropTellsUptoSaid : Prop := propTellsUptoRow.holds Try.pinned (OpenSpec.upto propTellsSpec)

/-- 'proofmarklaw18.PropUnits', WHERE WHAT IT READS IS OF BULK AT MOST 1048576: true; the input reads as it did. -/
def propUnitsUptoRow : OpenClaim := { program := "ytdlfmobnmcamaaa", sum := "35a927ead991c65220684d3d3f8575a7fd03629b985803877f6d044065674a1e", func := "proofmark/proofmarklaw18.PropUnits", spec := "propUnits", unfollowed := true, recurses := true, apart := false, narrowed := true }
def PropUnitsUptoSaid : Prop := propUnitsUptoRow.holds Try.pinned (OpenSpec.upto propUnitsSpec)

/-- 'proofmarklaw18.PropEnds', WHERE WHAT IT READS IS OF BULK AT MOST 1048576: true; the input reads as it did. -/
def propEndsUptoRow : OpenClaim := { program := "ytdlfmobnmcamaaa", sum := "35a927ead991c65220684d3d3f8575a7fd03629b985803877f6d044065674a1e", func := "proofmark/proofmarklaw18.PropEnds", spec := "propEnds", unfollowed := true, recurses := true, apart := false, narrowed := true }
def PropEndsUptoSaid : Prop := propEndsUptoRow.holds Try.pinned (OpenSpec.upto propEndsSpec)

/-- 'proofmarklaw18.PropOrder', WHERE WHAT IT READS IS OF BULK AT MOST 1048576: true; the input reads as it did. -/
def propOrderUptoRow : OpenClaim := { program := "ytdlfmobnmcamaaa", sum := "35a927ead991c65220684d3d3f8575a7fd03629b985803877f6d044065674a1e", func := "proofmark/proofmarklaw18.PropOrder", spec := "propOrder", unfollowed := true, recurses := true, apart := false, narrowed := true }
def PropOrderUptoSaid : Prop := propOrderUptoRow.holds Try.pinned (OpenSpec.upto propOrderSpec)

/-- 'proofmarklaw18.PropMore', WHERE WHAT IT READS IS OF BULK AT MOST 1048576: true; the input reads as it did. -/
def propMoreUptoRow : OpenClaim := { program := "ytdlfmobnmcamaaa", sum := "35a927ead991c65220684d3d3f8575a7fd03629b985803877f6d044065674a1e", func := "proofmark/proofmarklaw18.PropMore", spec := "propMore", unfollowed := true, recurses := true, apart := false, narrowed := true }
def PropMoreUptoSaid : Prop := propMoreUptoRow.holds Try.pinned (OpenSpec.upto propMoreSpec)

/-- 'proofmarklaw18.PropResolves', WHERE WHAT IT READS IS OF BULK AT MOST 1048576: true; the input reads as it did. -/
def propResolvesUptoRow : OpenClaim := { program := "ytdlfmobnmcamaaa", sum := "35a927ead991c65220684d3d3f8575a7fd03629b985803877f6d044065674a1e", func := "proofmark/proofmarklaw18.PropResolves", spec := "propResolves", unfollowed := true, recurses := true, apart := false, narrowed := true }
def PropResolvesUptoSaid : Prop := propResolvesUptoRow.holds Try.pinned (OpenSpec.upto propResolvesSpec)

/-- 'proofmarklaw18.PropNorms', WHERE WHAT IT READS IS OF BULK AT MOST 1048576: true; the input reads as it did. -/
def propNormsUptoRow : OpenClaim := { program := "ytdlfmobnmcamaaa", sum := "35a927ead991c65220684d3d3f8575a7fd03629b985803877f6d044065674a1e", func := "proofmark/proofmarklaw18.PropNorms", spec := "propNorms", unfollowed := true, recurses := true, apart := false, narrowed := true }
def PropNormsUptoSaid : Prop := propNormsUptoRow.holds Try.pinned (OpenSpec.upto propNormsSpec)

/-- 'proofmarklaw20.RupFollows', WHERE WHAT IT READS IS OF BULK AT MOST 1048576: true; the input reads as it did. -/
def rupFollowsUptoRow : OpenClaim := { program := "ytdlfmobnmcamaaa", sum := "35a927ead991c65220684d3d3f8575a7fd03629b985803877f6d044065674a1e", func := "proofmark/proofmarklaw20.RupFollows", spec := "rupFollows", unfollowed := true, recurses := true, apart := false, narrowed := true }
def RupFollowsUptoSaid : Prop := rupFollowsUptoRow.holds Try.pinned (OpenSpec.upto rupFollowsSpec)

/-- 'proofmarklaw20.RupRefutes', WHERE WHAT IT READS IS OF BULK AT MOST 1048576: true; the input reads as it did. -/
def rupRefutesUptoRow : OpenClaim := { program := "ytdlfmobnmcamaaa", sum := "35a927ead991c65220684d3d3f8575a7fd03629b985803877f6d044065674a1e", func := "proofmark/proofmarklaw20.RupRefutes", spec := "rupRefutes", unfollowed := true, recurses := true, apart := false, narrowed := true }
def RupRefutesUptoSaid : Prop := rupRefutesUptoRow.holds Try.pinned (OpenSpec.upto rupRefutesSpec)

/-- 'proofmarklaw20.RupFull', WHERE WHAT IT READS IS OF BULK AT MOST 1048576: true; the input reads as it did. -/
def rupFullUptoRow : OpenClaim := { program := "ytdlfmobnmcamaaa", sum := "35a927ead991c65220684d3d3f8575a7fd03629b985803877f6d044065674a1e", func := "proofmark/proofmarklaw20.RupFull", spec := "rupFull", unfollowed := true, recurses := true, apart := false, narrowed := true }
def RupFullUptoSaid : Prop := rupFullUptoRow.holds Try.pinned (OpenSpec.upto rupFullSpec)

end Rows
end Go.Proofs.Ytdlfmobnmcamaaa
