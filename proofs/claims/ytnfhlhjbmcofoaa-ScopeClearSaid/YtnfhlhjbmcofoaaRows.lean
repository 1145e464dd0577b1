/-
  NARROWER THAN 'FOR EVERY INPUT', by the rows' own cells (each row's printed sentence says how): ScopeTells: loops · ScopeKinds: loops · ScopePlaces: loops · ScopeClear: loops · ScopeAhead: loops · ScopeMore: loops · ScopeOwn: loops · ScopeTwice: loops.
  DERIVED. THE GIVEN ROWS OF THIS SEAT. 8 by the template 'for every input the law returns true; each argument reads behind the call as it read before'; 0 by the template 'total and deterministic' (their statements: YtnfhlhjbmcofoaaTotals.lean).
  GIVEN WITH THE SEED: the statements are not yours to turn. If you find one false, say at which input.
  Laid BY PROGRAM, IN A SANDBOX (cutbox-rows.mjs): the forced cells as the released guide's own fill.sh prints them over the translation 53092fcc0c99ac08… (all of the seat's roots in one cut). By AI agents, Wed Nov 11 2026. No macro, syntax, notation, axiom, sorry.
-/
import Derived.Test.YtnfhlhjbmcofoaaChecked
import GoSem.Claim
import GoSem.ClaimJoined
import GoSem.ClaimMapViews
import Derived.JoinedTies
import Derived.KernelRfl
namespace Go.Proofs.Ytnfhlhjbmcofoaa
/- THE CELL 'sum', in the pinned program and in every row, IS THE sha256 OF THE DUMP (.gsa) THAT YtnfhlhjbmcofoaaProg.lean LOADS. Nothing in Lean hashes anything: it is a label: what it is worth is what the hold of that sum in a sandbox is worth. -/
noncomputable def Try.pinned : Pinned := { name := "ytnfhlhjbmcofoaa", sum := "53092fcc0c99ac084b06fc90e082a86ca6af58fc25a17b368698440780d24157", checked := Try.checked }
namespace Rows
def none {H : Type} : Left H := { results := [], args := [] }

/-- 'proofmarklaw05.ScopeTells': WHATEVER THE INPUT: true; the input reads as it did. -/
def scopeTellsSpec : ChangeSpec := { name := "scopeTells", fn := fun _ => fun
  | [d] => { results := [.lit (.bool true)], args := [d] }
  | _ => none }
def scopeTellsRow : OpenClaim := { program := "ytnfhlhjbmcofoaa", sum := "53092fcc0c99ac084b06fc90e082a86ca6af58fc25a17b368698440780d24157", func := "proofmark/proofmarklaw05.ScopeTells", spec := "scopeTells", inPlace := ["internal/bytealg.IndexByteString", "internal/bytealg.IndexString"], unfollowed := true, recurses := true, named := ["internal/bytealg.MaxLen"], loops := true, apart := false }
def ScopeTellsSaid : Prop := scopeTellsRow.holds Try.pinned (OpenSpec.ofChange scopeTellsSpec)

/-- ITS FALSE NEIGHBOUR: 'it returns false'. Refute it at one input. -/
def scopeTellsWrong : ChangeSpec := { name := "scopeTells", fn := fun _ => fun
  | [d] => { results := [.lit (.bool false)], args := [d] }
  | _ => none }
def ScopeTellsWrongFalsely : Prop := scopeTellsRow.holds Try.pinned (OpenSpec.ofChange scopeTellsWrong)

/-- 'proofmarklaw05.ScopeKinds': WHATEVER THE INPUT: true; the input reads as it did. -/
def scopeKindsSpec : ChangeSpec := { name := "scopeKinds", fn := fun _ => fun
  | [d1, d2] => { results := [.lit (.bool true)], args := [d1, d2] }
  | _ => none }
def scopeKindsRow : OpenClaim := { program := "ytnfhlhjbmcofoaa", sum := "53092fcc0c99ac084b06fc90e082a86ca6af58fc25a17b368698440780d24157", func := "proofmark/proofmarklaw05.ScopeKinds", spec := "scopeKinds", inPlace := ["internal/bytealg.IndexByteString", "internal/bytealg.IndexString"], unfollowed := true, recurses := true, named := ["internal/bytealg.MaxLen"], loops := true, apart := false }
def ScopeKindsSaid : Prop := scopeKindsRow.holds Try.pinned (OpenSpec.ofChange scopeKindsSpec)

/-- ITS FALSE NEIGHBOUR: 'it returns false'. Refute it at one input. -/
def scopeKindsWrong : ChangeSpec := { name := "scopeKinds", fn := fun _ => fun
  | [d1, d2] => { results := [.lit (.bool false)], args := [d1, d2] }
  | _ => none }
def ScopeKindsWrongFalsely : Prop := scopeKindsRow.holds Try.pinned (OpenSpec.ofChange scopeKindsWrong)

/-- 'proofmarklaw05.ScopePlaces': WHATEVER THE INPUT: true; the input reads as it did. -/
def scopePlacesSpec : ChangeSpec := { name := "scopePlaces", fn := fun _ => fun
  | [d] => { results := [.lit (.bool true)], args := [d] }
  | _ => none }
def scopePlacesRow : OpenClaim := { program := "ytnfhlhjbmcofoaa", sum := "53092fcc0c99ac084b06fc90e082a86ca6af58fc25a17b368698440780d24157", func := "proofmark/proofmarklaw05.ScopePlaces", spec := "scopePlaces", inPlace := ["internal/bytealg.IndexByteString", "internal/bytealg.IndexString"], unfollowed := true, recurses := true, named := ["internal/bytealg.MaxLen"], loops := true, apart := false }
def ScopePlacesSaid : Prop := scopePlacesRow.holds Try.pinned (OpenSpec.ofChange scopePlacesSpec)

/-- ITS FALSE NEIGHBOUR: 'it returns false'. Refute it at one input. -/
def scopePlacesWrong : ChangeSpec := { name := "scopePlaces", fn := fun _ => fun
  | [d] => { results := [.lit (.bool false)], args := [d] }
  | _ => none }
def ScopePlacesWrongFalsely : Prop := scopePlacesRow.holds Try.pinned (OpenSpec.ofChange scopePlacesWrong)

/-- 'proofmarklaw05.ScopeClear': WHATEVER THE INPUT: true; the input reads as it did. -/
def scopeClearSpec : ChangeSpec := { name := "scopeClear", fn := fun _ => fun
  | [d] => { results := [.lit (.bool true)], args := [d] }
  | _ => none }
def scopeClearRow : OpenClaim := { program := "ytnfhlhjbmcofoaa", sum := "53092fcc0c99ac084b06fc90e082a86ca6af58fc25a17b368698440780d24157", func := "proofmark/proofmarklaw05.ScopeClear", spec := "scopeClear", inPlace := ["internal/bytealg.IndexByteString", "internal/bytealg.IndexString"], unfollowed := true, recurses := true, named := ["internal/bytealg.MaxLen"], loops := true, apart := false }
def ScopeClearSaid : Prop := scopeClearRow.holds Try.pinned (OpenSpec.ofChange scopeClearSpec)

/-- ITS FALSE NEIGHBOUR: 'it returns false'. Refute it at one input. -/
def scopeClearWrong : ChangeSpec := { name := "scopeClear", fn := fun _ => fun
  | [d] => { results := [.lit (.bool false)], args := [d] }
  | _ => none }
def ScopeClearWrongFalsely : Prop := scopeClearRow.holds Try.pinned (OpenSpec.ofChange scopeClearWrong)

/-- 'proofmarklaw05.ScopeAhead': WHATEVER THE INPUT: true; the input reads as it did. -/
def scopeAheadSpec : ChangeSpec := { name := "scopeAhead", fn := fun _ => fun
  | [d1, d2, d3] => { results := [.lit (.bool true)], args := [d1, d2, d3] }
  | _ => none }
def scopeAheadRow : OpenClaim := { program := "ytnfhlhjbmcofoaa", sum := "53092fcc0c99ac084b06fc90e082a86ca6af58fc25a17b368698440780d24157", func := "proofmark/proofmarklaw05.ScopeAhead", spec := "scopeAhead", inPlace := ["internal/bytealg.IndexByteString", "internal/bytealg.IndexString"], unfollowed := true, recurses := true, named := ["internal/bytealg.MaxLen"], loops := true, apart := false }
def ScopeAheadSaid : Prop := scopeAheadRow.holds Try.pinned (OpenSpec.ofChange scopeAheadSpec)

/-- ITS FALSE NEIGHBOUR: 'it returns false'. Refute it at one input. -/
def scopeAheadWrong : ChangeSpec := { name := "scopeAhead", fn := fun _ => fun
  | [d1, d2, d3] => { results := [.lit (.bool false)], args := [d1, d2, d3] }
  | _ => none }
def ScopeAheadWrongFalsely : Prop := scopeAheadRow.holds Try.pinned (OpenSpec.ofChange scopeAheadWrong)

/-- 'proofmarklaw05.ScopeMore': WHATEVER THE INPUT: true; the input reads as it did. -/
def scopeMoreSpec : ChangeSpec := { name := "scopeMore", fn := fun _ => fun
  | [d1, d2] => { results := [.lit (.bool true)], args := [d1, d2] }
  | _ => none }
def scopeMoreRow : OpenClaim := { program := "ytnfhlhjbmcofoaa", sum := "53092fcc0c99ac084b06fc90e082a86ca6af58fc25a17b368698440780d24157", func := "proofmark/proofmarklaw05.ScopeMore", spec := "scopeMore", inPlace := ["internal/bytealg.IndexByteString", "internal/bytealg.IndexString"], unfollowed := true, recurses := true, named := ["internal/bytealg.MaxLen"], loops := true, apart := false }
def ScopeMoreSaid : Prop := scopeMoreRow.holds Try.pinned (OpenSpec.ofChange scopeMoreSpec)

/-- ITS FALSE NEIGHBOUR: 'it returns false'. Refute it at one input. -/
def scopeMoreWrong : ChangeSpec := { name := "scopeMore", fn := fun _ => fun
  | [d1, d2] => { results := [.lit (.bool false)], args := [d1, d2] }
  | _ => none }
def ScopeMoreWrongFalsely : Prop := scopeMoreRow.holds Try.pinned (OpenSpec.ofChange scopeMoreWrong)

/-- 'proofmarklaw05.ScopeOwn': WHATEVER THE INPUT: true; the input reads as it did. -/
def scopeOwnSpec : ChangeSpec := { name := "scopeOwn", fn := fun _ => fun
  | [d1, d2, d3] => { results := [.lit (.bool true)], args := [d1, d2, d3] }
  | _ => none }
def scopeOwnRow : OpenClaim := { program := "ytnfhlhjbmcofoaa", sum := "53092fcc0c99ac084b06fc90e082a86ca6af58fc25a17b368698440780d24157", func := "proofmark/proofmarklaw05.ScopeOwn", spec := "scopeOwn", inPlace := ["internal/bytealg.IndexByteString", "internal/bytealg.IndexString"], unfollowed := true, recurses := true, named := ["internal/bytealg.MaxLen"], loops := true, apart := false }
def ScopeOwnSaid : Prop := scopeOwnRow.holds Try.pinned (OpenSpec.ofChange scopeOwnSpec)

/-- ITS FALSE NEIGHBOUR: 'it returns false'. Refute it at one input. -/
def scopeOwnWrong : ChangeSpec := { name := "scopeOwn", fn := fun _ => fun
  | [d1, d2, d3] => { results := [.lit (.bool false)], args := [d1, d2, d3] }
  | _ => none }
def ScopeOwnWrongFalsely : Prop := scopeOwnRow.holds Try.pinned (OpenSpec.ofChange scopeOwnWrong)

/-- 'proofmarklaw05.ScopeTwice': WHATEVER THE INPUT: true; the input reads as it did. -/
def scopeTwiceSpec : ChangeSpec := { name := "scopeTwice", fn := fun _ => fun
  | [d1, d2, d3] => { results := [.lit (.bool true)], args := [d1, d2, d3] }
  | _ => none }
def scopeTwiceRow : OpenClaim := { program := "ytnfhlhjbmcofoaa", sum := "53092fcc0c99ac084b06fc90e082a86ca6af58fc25a17b368698440780d24157", func := "proofmark/proofmarklaw05.ScopeTwice", spec := "scopeTwice", inPlace := ["internal/bytealg.IndexByteString", "internal/bytealg.IndexString"], unfollowed := true, recurses := true, named := ["internal/bytealg.MaxLen"], loops := true, apart := false }
def ScopeTwiceSaid : Prop := scopeTwiceRow.holds Try.pinned (OpenSpec.ofChange scopeTwiceSpec)

/-- ITS FALSE NEIGHBOUR: 'it returns false'. Refute it at one input. -/
def scopeTwiceWrong : ChangeSpec := { name := "scopeTwice", fn := fun _ => fun
  | [d1, d2, d3] => { results := [.lit (.bool false)], args := [d1, d2, d3] }
  | _ => none }
def ScopeTwiceWrongFalsely : Prop := scopeTwiceRow.holds Try.pinned (OpenSpec.ofChange scopeTwiceWrong)

/- THE SECOND FORM. 'bulk': how many values and letters a reading holds, each counted each time it is reached (what is shared counts as often as it is met; a slice's spare places count too). A statement '..UptoSaid' is the law's where the arguments, and the package variables that the reading takes, are together of bulk at most 1048576: NARROWER than '..Said'. Prove '..Said' where nothing that the law and all that it calls make is longer than what came in: it says more and counts as full. Else prove '..UptoSaid'. A law counts once. -/
mutual
def uptoBulk {H : Type} : DataW H → Nat
  | .lit (.string bytes) => bytes.length + 1
  | .lit _ => 1
  | .nil => 1
  | .ptr d => uptoBulk d + 1
  | .slice elems spare => uptoBulkAll elems + uptoBulkAll spare + 1
  | .agg parts => uptoBulkAll parts + 1
  | .iface _ d => uptoBulk d + 1
  | .map entries => uptoBulkEntries entries + 1
  | .held _ => 1
def uptoBulkAll {H : Type} : List (DataW H) → Nat
  | [] => 0
  | d :: r => uptoBulk d + uptoBulkAll r
def uptoBulkEntries {H : Type} : List (Lit × DataW H) → Nat
  | [] => 0
  | x :: r => uptoBulkEntry x + uptoBulkEntries r
def uptoBulkEntry {H : Type} : Lit × DataW H → Nat
  | (.string bytes, d) => bytes.length + uptoBulk d + 1
  | (_, d) => uptoBulk d + 1
 end
def uptoSmall : (H : Type) → List (DataW H) → Bool := fun _ ds => decide (uptoBulkAll ds ≤ 1048576)
def OpenSpec.upto (s : _root_.Go.ChangeSpec) : _root_.Go.OpenSpec := { _root_.Go.OpenSpec.ofChange s with cond := some uptoSmall }

/-- 'proofmarklaw05.ScopeTells', WHERE WHAT IT READS IS OF BULK AT MOST 1048576: true; the input reads as it did. -/
def scopeTellsUptoRow : OpenClaim := { program := "ytnfhlhjbmcofoaa", sum := "53092fcc0c99ac084b06fc90e082a86ca6af58fc25a17b368698440780d24157", func := "proofmark/proofmarklaw05.ScopeTells", spec := "scopeTells", inPlace := ["internal/bytealg.IndexByteString", "internal/bytealg.IndexString"], unfollowed := true, recurses := true, named := ["internal/bytealg.MaxLen"], loops := true, apart := false, narrowed := true }
def ScopeTellsUptoSaid : Prop := scopeTellsUptoRow.holds Try.pinned (OpenSpec.upto scopeTellsSpec)

/-- 'proofmarklaw05.ScopeKinds', WHERE WHAT IT READS IS OF BULK AT MOST 1048576: true; the input reads as it did. -/
def scopeKindsUptoRow : OpenClaim := { program := "ytnfhlhjbmcofoaa", sum := "53092fcc0c99ac084b06fc90e082a86ca6af58fc25a17b368698440780d24157", func := "proofmark/proofmarklaw05.ScopeKinds", spec := "scopeKinds", inPlace := ["internal/bytealg.IndexByteString", "internal/bytealg.IndexString"], unfollowed := true, recurses := true, named := ["internal/bytealg.MaxLen"], loops := true, apart := false, narrowed := true }
def ScopeKindsUptoSaid : Prop := scopeKindsUptoRow.holds Try.pinned (OpenSpec.upto scopeKindsSpec)

/-- 'proofmarklaw05.ScopePlaces', WHERE WHAT IT READS IS OF BULK AT MOST 1048576: true; the input reads as it did. -/
def scopePlacesUptoRow : OpenClaim := { program := "ytnfhlhjbmcofoaa", sum := "53092fcc0c99ac084b06fc90e082a86ca6af58fc25a17b368698440780d24157", func := "proofmark/proofmarklaw05.ScopePlaces", spec := "scopePlaces", inPlace := ["internal/bytealg.IndexByteString", "internal/bytealg.IndexString"], unfollowed := true, recurses := true, named := ["internal/bytealg.MaxLen"], loops := true, apart := false, narrowed := true }
def ScopePlacesUptoSaid : Prop := scopePlacesUptoRow.holds Try.pinned (OpenSpec.upto scopePlacesSpec)

/-- 'proofmarklaw05.ScopeClear', WHERE WHAT IT READS IS OF BULK AT MOST 1048576: true; the input reads as it did. -/
def scopeClearUptoRow : OpenClaim := { program := "ytnfhlhjbmcofoaa", sum := "53092fcc0c99ac084b06fc90e082a86ca6af58fc25a17b368698440780d24157", func := "proofmark/proofmarklaw05.ScopeClear", spec := "scopeClear", inPlace := ["internal/bytealg.IndexByteString", "internal/bytealg.IndexString"], unfollowed := true, recurses := true, named := ["internal/bytealg.MaxLen"], loops := true, apart := false, narrowed := true }
def ScopeClearUptoSaid : Prop := scopeClearUptoRow.holds Try.pinned (OpenSpec.upto scopeClearSpec)

/-- 'proofmarklaw05.ScopeAhead', WHERE WHAT IT READS IS OF BULK AT MOST 1048576: true; the input reads as it did. -/
def scopeAheadUptoRow : OpenClaim := { program := "ytnfhlhjbmcofoaa", sum := "53092fcc0c99ac084b06fc90e082a86ca6af58fc25a17b368698440780d24157", func := "proofmark/proofmarklaw05.ScopeAhead", spec := "scopeAhead", inPlace := ["internal/bytealg.IndexByteString", "internal/bytealg.IndexString"], unfollowed := true, recurses := true, named := ["internal/bytealg.MaxLen"], loops := true, apart := false, narrowed := true }
def ScopeAheadUptoSaid : Prop := scopeAheadUptoRow.holds Try.pinned (OpenSpec.upto scopeAheadSpec)

/-- 'proofmarklaw05.ScopeMore', WHERE WHAT IT READS IS OF BULK AT MOST 1048576: true; the input reads as it did. -/
def scopeMoreUptoRow : OpenClaim := { program := "ytnfhlhjbmcofoaa", sum := "53092fcc0c99ac084b06fc90e082a86ca6af58fc25a17b368698440780d24157", func := "proofmark/proofmarklaw05.ScopeMore", spec := "scopeMore", inPlace := ["internal/bytealg.IndexByteString", "internal/bytealg.IndexString"], unfollowed := true, recurses := true, named := ["internal/bytealg.MaxLen"], loops := true, apart := false, narrowed := true }
def ScopeMoreUptoSaid : Prop := scopeMoreUptoRow.holds Try.pinned (OpenSpec.upto scopeMoreSpec)

/-- 'proofmarklaw05.ScopeOwn', WHERE WHAT IT READS IS OF BULK AT MOST 1048576: true; the input reads as it did. -/
def scopeOwnUptoRow : OpenClaim := { program := "ytnfhlhjbmcofoaa", sum := "53092fcc0c99ac084b06fc90e082a86ca6af58fc25a17b368698440780d24157", func := "proofmark/proofmarklaw05.ScopeOwn", spec := "scopeOwn", inPlace := ["internal/bytealg.IndexByteString", "internal/bytealg.IndexString"], unfollowed := true, recurses := true, named := ["internal/bytealg.MaxLen"], loops := true, apart := false, narrowed := true }
def ScopeOwnUptoSaid : Prop := scopeOwnUptoRow.holds Try.pinned (OpenSpec.upto scopeOwnSpec)

/-- 'proofmarklaw05.ScopeTwice', WHERE WHAT IT READS IS OF BULK AT MOST 1048576: true; the input reads as it did. -/
def scopeTwiceUptoRow : OpenClaim := { program := "ytnfhlhjbmcofoaa", sum := "53092fcc0c99ac084b06fc90e082a86ca6af58fc25a17b368698440780d24157", func := "proofmark/proofmarklaw05.ScopeTwice", spec := "scopeTwice", inPlace := ["internal/bytealg.IndexByteString", "internal/bytealg.IndexString"], unfollowed := true, recurses := true, named := ["internal/bytealg.MaxLen"], loops := true, apart := false, narrowed := true }
def ScopeTwiceUptoSaid : Prop := scopeTwiceUptoRow.holds Try.pinned (OpenSpec.upto scopeTwiceSpec)

end Rows
end Go.Proofs.Ytnfhlhjbmcofoaa
