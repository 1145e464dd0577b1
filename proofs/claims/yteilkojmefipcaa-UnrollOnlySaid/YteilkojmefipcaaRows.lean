/-
  No cell of these rows narrows 'for every input' (looked for: loops, veiled, ifaces, maps, wideKeys, modest, calm, conditions, laid).
  DERIVED. THE GIVEN ROWS OF THIS SEAT. 6 by the template 'for every input the law returns true; each argument reads behind the call as it read before'; 0 by the template 'total and deterministic' (their statements: YteilkojmefipcaaTotals.lean).
  GIVEN WITH THE SEED: the statements are not yours to turn. If you find one false, say at which input.
  Laid BY PROGRAM, IN A SANDBOX (cutbox-rows.mjs): the forced cells as the released guide's own fill.sh prints them over the translation 49f8d209f81ec0b4… (all of the seat's roots in one cut). By AI agents, Wed Nov 11 2026. No macro, syntax, notation, axiom, sorry.
-/
import Derived.Test.YteilkojmefipcaaChecked
import GoSem.Claim
import GoSem.ClaimJoined
import GoSem.ClaimMapViews
import Derived.JoinedTies
import Derived.KernelRfl
namespace Go.Proofs.Yteilkojmefipcaa
/- THE CELL 'sum', in the pinned program and in every row, IS THE sha256 OF THE DUMP (.gsa) THAT YteilkojmefipcaaProg.lean LOADS. Nothing in Lean hashes anything: it is a label: what it is worth is what the hold of that sum in a sandbox is worth. -/
noncomputable def Try.pinned : Pinned := { name := "yteilkojmefipcaa", sum := "49f8d209f81ec0b4c5dec05450af068582d79f69a61d652559bd88a0c6c396b6", checked := Try.checked }
namespace Rows
def none {H : Type} : Left H := { results := [], args := [] }

/-- 'proofmarklaw21.UnrollTells': WHATEVER THE INPUT: true; the input reads as it did. -/
def unrollTellsSpec : ChangeSpec := { name := "unrollTells", fn := fun _ => fun
  | [d1, d2, d3, d4, d5, d6, d7] => { results := [.lit (.bool true)], args := [d1, d2, d3, d4, d5, d6, d7] }
  | _ => none }
def unrollTellsRow : OpenClaim := { program := "yteilkojmefipcaa", sum := "49f8d209f81ec0b4c5dec05450af068582d79f69a61d652559bd88a0c6c396b6", func := "proofmark/proofmarklaw21.UnrollTells", spec := "unrollTells", unfollowed := true, recurses := true, apart := false }
def UnrollTellsSaid : Prop := unrollTellsRow.holds Try.pinned (OpenSpec.ofChange unrollTellsSpec)

/-- ITS FALSE NEIGHBOUR: 'it returns false'. Refute it at one input. -/
def unrollTellsWrong : ChangeSpec := { name := "unrollTells", fn := fun _ => fun
  | [d1, d2, d3, d4, d5, d6, d7] => { results := [.lit (.bool false)], args := [d1, d2, d3, d4, d5, d6, d7] }
  | _ => none }
def UnrollTellsWrongFalsely : Prop := unrollTellsRow.holds Try.pinned (OpenSpec.ofChange unrollTellsWrong)

/-- 'proofmarklaw21.UnrollFewer': WHATEVER THE INPUT: true; the input reads as it did. -/
def unrollFewerSpec : ChangeSpec := { name := "unrollFewer", fn := fun _ => fun
  | [d1, d2, d3, d4, d5] => { results := [.lit (.bool true)], args := [d1, d2, d3, d4, d5] }
  | _ => none }
def unrollFewerRow : OpenClaim := { program := "yteilkojmefipcaa", sum := "49f8d209f81ec0b4c5dec05450af068582d79f69a61d652559bd88a0c6c396b6", func := "proofmark/proofmarklaw21.UnrollFewer", spec := "unrollFewer", unfollowed := true, recurses := true, apart := false }
def UnrollFewerSaid : Prop := unrollFewerRow.holds Try.pinned (OpenSpec.ofChange unrollFewerSpec)

/-- ITS FALSE NEIGHBOUR: 'it returns false'. Refute it at one input. -/
def unrollFewerWrong : ChangeSpec := { name := "unrollFewer", fn := fun _ => fun
  | [d1, d2, d3, d4, d5] => { results := [.lit (.bool false)], args := [d1, d2, d3, d4, d5] }
  | _ => none }
def UnrollFewerWrongFalsely : Prop := unrollFewerRow.holds Try.pinned (OpenSpec.ofChange unrollFewerWrong)

/-- 'proofmarklaw21.UnrollApart': WHATEVER THE INPUT: true; the input reads as it did. -/
def unrollApartSpec : ChangeSpec := { name := "unrollApart", fn := fun _ => fun
  | [d1, d2] => { results := [.lit (.bool true)], args := [d1, d2] }
  | _ => none }
def unrollApartRow : OpenClaim := { program := "yteilkojmefipcaa", sum := "49f8d209f81ec0b4c5dec05450af068582d79f69a61d652559bd88a0c6c396b6", func := "proofmark/proofmarklaw21.UnrollApart", spec := "unrollApart", unfollowed := true, recurses := true, apart := false }
def UnrollApartSaid : Prop := unrollApartRow.holds Try.pinned (OpenSpec.ofChange unrollApartSpec)

/-- ITS FALSE NEIGHBOUR: 'it returns false'. Refute it at one input. -/
def unrollApartWrong : ChangeSpec := { name := "unrollApart", fn := fun _ => fun
  | [d1, d2] => { results := [.lit (.bool false)], args := [d1, d2] }
  | _ => none }
def UnrollApartWrongFalsely : Prop := unrollApartRow.holds Try.pinned (OpenSpec.ofChange unrollApartWrong)

/-- 'proofmarklaw21.UnrollOnly': WHATEVER THE INPUT: true; the input reads as it did. -/
def unrollOnlySpec : ChangeSpec := { name := "unrollOnly", fn := fun _ => fun
  | [d1, d2, d3, d4, d5, d6] => { results := [.lit (.bool true)], args := [d1, d2, d3, d4, d5, d6] }
  | _ => none }
def unrollOnlyRow : OpenClaim := { program := "yteilkojmefipcaa", sum := "49f8d209f81ec0b4c5dec05450af068582d79f69a61d652559bd88a0c6c396b6", func := "proofmark/proofmarklaw21.UnrollOnly", spec := "unrollOnly", unfollowed := true, recurses := true, apart := false }
def UnrollOnlySaid : Prop := unrollOnlyRow.holds Try.pinned (OpenSpec.ofChange unrollOnlySpec)

/-- ITS FALSE NEIGHBOUR: 'it returns false'. Refute it at one input. -/
def unrollOnlyWrong : ChangeSpec := { name := "unrollOnly", fn := fun _ => fun
  | [d1, d2, d3, d4, d5, d6] => { results := [.lit (.bool false)], args := [d1, d2, d3, d4, d5, d6] }
  | _ => none }
def UnrollOnlyWrongFalsely : Prop := unrollOnlyRow.holds Try.pinned (OpenSpec.ofChange unrollOnlyWrong)

/-- 'proofmarklaw21.UnrollRuns': WHATEVER THE INPUT: true; the input reads as it did. -/
def unrollRunsSpec : ChangeSpec := { name := "unrollRuns", fn := fun _ => fun
  | [d1, d2, d3, d4, d5] => { results := [.lit (.bool true)], args := [d1, d2, d3, d4, d5] }
  | _ => none }
def unrollRunsRow : OpenClaim := { program := "yteilkojmefipcaa", sum := "49f8d209f81ec0b4c5dec05450af068582d79f69a61d652559bd88a0c6c396b6", func := "proofmark/proofmarklaw21.UnrollRuns", spec := "unrollRuns", unfollowed := true, recurses := true, apart := false }
def UnrollRunsSaid : Prop := unrollRunsRow.holds Try.pinned (OpenSpec.ofChange unrollRunsSpec)

/-- ITS FALSE NEIGHBOUR: 'it returns false'. Refute it at one input. -/
def unrollRunsWrong : ChangeSpec := { name := "unrollRuns", fn := fun _ => fun
  | [d1, d2, d3, d4, d5] => { results := [.lit (.bool false)], args := [d1, d2, d3, d4, d5] }
  | _ => none }
def UnrollRunsWrongFalsely : Prop := unrollRunsRow.holds Try.pinned (OpenSpec.ofChange unrollRunsWrong)

/-- 'proofmarklaw21.UnrollChains': WHATEVER THE INPUT: true; the input reads as it did. -/
def unrollChainsSpec : ChangeSpec := { name := "unrollChains", fn := fun _ => fun
  | [d1, d2, d3] => { results := [.lit (.bool true)], args := [d1, d2, d3] }
  | _ => none }
def unrollChainsRow : OpenClaim := { program := "yteilkojmefipcaa", sum := "49f8d209f81ec0b4c5dec05450af068582d79f69a61d652559bd88a0c6c396b6", func := "proofmark/proofmarklaw21.UnrollChains", spec := "unrollChains", unfollowed := true, recurses := true, apart := false }
def UnrollChainsSaid : Prop := unrollChainsRow.holds Try.pinned (OpenSpec.ofChange unrollChainsSpec)

/-- ITS FALSE NEIGHBOUR: 'it returns false'. Refute it at one input. -/
def unrollChainsWrong : ChangeSpec := { name := "unrollChains", fn := fun _ => fun
  | [d1, d2, d3] => { results := [.lit (.bool false)], args := [d1, d2, d3] }
  | _ => none }
def UnrollChainsWrongFalsely : Prop := unrollChainsRow.holds Try.pinned (OpenSpec.ofChange unrollChainsWrong)

/- THE SECOND FORM. 'bulk': how many values and letters a reading holds, each counted each time it is reached (what is shared counts as often as it is met; a slice's spare places count too). A statement '..UptoSaid' is the law's where the arguments, and the package variables that the reading takes, are together of bulk at most 1048576: NARROWER than '..Said'. Prove '..Said' where nothing that the law and all that it calls make is longer than what came in: it says more and counts as full. Else prove '..UptoSaid'. A law counts once. -/
mutual
def uptoBulk {H : Type} : DataW H → Nat
  | .lit (.string bytes) => bytes.length + 1
  | .lit _ => 1
  | .nil => 1
  | .ptr d => uptoBulk d + 1
  | .slice elems spare => uptoBulkAll elems + uptoBulkAll spare + 1
  | .agg parts => uptoBulkAll parts + 1
  | .iface _ d => uptoBulk d + 1
  | .map entries => uptoBulkEntries entries + 1
  | .held _ => 1
def uptoBulkAll {H : Type} : List (DataW H) → Nat
  | [] => 0
  | d :: r => uptoBulk d + uptoBulkAll r
def uptoBulkEntries {H : Type} : List (Lit × DataW H) → Nat
  | [] => 0
  | x :: r => uptoBulkEntry x + uptoBulkEntries r
def uptoBulkEntry {H : Type} : Lit × DataW H → Nat
  | (.string bytes, d) => bytes.length + uptoBulk d + 1
  | (_, d) => uptoBulk d + 1
 end
def uptoSmall : (H : Type) → List (DataW H) → Bool := fun _ ds => decide (uptoBulkAll ds ≤ 1048576)
def OpenSpec.upto (s : _root_.Go.ChangeSpec) : _root_.Go.OpenSpec := { _root_.Go.OpenSpec.ofChange s with cond := some uptoSmall }

/-- 'proofmarklaw21.UnrollTells', WHERE WHAT IT READS IS OF BULK AT MOST 1048576: true; the input reads as it did. -/
def unrollTellsUptoRow : OpenClaim := { program := "yteilkojmefipcaa", sum := "49f8d209f81ec0b4c5dec05450af068582d79f69a61d652559bd88a0c6c396b6", func := "proofmark/proofmarklaw21.UnrollTells", spec := "unrollTells", unfollowed := true, recurses := true, apart := false, narrowed := true }
def UnrollTellsUptoSaid : Prop := unrollTellsUptoRow.holds Try.pinned (OpenSpec.upto unrollTellsSpec)

/-- 'proofmarklaw21.UnrollFewer', WHERE WHAT IT READS IS OF BULK AT MOST 1048576: true; the input reads as it did. -/
def unrollFewerUptoRow : OpenClaim := { program := "yteilkojmefipcaa", sum := "49f8d209f81ec0b4c5dec05450af068582d79f69a61d652559bd88a0c6c396b6", func := "proofmark/proofmarklaw21.UnrollFewer", spec := "unrollFewer", unfollowed := true, recurses := true, apart := false, narrowed := true }
def UnrollFewerUptoSaid : Prop := unrollFewerUptoRow.holds Try.pinned (OpenSpec.upto unrollFewerSpec)

/-- 'proofmarklaw21.UnrollApart', WHERE WHAT IT READS IS OF BULK AT MOST 1048576: true; the input reads as it did. -/
def unrollApartUptoRow : OpenClaim := { program := "yteilkojmefipcaa", sum := "49f8d209f81ec0b4c5dec05450af068582d79f69a61d652559bd88a0c6c396b6", func := "proofmark/proofmarklaw21.UnrollApart", spec := "unrollApart", unfollowed := true, recurses := true, apart := false, narrowed := true }
def UnrollApartUptoSaid : Prop := unrollApartUptoRow.holds Try.pinned (OpenSpec.upto unrollApartSpec)

/-- 'proofmarklaw21.UnrollOnly', WHERE WHAT IT READS IS OF BULK AT MOST 1048576: true; the input reads as it did. -/
def unrollOnlyUptoRow : OpenClaim := { program := "yteilkojmefipcaa", sum := "49f8d209f81ec0b4c5dec05450af068582d79f69a61d652559bd88a0c6c396b6", func := "proofmark/proofmarklaw21.UnrollOnly", spec := "unrollOnly", unfollowed := true, recurses := true, apart := false, narrowed := true }
def UnrollOnlyUptoSaid : Prop := unrollOnlyUptoRow.holds Try.pinned (OpenSpec.upto unrollOnlySpec)

/-- 'proofmarklaw21.UnrollRuns', WHERE WHAT IT READS IS OF BULK AT MOST 1048576: true; the input reads as it did. -/
def unrollRunsUptoRow : OpenClaim := { program := "yteilkojmefipcaa", sum := "49f8d209f81ec0b4c5dec05450af068582d79f69a61d652559bd88a0c6c396b6", func := "proofmark/proofmarklaw21.UnrollRuns", spec := "unrollRuns", unfollowed := true, recurses := true, apart := false, narrowed := true }
def UnrollRunsUptoSaid : Prop := unrollRunsUptoRow.holds Try.pinned (OpenSpec.upto unrollRunsSpec)

/-- 'proofmarklaw21.UnrollChains', WHERE WHAT IT READS IS OF BULK AT MOST 1048576: true; the input reads as it did. -/
def unrollChainsUptoRow : OpenClaim := { program := "yteilkojmefipcaa", sum := "49f8d209f81ec0b4c5dec05450af068582d79f69a61d652559bd88a0c6c396b6", func := "proofmark/proofmarklaw21.UnrollChains", spec := "unrollChains", unfollowed := true, recurses := true, apart := false, narrowed := true }
def UnrollChainsUptoSaid : Prop := unrollChainsUptoRow.holds Try.pinned (OpenSpec.upto unrollChainsSpec)

end Rows
end Go.Proofs.Yteilkojmefipcaa
