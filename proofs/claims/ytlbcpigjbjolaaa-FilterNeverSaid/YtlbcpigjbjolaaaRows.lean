/-
  No cell of these rows narrows 'for every input' (looked for: loops, veiled, ifaces, maps, wideKeys, modest, calm, conditions, laid).
  DERIVED. THE GIVEN ROWS OF THIS SEAT. 3 by the template 'for every input the law returns true; each argument reads behind the call as it read before'; 0 by the template 'total and deterministic' (their statements: YtlbcpigjbjolaaaTotals.lean).
  GIVEN WITH THE SEED: the statements are not yours to turn. If you find one false, say at which input.
  Laid BY PROGRAM, IN A SANDBOX (cutbox-rows.mjs): the forced cells as the released guide's own fill.sh prints them over the translation 3082825a849731b1… (all of the seat's roots in one cut). By AI agents, Wed Nov 11 2026. No macro, syntax, notation, axiom, sorry.
-/
import Derived.Test.YtlbcpigjbjolaaaChecked
import GoSem.Claim
import GoSem.ClaimJoined
import GoSem.ClaimMapViews
import Derived.JoinedTies
import Derived.KernelRfl
namespace Go.Proofs.Ytlbcpigjbjolaaa
/- THE CELL 'sum', in the pinned program and in every row, IS THE sha256 OF THE DUMP (.gsa) THAT YtlbcpigjbjolaaaProg.lean LOADS. Nothing in Lean hashes anything: it is a label: what it is worth is what the hold of that sum in a sandbox is worth. -/
noncomputable def Try.pinned : Pinned := { name := "ytlbcpigjbjolaaa", sum := "3082825a849731b16ddfd1addd07e0ccaf6ea2b4dbab35a50200020721ed3b39", checked := Try.checked }
namespace Rows
def none {H : Type} : Left H := { results := [], args := [] }

/-- 'tithebarnlaw22.FilterMakes': WHATEVER THE INPUT: true; the input reads as it did. -/
def filterMakesSpec : ChangeSpec := { name := "filterMakes", fn := fun _ => fun
  | [d] => { results := [.lit (.bool true)], args := [d] }
  | _ => none }
def filterMakesRow : OpenClaim := { program := "ytlbcpigjbjolaaa", sum := "3082825a849731b16ddfd1addd07e0ccaf6ea2b4dbab35a50200020721ed3b39", func := "tithebarn/tithebarnlaw22.FilterMakes", spec := "filterMakes", unfollowed := true, recurses := true, apart := false }
def FilterMakesSaid : Prop := filterMakesRow.holds Try.pinned (OpenSpec.ofChange filterMakesSpec)

/-- ITS FALSE NEIGHBOUR: 'it returns false'. Refute it at one input. -/
def filterMakesWrong : ChangeSpec := { name := "filterMakes", fn := fun _ => fun
  | [d] => { results := [.lit (.bool false)], args := [d] }
  | _ => none }
def FilterMakesWrongFalsely : Prop := filterMakesRow.holds Try.pinned (OpenSpec.ofChange filterMakesWrong)

/-- 'tithebarnlaw22.FilterOrder': WHATEVER THE INPUT: true; the input reads as it did. -/
def filterOrderSpec : ChangeSpec := { name := "filterOrder", fn := fun _ => fun
  | [d] => { results := [.lit (.bool true)], args := [d] }
  | _ => none }
def filterOrderRow : OpenClaim := { program := "ytlbcpigjbjolaaa", sum := "3082825a849731b16ddfd1addd07e0ccaf6ea2b4dbab35a50200020721ed3b39", func := "tithebarn/tithebarnlaw22.FilterOrder", spec := "filterOrder", unfollowed := true, recurses := true, apart := false }
def FilterOrderSaid : Prop := filterOrderRow.holds Try.pinned (OpenSpec.ofChange filterOrderSpec)

/-- ITS FALSE NEIGHBOUR: 'it returns false'. Refute it at one input. -/
def filterOrderWrong : ChangeSpec := { name := "filterOrder", fn := fun _ => fun
  | [d] => { results := [.lit (.bool false)], args := [d] }
  | _ => none }
def FilterOrderWrongFalsely : Prop := filterOrderRow.holds Try.pinned (OpenSpec.ofChange filterOrderWrong)

/-- 'tithebarnlaw22.FilterNever': WHATEVER THE INPUT: true; the input reads as it did. -/
def filterNeverSpec : ChangeSpec := { name := "filterNever", fn := fun _ => fun
  | [d] => { results := [.lit (.bool true)], args := [d] }
  | _ => none }
def filterNeverRow : OpenClaim := { program := "ytlbcpigjbjolaaa", sum := "3082825a849731b16ddfd1addd07e0ccaf6ea2b4dbab35a50200020721ed3b39", func := "tithebarn/tithebarnlaw22.FilterNever", spec := "filterNever", unfollowed := true, recurses := true, apart := false }
def FilterNeverSaid : Prop := filterNeverRow.holds Try.pinned (OpenSpec.ofChange filterNeverSpec)

/-- ITS FALSE NEIGHBOUR: 'it returns false'. Refute it at one input. -/
def filterNeverWrong : ChangeSpec := { name := "filterNever", fn := fun _ => fun
  | [d] => { results := [.lit (.bool false)], args := [d] }
  | _ => none }
def FilterNeverWrongFalsely : Prop := filterNeverRow.holds Try.pinned (OpenSpec.ofChange filterNeverWrong)

/- THE SECOND FORM. 'bulk': how many values and letters a reading holds, each counted each time it is reached (what is shared counts as often as it is met; a slice's spare places count too). A statement '..UptoSaid' is the law's where the arguments, and the package variables that the reading takes, are together of bulk at most 1048576: NARROWER than '..Said'. Prove '..Said' where nothing that the law and all that it calls make is longer than what came in: it says more and counts as full. Else prove '..UptoSaid'. A law counts once. -/
mutual
def uptoBulk {H : Type} : DataW H → Nat
  | .lit (.string bytes) => bytes.length + 1
  | .lit _ => 1
  | .nil => 1
  | .ptr d => uptoBulk d + 1
  | .slice elems spare => uptoBulkAll elems + uptoBulkAll spare + 1
  | .agg parts => uptoBulkAll parts + 1
  | .iface _ d => uptoBulk d + 1
  | .map entries => uptoBulkEntries entries + 1
  | .held _ => 1
def uptoBulkAll {H : Type} : List (DataW H) → Nat
  | [] => 0
  | d :: r => uptoBulk d + uptoBulkAll r
def uptoBulkEntries {H : Type} : List (Lit × DataW H) → Nat
  | [] => 0
  | x :: r => uptoBulkEntry x + uptoBulkEntries r
def uptoBulkEntry {H : Type} : Lit × DataW H → Nat
  | (.string bytes, d) => bytes.length + uptoBulk d + 1
  | (_, d) => uptoBulk d + 1
 end
def uptoSmall : (H : Type) → List (DataW H) → Bool := fun _ ds => decide (uptoBulkAll ds ≤ 1048576)
def OpenSpec.upto (s : _root_.Go.ChangeSpec) : _root_.Go.OpenSpec := { _root_.Go.OpenSpec.ofChange s with cond := some uptoSmall }

/-- 'tithebarnlaw22.FilterMakes', WHERE WHAT IT READS IS OF BULK AT MOST 1048576: true; the input reads as it did. -/
def filterMakesUptoRow : OpenClaim := { program := "ytlbcpigjbjolaaa", sum := "3082825a849731b16ddfd1addd07e0ccaf6ea2b4dbab35a50200020721ed3b39", func := "tithebarn/tithebarnlaw22.FilterMakes", spec := "filterMakes", unfollowed := true, recurses := true, apart := false, narrowed := true }
def FilterMakesUptoSaid : Prop := filterMakesUptoRow.holds Try.pinned (OpenSpec.upto filterMakesSpec)

/-- 'tithebarnlaw22.FilterOrder', WHERE WHAT IT READS IS OF BULK AT MOST 1048576: true; the input reads as it did. -/
def filterOrderUptoRow : OpenClaim := { program := "ytlbcpigjbjolaaa", sum := "3082825a849731b16ddfd1addd07e0ccaf6ea2b4dbab35a50200020721ed3b39", func := "tithebarn/tithebarnlaw22.FilterOrder", spec := "filterOrder", unfollowed := true, recurses := true, apart := false, narrowed := true }
def FilterOrderUptoSaid : Prop := filterOrderUptoRow.holds Try.pinned (OpenSpec.upto filterOrderSpec)

/-- 'tithebarnlaw22.FilterNever', WHERE WHAT IT READS IS OF BULK AT MOST 1048576: true; the input reads as it did. -/
def filterNeverUptoRow : OpenClaim := { program := "ytlbcpigjbjolaaa", sum := "3082825a849731b16ddfd1addd07e0ccaf6ea2b4dbab35a50200020721ed3b39", func := "tithebarn/tithebarnlaw22.FilterNever", spec := "filterNever", unfollowed := true, recurses := true, apart := false, narrowed := true }
def FilterNeverUptoSaid : Prop := filterNeverUptoRow.holds Try.pinned (OpenSpec.upto filterNeverSpec)

end Rows
end Go.Proofs.Ytlbcpigjbjolaaa
