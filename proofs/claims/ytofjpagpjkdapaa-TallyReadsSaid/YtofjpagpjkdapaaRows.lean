/-
  No cell of these rows narrows 'for every input' (looked for: loops, veiled, ifaces, maps, wideKeys, modest, calm, conditions, laid).
  DERIVED. THE GIVEN ROWS OF THIS SEAT. 7 by the template 'for every input the law returns true; each argument reads behind the call as it read before'; 0 by the template 'total and deterministic' (their statements: YtofjpagpjkdapaaTotals.lean).
  GIVEN WITH THE SEED: the statements are not yours to turn. If you find one false, say at which input.
  Laid BY PROGRAM, IN A SANDBOX (cutbox-rows.mjs): the forced cells as the released guide's own fill.sh prints them over the translation 5cd9fd458269793c… (all of the seat's roots in one cut). By AI agents, Wed Nov 11 2026. No macro, syntax, notation, axiom, sorry.
-/
import Derived.Test.YtofjpagpjkdapaaChecked
import GoSem.Claim
import GoSem.ClaimJoined
import GoSem.ClaimMapViews
import Derived.JoinedTies
import Derived.KernelRfl
namespace Go.Proofs.Ytofjpagpjkdapaa
/- THE CELL 'sum', in the pinned program and in every row, IS THE sha256 OF THE DUMP (.gsa) THAT YtofjpagpjkdapaaProg.lean LOADS. Nothing in Lean hashes anything: it is a label: what it is worth is what the hold of that sum in a sandbox is worth. -/
noncomputable def Try.pinned : Pinned := { name := "ytofjpagpjkdapaa", sum := "5cd9fd458269793cace4fdd79ebba66a8305ef944b700fafec3c32798c041e34", checked := Try.checked }
namespace Rows
def none {H : Type} : Left H := { results := [], args := [] }

/-- 'tithebarnlaw01.TallyOrder': WHATEVER THE INPUT: true; the input reads as it did. -/
def tallyOrderSpec : ChangeSpec := { name := "tallyOrder", fn := fun _ => fun
  | [d1, d2] => { results := [.lit (.bool true)], args := [d1, d2] }
  | _ => none }
def tallyOrderRow : OpenClaim := { program := "ytofjpagpjkdapaa", sum := "5cd9fd458269793cace4fdd79ebba66a8305ef944b700fafec3c32798c041e34", func := "tithebarn/tithebarnlaw01.TallyOrder", spec := "tallyOrder", apart := false }
def TallyOrderSaid : Prop := tallyOrderRow.holds Try.pinned (OpenSpec.ofChange tallyOrderSpec)

/-- ITS FALSE NEIGHBOUR: 'it returns false'. Refute it at one input. -/
def tallyOrderWrong : ChangeSpec := { name := "tallyOrder", fn := fun _ => fun
  | [d1, d2] => { results := [.lit (.bool false)], args := [d1, d2] }
  | _ => none }
def TallyOrderWrongFalsely : Prop := tallyOrderRow.holds Try.pinned (OpenSpec.ofChange tallyOrderWrong)

/-- 'tithebarnlaw01.TallyWrites': WHATEVER THE INPUT: true; the input reads as it did. -/
def tallyWritesSpec : ChangeSpec := { name := "tallyWrites", fn := fun _ => fun
  | [d1, d2, d3] => { results := [.lit (.bool true)], args := [d1, d2, d3] }
  | _ => none }
def tallyWritesRow : OpenClaim := { program := "ytofjpagpjkdapaa", sum := "5cd9fd458269793cace4fdd79ebba66a8305ef944b700fafec3c32798c041e34", func := "tithebarn/tithebarnlaw01.TallyWrites", spec := "tallyWrites", apart := false }
def TallyWritesSaid : Prop := tallyWritesRow.holds Try.pinned (OpenSpec.ofChange tallyWritesSpec)

/-- ITS FALSE NEIGHBOUR: 'it returns false'. Refute it at one input. -/
def tallyWritesWrong : ChangeSpec := { name := "tallyWrites", fn := fun _ => fun
  | [d1, d2, d3] => { results := [.lit (.bool false)], args := [d1, d2, d3] }
  | _ => none }
def TallyWritesWrongFalsely : Prop := tallyWritesRow.holds Try.pinned (OpenSpec.ofChange tallyWritesWrong)

/-- 'tithebarnlaw01.TallyOnly': WHATEVER THE INPUT: true; the input reads as it did. -/
def tallyOnlySpec : ChangeSpec := { name := "tallyOnly", fn := fun _ => fun
  | [d] => { results := [.lit (.bool true)], args := [d] }
  | _ => none }
def tallyOnlyRow : OpenClaim := { program := "ytofjpagpjkdapaa", sum := "5cd9fd458269793cace4fdd79ebba66a8305ef944b700fafec3c32798c041e34", func := "tithebarn/tithebarnlaw01.TallyOnly", spec := "tallyOnly", apart := false }
def TallyOnlySaid : Prop := tallyOnlyRow.holds Try.pinned (OpenSpec.ofChange tallyOnlySpec)

/-- ITS FALSE NEIGHBOUR: 'it returns false'. Refute it at one input. -/
def tallyOnlyWrong : ChangeSpec := { name := "tallyOnly", fn := fun _ => fun
  | [d] => { results := [.lit (.bool false)], args := [d] }
  | _ => none }
def TallyOnlyWrongFalsely : Prop := tallyOnlyRow.holds Try.pinned (OpenSpec.ofChange tallyOnlyWrong)

/-- 'tithebarnlaw01.TallyCuts': WHATEVER THE INPUT: true; the input reads as it did. -/
def tallyCutsSpec : ChangeSpec := { name := "tallyCuts", fn := fun _ => fun
  | [d1, d2, d3] => { results := [.lit (.bool true)], args := [d1, d2, d3] }
  | _ => none }
def tallyCutsRow : OpenClaim := { program := "ytofjpagpjkdapaa", sum := "5cd9fd458269793cace4fdd79ebba66a8305ef944b700fafec3c32798c041e34", func := "tithebarn/tithebarnlaw01.TallyCuts", spec := "tallyCuts", apart := false }
def TallyCutsSaid : Prop := tallyCutsRow.holds Try.pinned (OpenSpec.ofChange tallyCutsSpec)

/-- ITS FALSE NEIGHBOUR: 'it returns false'. Refute it at one input. -/
def tallyCutsWrong : ChangeSpec := { name := "tallyCuts", fn := fun _ => fun
  | [d1, d2, d3] => { results := [.lit (.bool false)], args := [d1, d2, d3] }
  | _ => none }
def TallyCutsWrongFalsely : Prop := tallyCutsRow.holds Try.pinned (OpenSpec.ofChange tallyCutsWrong)

/-- 'tithebarnlaw01.TallyReads': WHATEVER THE INPUT: true; the input reads as it did. -/
def tallyReadsSpec : ChangeSpec := { name := "tallyReads", fn := fun _ => fun
  | [d1, d2] => { results := [.lit (.bool true)], args := [d1, d2] }
  | _ => none }
def tallyReadsRow : OpenClaim := { program := "ytofjpagpjkdapaa", sum := "5cd9fd458269793cace4fdd79ebba66a8305ef944b700fafec3c32798c041e34", func := "tithebarn/tithebarnlaw01.TallyReads", spec := "tallyReads", apart := false }
def TallyReadsSaid : Prop := tallyReadsRow.holds Try.pinned (OpenSpec.ofChange tallyReadsSpec)

/-- ITS FALSE NEIGHBOUR: 'it returns false'. Refute it at one input. -/
def tallyReadsWrong : ChangeSpec := { name := "tallyReads", fn := fun _ => fun
  | [d1, d2] => { results := [.lit (.bool false)], args := [d1, d2] }
  | _ => none }
def TallyReadsWrongFalsely : Prop := tallyReadsRow.holds Try.pinned (OpenSpec.ofChange tallyReadsWrong)

/-- 'tithebarnlaw01.TallyNil': WHATEVER THE INPUT: true; the input reads as it did. -/
def tallyNilSpec : ChangeSpec := { name := "tallyNil", fn := fun _ => fun
  | [d] => { results := [.lit (.bool true)], args := [d] }
  | _ => none }
def tallyNilRow : OpenClaim := { program := "ytofjpagpjkdapaa", sum := "5cd9fd458269793cace4fdd79ebba66a8305ef944b700fafec3c32798c041e34", func := "tithebarn/tithebarnlaw01.TallyNil", spec := "tallyNil", apart := false }
def TallyNilSaid : Prop := tallyNilRow.holds Try.pinned (OpenSpec.ofChange tallyNilSpec)

/-- ITS FALSE NEIGHBOUR: 'it returns false'. Refute it at one input. -/
def tallyNilWrong : ChangeSpec := { name := "tallyNil", fn := fun _ => fun
  | [d] => { results := [.lit (.bool false)], args := [d] }
  | _ => none }
def TallyNilWrongFalsely : Prop := tallyNilRow.holds Try.pinned (OpenSpec.ofChange tallyNilWrong)

/-- 'tithebarnlaw01.TallyBack': WHATEVER THE INPUT: true; the input reads as it did. -/
def tallyBackSpec : ChangeSpec := { name := "tallyBack", fn := fun _ => fun
  | [d] => { results := [.lit (.bool true)], args := [d] }
  | _ => none }
def tallyBackRow : OpenClaim := { program := "ytofjpagpjkdapaa", sum := "5cd9fd458269793cace4fdd79ebba66a8305ef944b700fafec3c32798c041e34", func := "tithebarn/tithebarnlaw01.TallyBack", spec := "tallyBack", apart := false }
def TallyBackSaid : Prop := tallyBackRow.holds Try.pinned (OpenSpec.ofChange tallyBackSpec)

/-- ITS FALSE NEIGHBOUR: 'it returns false'. Refute it at one input. -/
def tallyBackWrong : ChangeSpec := { name := "tallyBack", fn := fun _ => fun
  | [d] => { results := [.lit (.bool false)], args := [d] }
  | _ => none }
def TallyBackWrongFalsely : Prop := tallyBackRow.holds Try.pinned (OpenSpec.ofChange tallyBackWrong)

/- THE SECOND FORM. 'bulk': how many values and letters a reading holds, each counted each time it is reached (what is shared counts as often as it is met; a slice's spare places count too). A statement '..UptoSaid' is the law's where the arguments, and the package variables that the reading takes, are together of bulk at most 1048576: NARROWER than '..Said'. Prove '..Said' where nothing that the law and all that it calls make is longer than what came in: it says more and counts as full. Else prove '..UptoSaid'. A law counts once. -/
mutual
def uptoBulk {H : Type} : DataW H → Nat
  | .lit (.string bytes) => bytes.length + 1
  | .lit _ => 1
  | .nil => 1
  | .ptr d => uptoBulk d + 1
  | .slice elems spare => uptoBulkAll elems + uptoBulkAll spare + 1
  | .agg parts => uptoBulkAll parts + 1
  | .iface _ d => uptoBulk d + 1
  | .map entries => uptoBulkEntries entries + 1
  | .held _ => 1
def uptoBulkAll {H : Type} : List (DataW H) → Nat
  | [] => 0
  | d :: r => uptoBulk d + uptoBulkAll r
def uptoBulkEntries {H : Type} : List (Lit × DataW H) → Nat
  | [] => 0
  | x :: r => uptoBulkEntry x + uptoBulkEntries r
def uptoBulkEntry {H : Type} : Lit × DataW H → Nat
  | (.string bytes, d) => bytes.length + uptoBulk d + 1
  | (_, d) => uptoBulk d + 1
 end
def uptoSmall : (H : Type) → List (DataW H) → Bool := fun _ ds => decide (uptoBulkAll ds ≤ 1048576)
def OpenSpec.upto (s : _root_.Go.ChangeSpec) : _root_.Go.OpenSpec := { _root_.Go.OpenSpec.ofChange s with cond := some uptoSmall }

/-- 'tithebarnlaw01.TallyOrder', WHERE WHAT IT READS IS OF BULK AT MOST 1048576: true; the input reads as it did. -/
def tallyOrderUptoRow : OpenClaim := { program := "ytofjpagpjkdapaa", sum := "5cd9fd458269793cace4fdd79ebba66a8305ef944b700fafec3c32798c041e34", func := "tithebarn/tithebarnlaw01.TallyOrder", spec := "tallyOrder", apart := false, narrowed := true }
def TallyOrderUptoSaid : Prop := tallyOrderUptoRow.holds Try.pinned (OpenSpec.upto tallyOrderSpec)

/-- 'tithebarnlaw01.TallyWrites', WHERE WHAT IT READS IS OF BULK AT MOST 1048576: true; the input reads as it did. -/
def tallyWritesUptoRow : OpenClaim := { program := "ytofjpagpjkdapaa", sum := "5cd9fd458269793cace4fdd79ebba66a8305ef944b700fafec3c32798c041e34", func := "tithebarn/tithebarnlaw01.TallyWrites", spec := "tallyWrites", apart := false, narrowed := true }
def TallyWritesUptoSaid : Prop := tallyWritesUptoRow.holds Try.pinned (OpenSpec.upto tallyWritesSpec)

/-- 'tithebarnlaw01.TallyOnly', WHERE WHAT IT READS IS OF BULK AT MOST 1048576: true; the input reads as it did. -/
def tallyOnlyUptoRow : OpenClaim := { program := "ytofjpagpjkdapaa", sum := "5cd9fd458269793cace4fdd79ebba66a8305ef944b700fafec3c32798c041e34", func := "tithebarn/tithebarnlaw01.TallyOnly", spec := "tallyOnly", apart := false, narrowed := true }
def TallyOnlyUptoSaid : Prop := tallyOnlyUptoRow.holds Try.pinned (OpenSpec.upto tallyOnlySpec)

/-- 'tithebarnlaw01.TallyCuts', WHERE WHAT IT READS IS OF BULK AT MOST 1048576: true; the input reads as it did. -/
def tallyCutsUptoRow : OpenClaim := { program := "ytofjpagpjkdapaa", sum := "5cd9fd458269793cace4fdd79ebba66a8305ef944b700fafec3c32798c041e34", func := "tithebarn/tithebarnlaw01.TallyCuts", spec := "tallyCuts", apart := false, narrowed := true }
def TallyCutsUptoSaid : Prop := tallyCutsUptoRow.holds Try.pinned (OpenSpec.upto tallyCutsSpec)

/-- 'tithebarnlaw01.TallyReads', WHERE WHAT IT READS IS OF BULK AT MOST 1048576: true; the input reads as it did. -/
def tallyReadsUptoRow : OpenClaim := { program := "ytofjpagpjkdapaa", sum := "5cd9fd458269793cace4fdd79ebba66a8305ef944b700fafec3c32798c041e34", func := "tithebarn/tithebarnlaw01.TallyReads", spec := "tallyReads", apart := false, narrowed := true }
def TallyReadsUptoSaid : Prop := tallyReadsUptoRow.holds Try.pinned (OpenSpec.upto tallyReadsSpec)

/-- 'tithebarnlaw01.TallyNil', WHERE WHAT IT READS IS OF BULK AT MOST 1048576: true; the input reads as it did. -/
def tallyNilUptoRow : OpenClaim := { program := "ytofjpagpjkdapaa", sum := "5cd9fd458269793cace4fdd79ebba66a8305ef944b700fafec3c32798c041e34", func := "tithebarn/tithebarnlaw01.TallyNil", spec := "tallyNil", apart := false, narrowed := true }
def TallyNilUptoSaid : Prop := tallyNilUptoRow.holds Try.pinned (OpenSpec.upto tallyNilSpec)

/-- 'tithebarnlaw01.TallyBack', WHERE WHAT IT READS IS OF BULK AT MOST 1048576: true; the input reads as it did. -/
def tallyBackUptoRow : OpenClaim := { program := "ytofjpagpjkdapaa", sum := "5cd9fd458269793cace4fdd79ebba66a8305ef944b700fafec3c32798c041e34", func := "tithebarn/tithebarnlaw01.TallyBack", spec := "tallyBack", apart := false, narrowed := true }
def TallyBackUptoSaid : Prop := tallyBackUptoRow.holds Try.pinned (OpenSpec.upto tallyBackSpec)

end Rows
end Go.Proofs.Ytofjpagpjkdapaa
