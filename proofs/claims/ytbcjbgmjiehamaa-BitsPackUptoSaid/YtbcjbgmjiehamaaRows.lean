/-
  No cell of these rows narrows 'for every input' (looked for: loops, veiled, ifaces, maps, wideKeys, modest, calm, conditions, laid).
  DERIVED. THE GIVEN ROWS OF THIS SEAT. 6 by the template 'for every input the law returns true; each argument reads behind the call as it read before'; 0 by the template 'total and deterministic' (their statements: YtbcjbgmjiehamaaTotals.lean).
  GIVEN WITH THE SEED: the statements are not yours to turn. If you find one false, say at which input.
  Laid BY PROGRAM, IN A SANDBOX (cutbox-rows.mjs): the forced cells as the released guide's own fill.sh prints them over the translation 39acf2f6880fc6d1… (all of the seat's roots in one cut). By AI agents, Wed Nov 11 2026. No macro, syntax, notation, axiom, sorry.
-/
import Derived.Test.YtbcjbgmjiehamaaChecked
import GoSem.Claim
import GoSem.ClaimJoined
import GoSem.ClaimMapViews
import Derived.JoinedTies
import Derived.KernelRfl
namespace Go.Proofs.Ytbcjbgmjiehamaa
/- THE CELL 'sum', in the pinned program and in every row, IS THE sha256 OF THE DUMP (.gsa) THAT YtbcjbgmjiehamaaProg.lean LOADS. Nothing in Lean hashes anything: it is a label: what it is worth is what the hold of that sum in a sandbox is worth. -/
noncomputable def Try.pinned : Pinned := { name := "ytbcjbgmjiehamaa", sum := "39acf2f6880fc6d19cd2de5861577e1cda25408973a9e42d9bafb64374b2732d", checked := Try.checked }
namespace Rows
def none {H : Type} : Left H := { results := [], args := [] }

/-- 'tithebarnlaw03.BitsPack': WHATEVER THE INPUT: true; the input reads as it did. -/
def bitsPackSpec : ChangeSpec := { name := "bitsPack", fn := fun _ => fun
  | [d1, d2] => { results := [.lit (.bool true)], args := [d1, d2] }
  | _ => none }
def bitsPackRow : OpenClaim := { program := "ytbcjbgmjiehamaa", sum := "39acf2f6880fc6d19cd2de5861577e1cda25408973a9e42d9bafb64374b2732d", func := "tithebarn/tithebarnlaw03.BitsPack", spec := "bitsPack", apart := false }
def BitsPackSaid : Prop := bitsPackRow.holds Try.pinned (OpenSpec.ofChange bitsPackSpec)

/-- ITS FALSE NEIGHBOUR: 'it returns false'. Refute it at one input. -/
def bitsPackWrong : ChangeSpec := { name := "bitsPack", fn := fun _ => fun
  | [d1, d2] => { results := [.lit (.bool false)], args := [d1, d2] }
  | _ => none }
def BitsPackWrongFalsely : Prop := bitsPackRow.holds Try.pinned (OpenSpec.ofChange bitsPackWrong)

/-- 'tithebarnlaw03.BitsUnpack': WHATEVER THE INPUT: true; the input reads as it did. -/
def bitsUnpackSpec : ChangeSpec := { name := "bitsUnpack", fn := fun _ => fun
  | [d1, d2, d3] => { results := [.lit (.bool true)], args := [d1, d2, d3] }
  | _ => none }
def bitsUnpackRow : OpenClaim := { program := "ytbcjbgmjiehamaa", sum := "39acf2f6880fc6d19cd2de5861577e1cda25408973a9e42d9bafb64374b2732d", func := "tithebarn/tithebarnlaw03.BitsUnpack", spec := "bitsUnpack", apart := false }
def BitsUnpackSaid : Prop := bitsUnpackRow.holds Try.pinned (OpenSpec.ofChange bitsUnpackSpec)

/-- ITS FALSE NEIGHBOUR: 'it returns false'. Refute it at one input. -/
def bitsUnpackWrong : ChangeSpec := { name := "bitsUnpack", fn := fun _ => fun
  | [d1, d2, d3] => { results := [.lit (.bool false)], args := [d1, d2, d3] }
  | _ => none }
def BitsUnpackWrongFalsely : Prop := bitsUnpackRow.holds Try.pinned (OpenSpec.ofChange bitsUnpackWrong)

/-- 'tithebarnlaw03.BitsOnly': WHATEVER THE INPUT: true; the input reads as it did. -/
def bitsOnlySpec : ChangeSpec := { name := "bitsOnly", fn := fun _ => fun
  | [d1, d2, d3] => { results := [.lit (.bool true)], args := [d1, d2, d3] }
  | _ => none }
def bitsOnlyRow : OpenClaim := { program := "ytbcjbgmjiehamaa", sum := "39acf2f6880fc6d19cd2de5861577e1cda25408973a9e42d9bafb64374b2732d", func := "tithebarn/tithebarnlaw03.BitsOnly", spec := "bitsOnly", apart := false }
def BitsOnlySaid : Prop := bitsOnlyRow.holds Try.pinned (OpenSpec.ofChange bitsOnlySpec)

/-- ITS FALSE NEIGHBOUR: 'it returns false'. Refute it at one input. -/
def bitsOnlyWrong : ChangeSpec := { name := "bitsOnly", fn := fun _ => fun
  | [d1, d2, d3] => { results := [.lit (.bool false)], args := [d1, d2, d3] }
  | _ => none }
def BitsOnlyWrongFalsely : Prop := bitsOnlyRow.holds Try.pinned (OpenSpec.ofChange bitsOnlyWrong)

/-- 'tithebarnlaw03.BitsLeast': WHATEVER THE INPUT: true; the input reads as it did. -/
def bitsLeastSpec : ChangeSpec := { name := "bitsLeast", fn := fun _ => fun
  | [d] => { results := [.lit (.bool true)], args := [d] }
  | _ => none }
def bitsLeastRow : OpenClaim := { program := "ytbcjbgmjiehamaa", sum := "39acf2f6880fc6d19cd2de5861577e1cda25408973a9e42d9bafb64374b2732d", func := "tithebarn/tithebarnlaw03.BitsLeast", spec := "bitsLeast", apart := false }
def BitsLeastSaid : Prop := bitsLeastRow.holds Try.pinned (OpenSpec.ofChange bitsLeastSpec)

/-- ITS FALSE NEIGHBOUR: 'it returns false'. Refute it at one input. -/
def bitsLeastWrong : ChangeSpec := { name := "bitsLeast", fn := fun _ => fun
  | [d] => { results := [.lit (.bool false)], args := [d] }
  | _ => none }
def BitsLeastWrongFalsely : Prop := bitsLeastRow.holds Try.pinned (OpenSpec.ofChange bitsLeastWrong)

/-- 'tithebarnlaw03.BitsTruths': WHATEVER THE INPUT: true; the input reads as it did. -/
def bitsTruthsSpec : ChangeSpec := { name := "bitsTruths", fn := fun _ => fun
  | [d1, d2, d3] => { results := [.lit (.bool true)], args := [d1, d2, d3] }
  | _ => none }
def bitsTruthsRow : OpenClaim := { program := "ytbcjbgmjiehamaa", sum := "39acf2f6880fc6d19cd2de5861577e1cda25408973a9e42d9bafb64374b2732d", func := "tithebarn/tithebarnlaw03.BitsTruths", spec := "bitsTruths", apart := false }
def BitsTruthsSaid : Prop := bitsTruthsRow.holds Try.pinned (OpenSpec.ofChange bitsTruthsSpec)

/-- ITS FALSE NEIGHBOUR: 'it returns false'. Refute it at one input. -/
def bitsTruthsWrong : ChangeSpec := { name := "bitsTruths", fn := fun _ => fun
  | [d1, d2, d3] => { results := [.lit (.bool false)], args := [d1, d2, d3] }
  | _ => none }
def BitsTruthsWrongFalsely : Prop := bitsTruthsRow.holds Try.pinned (OpenSpec.ofChange bitsTruthsWrong)

/-- 'tithebarnlaw03.BitsBack': WHATEVER THE INPUT: true; the input reads as it did. -/
def bitsBackSpec : ChangeSpec := { name := "bitsBack", fn := fun _ => fun
  | [d1, d2, d3] => { results := [.lit (.bool true)], args := [d1, d2, d3] }
  | _ => none }
def bitsBackRow : OpenClaim := { program := "ytbcjbgmjiehamaa", sum := "39acf2f6880fc6d19cd2de5861577e1cda25408973a9e42d9bafb64374b2732d", func := "tithebarn/tithebarnlaw03.BitsBack", spec := "bitsBack", apart := false }
def BitsBackSaid : Prop := bitsBackRow.holds Try.pinned (OpenSpec.ofChange bitsBackSpec)

/-- ITS FALSE NEIGHBOUR: 'it returns false'. Refute it at one input. -/
def bitsBackWrong : ChangeSpec := { name := "bitsBack", fn := fun _ => fun
  | [d1, d2, d3] => { results := [.lit (.bool false)], args := [d1, d2, d3] }
  | _ => none }
def BitsBackWrongFalsely : Prop := bitsBackRow.holds Try.pinned (OpenSpec.ofChange bitsBackWrong)

/- THE SECOND FORM. 'bulk': how many values and letters a reading holds, each counted each time it is reached (what is shared counts as often as it is met; a slice's spare places count too). A statement '..UptoSaid' is the law's where the arguments, and the package variables that the reading takes, are together of bulk at most 1048576: NARROWER than '..Said'. Prove '..Said' where nothing that the law and all that it calls make is longer than what came in: it says more and counts as full. Else prove '..UptoSaid'. A law counts once. -/
mutual
def uptoBulk {H : Type} : DataW H → Nat
  | .lit (.string bytes) => bytes.length + 1
  | .lit _ => 1
  | .nil => 1
  | .ptr d => uptoBulk d + 1
  | .slice elems spare => uptoBulkAll elems + uptoBulkAll spare + 1
  | .agg parts => uptoBulkAll parts + 1
  | .iface _ d => uptoBulk d + 1
  | .map entries => uptoBulkEntries entries + 1
  | .held _ => 1
def uptoBulkAll {H : Type} : List (DataW H) → Nat
  | [] => 0
  | d :: r => uptoBulk d + uptoBulkAll r
def uptoBulkEntries {H : Type} : List (Lit × DataW H) → Nat
  | [] => 0
  | x :: r => uptoBulkEntry x + uptoBulkEntries r
def uptoBulkEntry {H : Type} : Lit × DataW H → Nat
  | (.string bytes, d) => bytes.length + uptoBulk d + 1
  | (_, d) => uptoBulk d + 1
 end
def uptoSmall : (H : Type) → List (DataW H) → Bool := fun _ ds => decide (uptoBulkAll ds ≤ 1048576)
def OpenSpec.upto (s : _root_.Go.ChangeSpec) : _root_.Go.OpenSpec := { _root_.Go.OpenSpec.ofChange s with cond := some uptoSmall }

/-- 'tithebarnlaw03.BitsPack', WHERE WHAT IT READS IS OF BULK AT MOST 1048576: true; the input reads as it did. -/
def bitsPackUptoRow : OpenClaim := { program := "ytbcjbgmjiehamaa", sum := "39acf2f6880fc6d19cd2de5861577e1cda25408973a9e42d9bafb64374b2732d", func := "tithebarn/tithebarnlaw03.BitsPack", spec := "bitsPack", apart := false, narrowed := true }
def BitsPackUptoSaid : Prop := bitsPackUptoRow.holds Try.pinned (OpenSpec.upto bitsPackSpec)

/-- 'tithebarnlaw03.BitsUnpack', WHERE WHAT IT READS IS OF BULK AT MOST 1048576: true; the input reads as it did. -/
def bitsUnpackUptoRow : OpenClaim := { program := "ytbcjbgmjiehamaa", sum := "39acf2f6880fc6d19cd2de5861577e1cda25408973a9e42d9bafb64374b2732d", func := "tithebarn/tithebarnlaw03.BitsUnpack", spec := "bitsUnpack", apart := false, narrowed := true }
def BitsUnpackUptoSaid : Prop := bitsUnpackUptoRow.holds Try.pinned (OpenSpec.upto bitsUnpackSpec)

/-- 'tithebarnlaw03.BitsOnly', WHERE WHAT IT READS IS OF BULK AT MOST 1048576: true; the input reads as it did. -/
def bitsOnlyUptoRow : OpenClaim := { program := "ytbcjbgmjiehamaa", sum := "39acf2f6880fc6d19cd2de5861577e1cda25408973a9e42d9bafb64374b2732d", func := "tithebarn/tithebarnlaw03.BitsOnly", spec := "bitsOnly", apart := false, narrowed := true }
def BitsOnlyUptoSaid : Prop := bitsOnlyUptoRow.holds Try.pinned (OpenSpec.upto bitsOnlySpec)

/-- 'tithebarnlaw03.BitsLeast', WHERE WHAT IT READS IS OF BULK AT MOST 1048576: true; the input reads as it did. -/
def bitsLeastUptoRow : OpenClaim := { program := "ytbcjbgmjiehamaa", sum := "39acf2f6880fc6d19cd2de5861577e1cda25408973a9e42d9bafb64374b2732d", func := "tithebarn/tithebarnlaw03.BitsLeast", spec := "bitsLeast", apart := false, narrowed := true }
def BitsLeastUptoSaid : Prop := bitsLeastUptoRow.holds Try.pinned (OpenSpec.upto bitsLeastSpec)

/-- 'tithebarnlaw03.BitsTruths', WHERE WHAT IT READS IS OF BULK AT MOST 1048576: true; the input reads as it did. -/
def bitsTruthsUptoRow : OpenClaim := { program := "ytbcjbgmjiehamaa", sum := "39acf2f6880fc6d19cd2de5861577e1cda25408973a9e42d9bafb64374b2732d", func := "tithebarn/tithebarnlaw03.BitsTruths", spec := "bitsTruths", apart := false, narrowed := true }
def BitsTruthsUptoSaid : Prop := bitsTruthsUptoRow.holds Try.pinned (OpenSpec.upto bitsTruthsSpec)

/-- 'tithebarnlaw03.BitsBack', WHERE WHAT IT READS IS OF BULK AT MOST 1048576: true; the input reads as it did. -/
def bitsBackUptoRow : OpenClaim := { program := "ytbcjbgmjiehamaa", sum := "39acf2f6880fc6d19cd2de5861577e1cda25408973a9e42d9bafb64374b2732d", func := "tithebarn/tithebarnlaw03.BitsBack", spec := "bitsBack", apart := false, narrowed := true }
def BitsBackUptoSaid : Prop := bitsBackUptoRow.holds Try.pinned (OpenSpec.upto bitsBackSpec)

end Rows
end Go.Proofs.Ytbcjbgmjiehamaa
