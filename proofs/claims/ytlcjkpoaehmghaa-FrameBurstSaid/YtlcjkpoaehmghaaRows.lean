/-
  No cell of these rows narrows 'for every input' (looked for: loops, veiled, ifaces, maps, wideKeys, modest, calm, conditions, laid).
  DERIVED. THE GIVEN ROWS OF THIS SEAT. 6 by the template 'for every input the law returns true; each argument reads behind the call as it read before'; 0 by the template 'total and deterministic' (their statements: YtlcjkpoaehmghaaTotals.lean).
  GIVEN WITH THE SEED: the statements are not yours to turn. If you find one false, say at which input.
  Laid BY PROGRAM, IN A SANDBOX (cutbox-rows.mjs): the forced cells as the released guide's own fill.sh prints them over the translation 5513b7adde1a06c8… (all of the seat's roots in one cut). By AI agents, Wed Nov 11 2026. No macro, syntax, notation, axiom, sorry.
-/
import Derived.Test.YtlcjkpoaehmghaaChecked
import GoSem.Claim
import GoSem.ClaimJoined
import GoSem.ClaimMapViews
import Derived.JoinedTies
import Derived.KernelRfl
namespace Go.Proofs.Ytlcjkpoaehmghaa
/- THE CELL 'sum', in the pinned program and in every row, IS THE sha256 OF THE DUMP (.gsa) THAT YtlcjkpoaehmghaaProg.lean LOADS. Nothing in Lean hashes anything: it is a label: what it is worth is what the hold of that sum in a sandbox is worth. -/
noncomputable def Try.pinned : Pinned := { name := "ytlcjkpoaehmghaa", sum := "5513b7adde1a06c8e5348807b8c4319a12de5809bcc174f35fc0203b5a40ec87", checked := Try.checked }
namespace Rows
def none {H : Type} : Left H := { results := [], args := [] }

/-- 'tithebarnlaw08.FrameSums': WHATEVER THE INPUT: true; the input reads as it did. -/
def frameSumsSpec : ChangeSpec := { name := "frameSums", fn := fun _ => fun
  | [d] => { results := [.lit (.bool true)], args := [d] }
  | _ => none }
def frameSumsRow : OpenClaim := { program := "ytlcjkpoaehmghaa", sum := "5513b7adde1a06c8e5348807b8c4319a12de5809bcc174f35fc0203b5a40ec87", func := "tithebarn/tithebarnlaw08.FrameSums", spec := "frameSums", apart := false }
def FrameSumsSaid : Prop := frameSumsRow.holds Try.pinned (OpenSpec.ofChange frameSumsSpec)

/-- ITS FALSE NEIGHBOUR: 'it returns false'. Refute it at one input. -/
def frameSumsWrong : ChangeSpec := { name := "frameSums", fn := fun _ => fun
  | [d] => { results := [.lit (.bool false)], args := [d] }
  | _ => none }
def FrameSumsWrongFalsely : Prop := frameSumsRow.holds Try.pinned (OpenSpec.ofChange frameSumsWrong)

/-- 'tithebarnlaw08.FrameTorn': WHATEVER THE INPUT: true; the input reads as it did. -/
def frameTornSpec : ChangeSpec := { name := "frameTorn", fn := fun _ => fun
  | [d1, d2] => { results := [.lit (.bool true)], args := [d1, d2] }
  | _ => none }
def frameTornRow : OpenClaim := { program := "ytlcjkpoaehmghaa", sum := "5513b7adde1a06c8e5348807b8c4319a12de5809bcc174f35fc0203b5a40ec87", func := "tithebarn/tithebarnlaw08.FrameTorn", spec := "frameTorn", apart := false }
def FrameTornSaid : Prop := frameTornRow.holds Try.pinned (OpenSpec.ofChange frameTornSpec)

/-- ITS FALSE NEIGHBOUR: 'it returns false'. Refute it at one input. -/
def frameTornWrong : ChangeSpec := { name := "frameTorn", fn := fun _ => fun
  | [d1, d2] => { results := [.lit (.bool false)], args := [d1, d2] }
  | _ => none }
def FrameTornWrongFalsely : Prop := frameTornRow.holds Try.pinned (OpenSpec.ofChange frameTornWrong)

/-- 'tithebarnlaw08.FrameBurst': WHATEVER THE INPUT: true; the input reads as it did. -/
def frameBurstSpec : ChangeSpec := { name := "frameBurst", fn := fun _ => fun
  | [d1, d2, d3] => { results := [.lit (.bool true)], args := [d1, d2, d3] }
  | _ => none }
def frameBurstRow : OpenClaim := { program := "ytlcjkpoaehmghaa", sum := "5513b7adde1a06c8e5348807b8c4319a12de5809bcc174f35fc0203b5a40ec87", func := "tithebarn/tithebarnlaw08.FrameBurst", spec := "frameBurst", apart := false }
def FrameBurstSaid : Prop := frameBurstRow.holds Try.pinned (OpenSpec.ofChange frameBurstSpec)

/-- ITS FALSE NEIGHBOUR: 'it returns false'. Refute it at one input. -/
def frameBurstWrong : ChangeSpec := { name := "frameBurst", fn := fun _ => fun
  | [d1, d2, d3] => { results := [.lit (.bool false)], args := [d1, d2, d3] }
  | _ => none }
def FrameBurstWrongFalsely : Prop := frameBurstRow.holds Try.pinned (OpenSpec.ofChange frameBurstWrong)

/-- 'tithebarnlaw08.FrameScans': WHATEVER THE INPUT: true; the input reads as it did. -/
def frameScansSpec : ChangeSpec := { name := "frameScans", fn := fun _ => fun
  | [d] => { results := [.lit (.bool true)], args := [d] }
  | _ => none }
def frameScansRow : OpenClaim := { program := "ytlcjkpoaehmghaa", sum := "5513b7adde1a06c8e5348807b8c4319a12de5809bcc174f35fc0203b5a40ec87", func := "tithebarn/tithebarnlaw08.FrameScans", spec := "frameScans", apart := false }
def FrameScansSaid : Prop := frameScansRow.holds Try.pinned (OpenSpec.ofChange frameScansSpec)

/-- ITS FALSE NEIGHBOUR: 'it returns false'. Refute it at one input. -/
def frameScansWrong : ChangeSpec := { name := "frameScans", fn := fun _ => fun
  | [d] => { results := [.lit (.bool false)], args := [d] }
  | _ => none }
def FrameScansWrongFalsely : Prop := frameScansRow.holds Try.pinned (OpenSpec.ofChange frameScansWrong)

/-- 'tithebarnlaw08.FrameBack': WHATEVER THE INPUT: true; the input reads as it did. -/
def frameBackSpec : ChangeSpec := { name := "frameBack", fn := fun _ => fun
  | [d] => { results := [.lit (.bool true)], args := [d] }
  | _ => none }
def frameBackRow : OpenClaim := { program := "ytlcjkpoaehmghaa", sum := "5513b7adde1a06c8e5348807b8c4319a12de5809bcc174f35fc0203b5a40ec87", func := "tithebarn/tithebarnlaw08.FrameBack", spec := "frameBack", apart := false }
def FrameBackSaid : Prop := frameBackRow.holds Try.pinned (OpenSpec.ofChange frameBackSpec)

/-- ITS FALSE NEIGHBOUR: 'it returns false'. Refute it at one input. -/
def frameBackWrong : ChangeSpec := { name := "frameBack", fn := fun _ => fun
  | [d] => { results := [.lit (.bool false)], args := [d] }
  | _ => none }
def FrameBackWrongFalsely : Prop := frameBackRow.holds Try.pinned (OpenSpec.ofChange frameBackWrong)

/-- 'tithebarnlaw08.FrameJoins': WHATEVER THE INPUT: true; the input reads as it did. -/
def frameJoinsSpec : ChangeSpec := { name := "frameJoins", fn := fun _ => fun
  | [d1, d2] => { results := [.lit (.bool true)], args := [d1, d2] }
  | _ => none }
def frameJoinsRow : OpenClaim := { program := "ytlcjkpoaehmghaa", sum := "5513b7adde1a06c8e5348807b8c4319a12de5809bcc174f35fc0203b5a40ec87", func := "tithebarn/tithebarnlaw08.FrameJoins", spec := "frameJoins", apart := false }
def FrameJoinsSaid : Prop := frameJoinsRow.holds Try.pinned (OpenSpec.ofChange frameJoinsSpec)

/-- ITS FALSE NEIGHBOUR: 'it returns false'. Refute it at one input. -/
def frameJoinsWrong : ChangeSpec := { name := "frameJoins", fn := fun _ => fun
  | [d1, d2] => { results := [.lit (.bool false)], args := [d1, d2] }
  | _ => none }
def FrameJoinsWrongFalsely : Prop := frameJoinsRow.holds Try.pinned (OpenSpec.ofChange frameJoinsWrong)

/- THE SECOND FORM. 'bulk': how many values and letters a reading holds, each counted each time it is reached (what is shared counts as often as it is met; a slice's spare places count too). A statement '..UptoSaid' is the law's where the arguments, and the package variables that the reading takes, are together of bulk at most 1048576: NARROWER than '..Said'. Prove '..Said' where nothing that the law and all that it calls make is longer than what came in: it says more and counts as full. Else prove '..UptoSaid'. A law counts once. -/
mutual
def uptoBulk {H : Type} : DataW H → Nat
  | .lit (.string bytes) => bytes.length + 1
  | .lit _ => 1
  | .nil => 1
  | .ptr d => uptoBulk d + 1
  | .slice elems spare => uptoBulkAll elems + uptoBulkAll spare + 1
  | .agg parts => uptoBulkAll parts + 1
  | .iface _ d => uptoBulk d + 1
  | .map entries => uptoBulkEntries entries + 1
  | .held _ => 1
def uptoBulkAll {H : Type} : List (DataW H) → Nat
  | [] => 0
  | d :: r => uptoBulk d + uptoBulkAll r
def uptoBulkEntries {H : Type} : List (Lit × DataW H) → Nat
  | [] => 0
  | x :: r => uptoBulkEntry x + uptoBulkEntries r
def uptoBulkEntry {H : Type} : Lit × DataW H → Nat
  | (.string bytes, d) => bytes.length + uptoBulk d + 1
  | (_, d) => uptoBulk d + 1
 end
def uptoSmall : (H : Type) → List (DataW H) → Bool := fun _ ds => decide (uptoBulkAll ds ≤ 1048576)
def OpenSpec.upto (s : _root_.Go.ChangeSpec) : _root_.Go.OpenSpec := { _root_.Go.OpenSpec.ofChange s with cond := some uptoSmall }

/-- 'tithebarnlaw08.FrameSums', WHERE WHAT IT READS IS OF BULK AT MOST 1048576: true; the input reads as it did. -/
def frameSumsUptoRow : OpenClaim := { program := "ytlcjkpoaehmghaa", sum := "5513b7adde1a06c8e5348807b8c4319a12de5809bcc174f35fc0203b5a40ec87", func := "tithebarn/tithebarnlaw08.FrameSums", spec := "frameSums", apart := false, narrowed := true }
def FrameSumsUptoSaid : Prop := frameSumsUptoRow.holds Try.pinned (OpenSpec.upto frameSumsSpec)

/-- 'tithebarnlaw08.FrameTorn', WHERE WHAT IT READS IS OF BULK AT MOST 1048576: true; the input reads as it did. -/
def frameTornUptoRow : OpenClaim := { program := "ytlcjkpoaehmghaa", sum := "5513b7adde1a06c8e5348807b8c4319a12de5809bcc174f35fc0203b5a40ec87", func := "tithebarn/tithebarnlaw08.FrameTorn", spec := "frameTorn", apart := false, narrowed := true }
def FrameTornUptoSaid : Prop := frameTornUptoRow.holds Try.pinned (OpenSpec.upto frameTornSpec)

/-- 'tithebarnlaw08.FrameBurst', WHERE WHAT IT READS IS OF BULK AT MOST 1048576: true; the input reads as it did. -/
def frameBurstUptoRow : OpenClaim := { program := "ytlcjkpoaehmghaa", sum := "5513b7adde1a06c8e5348807b8c4319a12de5809bcc174f35fc0203b5a40ec87", func := "tithebarn/tithebarnlaw08.FrameBurst", spec := "frameBurst", apart := false, narrowed := true }
def FrameBurstUptoSaid : Prop := frameBurstUptoRow.holds Try.pinned (OpenSpec.upto frameBurstSpec)

/-- 'tithebarnlaw08.FrameScans', WHERE WHAT IT READS IS OF BULK AT MOST 1048576: true; the input reads as it did. -/
def frameScansUptoRow : OpenClaim := { program := "ytlcjkpoaehmghaa", sum := "5513b7adde1a06c8e5348807b8c4319a12de5809bcc174f35fc0203b5a40ec87", func := "tithebarn/tithebarnlaw08.FrameScans", spec := "frameScans", apart := false, narrowed := true }
def FrameScansUptoSaid : Prop := frameScansUptoRow.holds Try.pinned (OpenSpec.upto frameScansSpec)

/-- 'tithebarnlaw08.FrameBack', WHERE WHAT IT READS IS OF BULK AT MOST 1048576: true; the input reads as it did. -/
def frameBackUptoRow : OpenClaim := { program := "ytlcjkpoaehmghaa", sum := "5513b7adde1a06c8e5348807b8c4319a12de5809bcc174f35fc0203b5a40ec87", func := "tithebarn/tithebarnlaw08.FrameBack", spec := "frameBack", apart := false, narrowed := true }
def FrameBackUptoSaid : Prop := frameBackUptoRow.holds Try.pinned (OpenSpec.upto frameBackSpec)

/-- 'tithebarnlaw08.FrameJoins', WHERE WHAT IT READS IS OF BULK AT MOST 1048576: true; the input reads as it did. -/
def frameJoinsUptoRow : OpenClaim := { program := "ytlcjkpoaehmghaa", sum := "5513b7adde1a06c8e5348807b8c4319a12de5809bcc174f35fc0203b5a40ec87", func := "tithebarn/tithebarnlaw08.FrameJoins", spec := "frameJoins", apart := false, narrowed := true }
def FrameJoinsUptoSaid : Prop := frameJoinsUptoRow.holds Try.pinned (OpenSpec.upto frameJoinsSpec)

end Rows
end Go.Proofs.Ytlcjkpoaehmghaa
