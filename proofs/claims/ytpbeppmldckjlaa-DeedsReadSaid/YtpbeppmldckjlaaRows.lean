/-
  No cell of these rows narrows 'for every input' (looked for: loops, veiled, ifaces, maps, wideKeys, modest, calm, conditions, laid).
  DERIVED. THE GIVEN ROWS OF THIS SEAT. 6 by the template 'for every input the law returns true; each argument reads behind the call as it read before'; 0 by the template 'total and deterministic' (their statements: YtpbeppmldckjlaaTotals.lean).
  GIVEN WITH THE SEED: the statements are not yours to turn. If you find one false, say at which input.
  Laid BY PROGRAM, IN A SANDBOX (cutbox-rows.mjs): the forced cells as the released guide's own fill.sh prints them over the translation 6f3f82a80d9715b6… (all of the seat's roots in one cut). By AI agents, Wed Nov 11 2026. No macro, syntax, notation, axiom, sorry.
-/
import Derived.Test.YtpbeppmldckjlaaChecked
import GoSem.Claim
import GoSem.ClaimJoined
import GoSem.ClaimMapViews
import Derived.JoinedTies
import Derived.KernelRfl
namespace Go.Proofs.Ytpbeppmldckjlaa
/- THE CELL 'sum', in the pinned program and in every row, IS THE sha256 OF THE DUMP (.gsa) THAT YtpbeppmldckjlaaProg.lean LOADS. Nothing in Lean hashes anything: it is a label: what it is worth is what the hold of that sum in a sandbox is worth. -/
noncomputable def Try.pinned : Pinned := { name := "ytpbeppmldckjlaa", sum := "6f3f82a80d9715b6620a9e4ca56c73f1b5c315cdf9e786a71b7a3587334ab175", checked := Try.checked }
namespace Rows
def none {H : Type} : Left H := { results := [], args := [] }

/-- 'tithebarnlaw07.DeedsWrite': WHATEVER THE INPUT: true; the input reads as it did. -/
def deedsWriteSpec : ChangeSpec := { name := "deedsWrite", fn := fun _ => fun
  | [d1, d2] => { results := [.lit (.bool true)], args := [d1, d2] }
  | _ => none }
def deedsWriteRow : OpenClaim := { program := "ytpbeppmldckjlaa", sum := "6f3f82a80d9715b6620a9e4ca56c73f1b5c315cdf9e786a71b7a3587334ab175", func := "tithebarn/tithebarnlaw07.DeedsWrite", spec := "deedsWrite", unfollowed := true, recurses := true, apart := false }
def DeedsWriteSaid : Prop := deedsWriteRow.holds Try.pinned (OpenSpec.ofChange deedsWriteSpec)

/-- ITS FALSE NEIGHBOUR: 'it returns false'. Refute it at one input. -/
def deedsWriteWrong : ChangeSpec := { name := "deedsWrite", fn := fun _ => fun
  | [d1, d2] => { results := [.lit (.bool false)], args := [d1, d2] }
  | _ => none }
def DeedsWriteWrongFalsely : Prop := deedsWriteRow.holds Try.pinned (OpenSpec.ofChange deedsWriteWrong)

/-- 'tithebarnlaw07.DeedsRead': WHATEVER THE INPUT: true; the input reads as it did. -/
def deedsReadSpec : ChangeSpec := { name := "deedsRead", fn := fun _ => fun
  | [d1, d2] => { results := [.lit (.bool true)], args := [d1, d2] }
  | _ => none }
def deedsReadRow : OpenClaim := { program := "ytpbeppmldckjlaa", sum := "6f3f82a80d9715b6620a9e4ca56c73f1b5c315cdf9e786a71b7a3587334ab175", func := "tithebarn/tithebarnlaw07.DeedsRead", spec := "deedsRead", unfollowed := true, recurses := true, apart := false }
def DeedsReadSaid : Prop := deedsReadRow.holds Try.pinned (OpenSpec.ofChange deedsReadSpec)

/-- ITS FALSE NEIGHBOUR: 'it returns false'. Refute it at one input. -/
def deedsReadWrong : ChangeSpec := { name := "deedsRead", fn := fun _ => fun
  | [d1, d2] => { results := [.lit (.bool false)], args := [d1, d2] }
  | _ => none }
def DeedsReadWrongFalsely : Prop := deedsReadRow.holds Try.pinned (OpenSpec.ofChange deedsReadWrong)

/-- 'tithebarnlaw07.DeedsBack': WHATEVER THE INPUT: true; the input reads as it did. -/
def deedsBackSpec : ChangeSpec := { name := "deedsBack", fn := fun _ => fun
  | [d1, d2] => { results := [.lit (.bool true)], args := [d1, d2] }
  | _ => none }
def deedsBackRow : OpenClaim := { program := "ytpbeppmldckjlaa", sum := "6f3f82a80d9715b6620a9e4ca56c73f1b5c315cdf9e786a71b7a3587334ab175", func := "tithebarn/tithebarnlaw07.DeedsBack", spec := "deedsBack", unfollowed := true, recurses := true, apart := false }
def DeedsBackSaid : Prop := deedsBackRow.holds Try.pinned (OpenSpec.ofChange deedsBackSpec)

/-- ITS FALSE NEIGHBOUR: 'it returns false'. Refute it at one input. -/
def deedsBackWrong : ChangeSpec := { name := "deedsBack", fn := fun _ => fun
  | [d1, d2] => { results := [.lit (.bool false)], args := [d1, d2] }
  | _ => none }
def DeedsBackWrongFalsely : Prop := deedsBackRow.holds Try.pinned (OpenSpec.ofChange deedsBackWrong)

/-- 'tithebarnlaw07.DeedsOnly': WHATEVER THE INPUT: true; the input reads as it did. -/
def deedsOnlySpec : ChangeSpec := { name := "deedsOnly", fn := fun _ => fun
  | [d1, d2] => { results := [.lit (.bool true)], args := [d1, d2] }
  | _ => none }
def deedsOnlyRow : OpenClaim := { program := "ytpbeppmldckjlaa", sum := "6f3f82a80d9715b6620a9e4ca56c73f1b5c315cdf9e786a71b7a3587334ab175", func := "tithebarn/tithebarnlaw07.DeedsOnly", spec := "deedsOnly", unfollowed := true, recurses := true, apart := false }
def DeedsOnlySaid : Prop := deedsOnlyRow.holds Try.pinned (OpenSpec.ofChange deedsOnlySpec)

/-- ITS FALSE NEIGHBOUR: 'it returns false'. Refute it at one input. -/
def deedsOnlyWrong : ChangeSpec := { name := "deedsOnly", fn := fun _ => fun
  | [d1, d2] => { results := [.lit (.bool false)], args := [d1, d2] }
  | _ => none }
def DeedsOnlyWrongFalsely : Prop := deedsOnlyRow.holds Try.pinned (OpenSpec.ofChange deedsOnlyWrong)

/-- 'tithebarnlaw07.DeedsSame': WHATEVER THE INPUT: true; the input reads as it did. -/
def deedsSameSpec : ChangeSpec := { name := "deedsSame", fn := fun _ => fun
  | [d1, d2, d3] => { results := [.lit (.bool true)], args := [d1, d2, d3] }
  | _ => none }
def deedsSameRow : OpenClaim := { program := "ytpbeppmldckjlaa", sum := "6f3f82a80d9715b6620a9e4ca56c73f1b5c315cdf9e786a71b7a3587334ab175", func := "tithebarn/tithebarnlaw07.DeedsSame", spec := "deedsSame", unfollowed := true, recurses := true, apart := false }
def DeedsSameSaid : Prop := deedsSameRow.holds Try.pinned (OpenSpec.ofChange deedsSameSpec)

/-- ITS FALSE NEIGHBOUR: 'it returns false'. Refute it at one input. -/
def deedsSameWrong : ChangeSpec := { name := "deedsSame", fn := fun _ => fun
  | [d1, d2, d3] => { results := [.lit (.bool false)], args := [d1, d2, d3] }
  | _ => none }
def DeedsSameWrongFalsely : Prop := deedsSameRow.holds Try.pinned (OpenSpec.ofChange deedsSameWrong)

/-- 'tithebarnlaw07.DeedsCols': WHATEVER THE INPUT: true; the input reads as it did. -/
def deedsColsSpec : ChangeSpec := { name := "deedsCols", fn := fun _ => fun
  | [d1, d2] => { results := [.lit (.bool true)], args := [d1, d2] }
  | _ => none }
def deedsColsRow : OpenClaim := { program := "ytpbeppmldckjlaa", sum := "6f3f82a80d9715b6620a9e4ca56c73f1b5c315cdf9e786a71b7a3587334ab175", func := "tithebarn/tithebarnlaw07.DeedsCols", spec := "deedsCols", unfollowed := true, recurses := true, apart := false }
def DeedsColsSaid : Prop := deedsColsRow.holds Try.pinned (OpenSpec.ofChange deedsColsSpec)

/-- ITS FALSE NEIGHBOUR: 'it returns false'. Refute it at one input. -/
def deedsColsWrong : ChangeSpec := { name := "deedsCols", fn := fun _ => fun
  | [d1, d2] => { results := [.lit (.bool false)], args := [d1, d2] }
  | _ => none }
def DeedsColsWrongFalsely : Prop := deedsColsRow.holds Try.pinned (OpenSpec.ofChange deedsColsWrong)

/- THE SECOND FORM. 'bulk': how many values and letters a reading holds, each counted each time it is reached (what is shared counts as often as it is met; a slice's spare places count too). A statement '..UptoSaid' is the law's where the arguments, and the package variables that the reading takes, are together of bulk at most 1048576: NARROWER than '..Said'. Prove '..Said' where nothing that the law and all that it calls make is longer than what came in: it says more and counts as full. Else prove '..UptoSaid'. A law counts once. -/
mutual
def uptoBulk {H : Type} : DataW H → Nat
  | .lit (.string bytes) => bytes.length + 1
  | .lit _ => 1
  | .nil => 1
  | .ptr d => uptoBulk d + 1
  | .slice elems spare => uptoBulkAll elems + uptoBulkAll spare + 1
  | .agg parts => uptoBulkAll parts + 1
  | .iface _ d => uptoBulk d + 1
  | .map entries => uptoBulkEntries entries + 1
  | .held _ => 1
def uptoBulkAll {H : Type} : List (DataW H) → Nat
  | [] => 0
  | d :: r => uptoBulk d + uptoBulkAll r
def uptoBulkEntries {H : Type} : List (Lit × DataW H) → Nat
  | [] => 0
  | x :: r => uptoBulkEntry x + uptoBulkEntries r
def uptoBulkEntry {H : Type} : Lit × DataW H → Nat
  | (.string bytes, d) => bytes.length + uptoBulk d + 1
  | (_, d) => uptoBulk d + 1
 end
def uptoSmall : (H : Type) → List (DataW H) → Bool := fun _ ds => decide (uptoBulkAll ds ≤ 1048576)
def OpenSpec.upto (s : _root_.Go.ChangeSpec) : _root_.Go.OpenSpec := { _root_.Go.OpenSpec.ofChange s with cond := some uptoSmall }

/-- 'tithebarnlaw07.DeedsWrite', WHERE WHAT IT READS IS OF BULK AT MOST 1048576: true; the input reads as it did. -/
def deedsWriteUptoRow : OpenClaim := { program := "ytpbeppmldckjlaa", sum := "6f3f82a80d9715b6620a9e4ca56c73f1b5c315cdf9e786a71b7a3587334ab175", func := "tithebarn/tithebarnlaw07.DeedsWrite", spec := "deedsWrite", unfollowed := true, recurses := true, apart := false, narrowed := true }
def DeedsWriteUptoSaid : Prop := deedsWriteUptoRow.holds Try.pinned (OpenSpec.upto deedsWriteSpec)

/-- 'tithebarnlaw07.DeedsRead', WHERE WHAT IT READS IS OF BULK AT MOST 1048576: true; the input reads as it did. -/
def deedsReadUptoRow : OpenClaim := { program := "ytpbeppmldckjlaa", sum := "6f3f82a80d9715b6620a9e4ca56c73f1b5c315cdf9e786a71b7a3587334ab175", func := "tithebarn/tithebarnlaw07.DeedsRead", spec := "deedsRead", unfollowed := true, recurses := true, apart := false, narrowed := true }
def DeedsReadUptoSaid : Prop := deedsReadUptoRow.holds Try.pinned (OpenSpec.upto deedsReadSpec)

/-- 'tithebarnlaw07.DeedsBack', WHERE WHAT IT READS IS OF BULK AT MOST 1048576: true; the input reads as it did. -/
def deedsBackUptoRow : OpenClaim := { program := "ytpbeppmldckjlaa", sum := "6f3f82a80d9715b6620a9e4ca56c73f1b5c315cdf9e786a71b7a3587334ab175", func := "tithebarn/tithebarnlaw07.DeedsBack", spec := "deedsBack", unfollowed := true, recurses := true, apart := false, narrowed := true }
def DeedsBackUptoSaid : Prop := deedsBackUptoRow.holds Try.pinned (OpenSpec.upto deedsBackSpec)

/-- 'tithebarnlaw07.DeedsOnly', WHERE WHAT IT READS IS OF BULK AT MOST 1048576: true; the input reads as it did. -/
def deedsOnlyUptoRow : OpenClaim := { program := "ytpbeppmldckjlaa", sum := "6f3f82a80d9715b6620a9e4ca56c73f1b5c315cdf9e786a71b7a3587334ab175", func := "tithebarn/tithebarnlaw07.DeedsOnly", spec := "deedsOnly", unfollowed := true, recurses := true, apart := false, narrowed := true }
def DeedsOnlyUptoSaid : Prop := deedsOnlyUptoRow.holds Try.pinned (OpenSpec.upto deedsOnlySpec)

/-- 'tithebarnlaw07.DeedsSame', WHERE WHAT IT READS IS OF BULK AT MOST 1048576: true; the input reads as it did. -/
def deedsSameUptoRow : OpenClaim := { program := "ytpbeppmldckjlaa", sum := "6f3f82a80d9715b6620a9e4ca56c73f1b5c315cdf9e786a71b7a3587334ab175", func := "tithebarn/tithebarnlaw07.DeedsSame", spec := "deedsSame", unfollowed := true, recurses := true, apart := false, narrowed := true }
def DeedsSameUptoSaid : Prop := deedsSameUptoRow.holds Try.pinned (OpenSpec.upto deedsSameSpec)

/-- 'tithebarnlaw07.DeedsCols', WHERE WHAT IT READS IS OF BULK AT MOST 1048576: true; the input reads as it did. -/
def deedsColsUptoRow : OpenClaim := { program := "ytpbeppmldckjlaa", sum := "6f3f82a80d9715b6620a9e4ca56c73f1b5c315cdf9e786a71b7a3587334ab175", func := "tithebarn/tithebarnlaw07.DeedsCols", spec := "deedsCols", unfollowed := true, recurses := true, apart := false, narrowed := true }
def DeedsColsUptoSaid : Prop := deedsColsUptoRow.holds Try.pinned (OpenSpec.upto deedsColsSpec)

end Rows
end Go.Proofs.Ytpbeppmldckjlaa
