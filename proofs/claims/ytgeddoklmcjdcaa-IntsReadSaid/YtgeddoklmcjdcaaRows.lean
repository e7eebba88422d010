/-
  No cell of these rows narrows 'for every input' (looked for: loops, veiled, ifaces, maps, wideKeys, modest, calm, conditions, laid).
  DERIVED. THE GIVEN ROWS OF THIS SEAT. 6 by the template 'for every input the law returns true; each argument reads behind the call as it read before'; 0 by the template 'total and deterministic' (their statements: YtgeddoklmcjdcaaTotals.lean).
  GIVEN WITH THE SEED: the statements are not yours to turn. If you find one false, say at which input.
  Laid BY PROGRAM, IN A SANDBOX (cutbox-rows.mjs): the forced cells as the released guide's own fill.sh prints them over the translation dbac4c939f3e2670… (all of the seat's roots in one cut). By AI agents, Wed Nov 11 2026. No macro, syntax, notation, axiom, sorry.
-/
import Derived.Test.YtgeddoklmcjdcaaChecked
import GoSem.Claim
import GoSem.ClaimJoined
import GoSem.ClaimMapViews
import Derived.JoinedTies
import Derived.KernelRfl
namespace Go.Proofs.Ytgeddoklmcjdcaa
/- THE CELL 'sum', in the pinned program and in every row, IS THE sha256 OF THE DUMP (.gsa) THAT YtgeddoklmcjdcaaProg.lean LOADS. Nothing in Lean hashes anything: it is a label: what it is worth is what the hold of that sum in a sandbox is worth. -/
noncomputable def Try.pinned : Pinned := { name := "ytgeddoklmcjdcaa", sum := "dbac4c939f3e2670c8939fa250367c9602600d6ecfcf204a382854cb068b1c71", checked := Try.checked }
namespace Rows
def none {H : Type} : Left H := { results := [], args := [] }

/-- 'tithebarnlaw04.IntsWith': WHATEVER THE INPUT: true; the input reads as it did. -/
def intsWithSpec : ChangeSpec := { name := "intsWith", fn := fun _ => fun
  | [d1, d2] => { results := [.lit (.bool true)], args := [d1, d2] }
  | _ => none }
def intsWithRow : OpenClaim := { program := "ytgeddoklmcjdcaa", sum := "dbac4c939f3e2670c8939fa250367c9602600d6ecfcf204a382854cb068b1c71", func := "tithebarn/tithebarnlaw04.IntsWith", spec := "intsWith", unfollowed := true, recurses := true, apart := false }
def IntsWithSaid : Prop := intsWithRow.holds Try.pinned (OpenSpec.ofChange intsWithSpec)

/-- ITS FALSE NEIGHBOUR: 'it returns false'. Refute it at one input. -/
def intsWithWrong : ChangeSpec := { name := "intsWith", fn := fun _ => fun
  | [d1, d2] => { results := [.lit (.bool false)], args := [d1, d2] }
  | _ => none }
def IntsWithWrongFalsely : Prop := intsWithRow.holds Try.pinned (OpenSpec.ofChange intsWithWrong)

/-- 'tithebarnlaw04.IntsRead': WHATEVER THE INPUT: true; the input reads as it did. -/
def intsReadSpec : ChangeSpec := { name := "intsRead", fn := fun _ => fun
  | [d] => { results := [.lit (.bool true)], args := [d] }
  | _ => none }
def intsReadRow : OpenClaim := { program := "ytgeddoklmcjdcaa", sum := "dbac4c939f3e2670c8939fa250367c9602600d6ecfcf204a382854cb068b1c71", func := "tithebarn/tithebarnlaw04.IntsRead", spec := "intsRead", unfollowed := true, recurses := true, apart := false }
def IntsReadSaid : Prop := intsReadRow.holds Try.pinned (OpenSpec.ofChange intsReadSpec)

/-- ITS FALSE NEIGHBOUR: 'it returns false'. Refute it at one input. -/
def intsReadWrong : ChangeSpec := { name := "intsRead", fn := fun _ => fun
  | [d] => { results := [.lit (.bool false)], args := [d] }
  | _ => none }
def IntsReadWrongFalsely : Prop := intsReadRow.holds Try.pinned (OpenSpec.ofChange intsReadWrong)

/-- 'tithebarnlaw04.IntsOnly': WHATEVER THE INPUT: true; the input reads as it did. -/
def intsOnlySpec : ChangeSpec := { name := "intsOnly", fn := fun _ => fun
  | [d] => { results := [.lit (.bool true)], args := [d] }
  | _ => none }
def intsOnlyRow : OpenClaim := { program := "ytgeddoklmcjdcaa", sum := "dbac4c939f3e2670c8939fa250367c9602600d6ecfcf204a382854cb068b1c71", func := "tithebarn/tithebarnlaw04.IntsOnly", spec := "intsOnly", unfollowed := true, recurses := true, apart := false }
def IntsOnlySaid : Prop := intsOnlyRow.holds Try.pinned (OpenSpec.ofChange intsOnlySpec)

/-- ITS FALSE NEIGHBOUR: 'it returns false'. Refute it at one input. -/
def intsOnlyWrong : ChangeSpec := { name := "intsOnly", fn := fun _ => fun
  | [d] => { results := [.lit (.bool false)], args := [d] }
  | _ => none }
def IntsOnlyWrongFalsely : Prop := intsOnlyRow.holds Try.pinned (OpenSpec.ofChange intsOnlyWrong)

/-- 'tithebarnlaw04.IntsBest': WHATEVER THE INPUT: true; the input reads as it did. -/
def intsBestSpec : ChangeSpec := { name := "intsBest", fn := fun _ => fun
  | [d] => { results := [.lit (.bool true)], args := [d] }
  | _ => none }
def intsBestRow : OpenClaim := { program := "ytgeddoklmcjdcaa", sum := "dbac4c939f3e2670c8939fa250367c9602600d6ecfcf204a382854cb068b1c71", func := "tithebarn/tithebarnlaw04.IntsBest", spec := "intsBest", unfollowed := true, recurses := true, apart := false }
def IntsBestSaid : Prop := intsBestRow.holds Try.pinned (OpenSpec.ofChange intsBestSpec)

/-- ITS FALSE NEIGHBOUR: 'it returns false'. Refute it at one input. -/
def intsBestWrong : ChangeSpec := { name := "intsBest", fn := fun _ => fun
  | [d] => { results := [.lit (.bool false)], args := [d] }
  | _ => none }
def IntsBestWrongFalsely : Prop := intsBestRow.holds Try.pinned (OpenSpec.ofChange intsBestWrong)

/-- 'tithebarnlaw04.IntsBack': WHATEVER THE INPUT: true; the input reads as it did. -/
def intsBackSpec : ChangeSpec := { name := "intsBack", fn := fun _ => fun
  | [d] => { results := [.lit (.bool true)], args := [d] }
  | _ => none }
def intsBackRow : OpenClaim := { program := "ytgeddoklmcjdcaa", sum := "dbac4c939f3e2670c8939fa250367c9602600d6ecfcf204a382854cb068b1c71", func := "tithebarn/tithebarnlaw04.IntsBack", spec := "intsBack", unfollowed := true, recurses := true, apart := false }
def IntsBackSaid : Prop := intsBackRow.holds Try.pinned (OpenSpec.ofChange intsBackSpec)

/-- ITS FALSE NEIGHBOUR: 'it returns false'. Refute it at one input. -/
def intsBackWrong : ChangeSpec := { name := "intsBack", fn := fun _ => fun
  | [d] => { results := [.lit (.bool false)], args := [d] }
  | _ => none }
def IntsBackWrongFalsely : Prop := intsBackRow.holds Try.pinned (OpenSpec.ofChange intsBackWrong)

/-- 'tithebarnlaw04.IntsSame': WHATEVER THE INPUT: true; the input reads as it did. -/
def intsSameSpec : ChangeSpec := { name := "intsSame", fn := fun _ => fun
  | [d1, d2] => { results := [.lit (.bool true)], args := [d1, d2] }
  | _ => none }
def intsSameRow : OpenClaim := { program := "ytgeddoklmcjdcaa", sum := "dbac4c939f3e2670c8939fa250367c9602600d6ecfcf204a382854cb068b1c71", func := "tithebarn/tithebarnlaw04.IntsSame", spec := "intsSame", unfollowed := true, recurses := true, apart := false }
def IntsSameSaid : Prop := intsSameRow.holds Try.pinned (OpenSpec.ofChange intsSameSpec)

/-- ITS FALSE NEIGHBOUR: 'it returns false'. Refute it at one input. -/
def intsSameWrong : ChangeSpec := { name := "intsSame", fn := fun _ => fun
  | [d1, d2] => { results := [.lit (.bool false)], args := [d1, d2] }
  | _ => none }
def IntsSameWrongFalsely : Prop := intsSameRow.holds Try.pinned (OpenSpec.ofChange intsSameWrong)

/- THE SECOND FORM. 'bulk': how many values and letters a reading holds, each counted each time it is reached (what is shared counts as often as it is met; a slice's spare places count too). A statement '..UptoSaid' is the law's where the arguments, and the package variables that the reading takes, are together of bulk at most 1048576: NARROWER than '..Said'. Prove '..Said' where nothing that the law and all that it calls make is longer than what came in: it says more and counts as full. Else prove '..UptoSaid'. A law counts once. -/
mutual
def uptoBulk {H : Type} : DataW H → Nat
  | .lit (.string bytes) => bytes.length + 1
  | .lit _ => 1
  | .nil => 1
  | .ptr d => uptoBulk d + 1
  | .slice elems spare => uptoBulkAll elems + uptoBulkAll spare + 1
  | .agg parts => uptoBulkAll parts + 1
  | .iface _ d => uptoBulk d + 1
  | .map entries => uptoBulkEntries entries + 1
  | .held _ => 1
def uptoBulkAll {H : Type} : List (DataW H) → Nat
  | [] => 0
  | d :: r => uptoBulk d + uptoBulkAll r
def uptoBulkEntries {H : Type} : List (Lit × DataW H) → Nat
  | [] => 0
  | x :: r => uptoBulkEntry x + uptoBulkEntries r
def uptoBulkEntry {H : Type} : Lit × DataW H → Nat
  | (.string bytes, d) => bytes.length + uptoBulk d + 1
  | (_, d) => uptoBulk d + 1
 end
def uptoSmall : (H : Type) → List (DataW H) → Bool := fun _ ds => decide (uptoBulkAll ds ≤ 1048576)
def OpenSpec.upto (s : _root_.Go.ChangeSpec) : _root_.Go.OpenSpec := { _root_.Go.OpenSpec.ofChange s with cond := some uptoSmall }

/-- 'tithebarnlaw04.IntsWith', WHERE WHAT IT READS IS OF BULK AT MOST 1048576: true; the input reads as it did. -/
def intsWithUptoRow : OpenClaim := { program := "ytgeddoklmcjdcaa", sum := "dbac4c939f3e2670c8939fa250367c9602600d6ecfcf204a382854cb068b1c71", func := "tithebarn/tithebarnlaw04.IntsWith", spec := "intsWith", unfollowed := true, recurses := true, apart := false, narrowed := true }
def IntsWithUptoSaid : Prop := intsWithUptoRow.holds Try.pinned (OpenSpec.upto intsWithSpec)

/-- 'tithebarnlaw04.IntsRead', WHERE WHAT IT READS IS OF BULK AT MOST 1048576: true; the input reads as it did. -/
def intsReadUptoRow : OpenClaim := { program := "ytgeddoklmcjdcaa", sum := "dbac4c939f3e2670c8939fa250367c9602600d6ecfcf204a382854cb068b1c71", func := "tithebarn/tithebarnlaw04.IntsRead", spec := "intsRead", unfollowed := true, recurses := true, apart := false, narrowed := true }
def IntsReadUptoSaid : Prop := intsReadUptoRow.holds Try.pinned (OpenSpec.upto intsReadSpec)

/-- 'tithebarnlaw04.IntsOnly', WHERE WHAT IT READS IS OF BULK AT MOST 1048576: true; the input reads as it did. -/
def intsOnlyUptoRow : OpenClaim := { program := "ytgeddoklmcjdcaa", sum := "dbac4c939f3e2670c8939fa250367c9602600d6ecfcf204a382854cb068b1c71", func := "tithebarn/tithebarnlaw04.IntsOnly", spec := "intsOnly", unfollowed := true, recurses := true, apart := false, narrowed := true }
def IntsOnlyUptoSaid : Prop := intsOnlyUptoRow.holds Try.pinned (OpenSpec.upto intsOnlySpec)

/-- 'tithebarnlaw04.IntsBest', WHERE WHAT IT READS IS OF BULK AT MOST 1048576: true; the input reads as it did. -/
def intsBestUptoRow : OpenClaim := { program := "ytgeddoklmcjdcaa", sum := "dbac4c939f3e2670c8939fa250367c9602600d6ecfcf204a382854cb068b1c71", func := "tithebarn/tithebarnlaw04.IntsBest", spec := "intsBest", unfollowed := true, recurses := true, apart := false, narrowed := true }
def IntsBestUptoSaid : Prop := intsBestUptoRow.holds Try.pinned (OpenSpec.upto intsBestSpec)

/-- 'tithebarnlaw04.IntsBack', WHERE WHAT IT READS IS OF BULK AT MOST 1048576: true; the input reads as it did. -/
def intsBackUptoRow : OpenClaim := { program := "ytgeddoklmcjdcaa", sum := "dbac4c939f3e2670c8939fa250367c9602600d6ecfcf204a382854cb068b1c71", func := "tithebarn/tithebarnlaw04.IntsBack", spec := "intsBack", unfollowed := true, recurses := true, apart := false, narrowed := true }
def IntsBackUptoSaid : Prop := intsBackUptoRow.holds Try.pinned (OpenSpec.upto intsBackSpec)

/-- 'tithebarnlaw04.IntsSame', WHERE WHAT IT READS IS OF BULK AT MOST 1048576: true; the input reads as it did. -/
def intsSameUptoRow : OpenClaim := { program := "ytgeddoklmcjdcaa", sum := "dbac4c939f3e2670c8939fa250367c9602600d6ecfcf204a382854cb068b1c71", func := "tithebarn/tithebarnlaw04.IntsSame", spec := "intsSame", unfollowed := true, recurses := true, apart := false, narrowed := true }
def IntsSameUptoSaid : Prop := intsSameUptoRow.holds Try.pinned (OpenSpec.upto intsSameSpec)

end Rows
end Go.Proofs.Ytgeddoklmcjdcaa
