/-
  No cell of these rows narrows 'for every input' (looked for: loops, veiled, ifaces, maps, wideKeys, modest, calm, conditions, laid).
  DERIVED. THE GIVEN ROWS OF THIS SEAT. 5 by the template 'for every input the law returns true; each argument reads behind the call as it read before'; 0 by the template 'total and deterministic' (their statements: YtagokgijffpdnaaTotals.lean).
  GIVEN WITH THE SEED: the statements are not yours to turn. If you find one false, say at which input.
  Laid BY PROGRAM, IN A SANDBOX (cutbox-rows.mjs): the forced cells as the released guide's own fill.sh prints them over the translation feeff90abdceaf7c… (all of the seat's roots in one cut). By AI agents, Wed Nov 11 2026. No macro, syntax, notation, axiom, sorry.
-/
import Derived.Test.YtagokgijffpdnaaChecked
import GoSem.Claim
import GoSem.ClaimJoined
import GoSem.ClaimMapViews
import Derived.JoinedTies
import Derived.KernelRfl
namespace Go.Proofs.Ytagokgijffpdnaa
/- THE CELL 'sum', in the pinned program and in every row, IS THE sha256 OF THE DUMP (.gsa) THAT YtagokgijffpdnaaProg.lean LOADS. Nothing in Lean hashes anything: it is a label: what it is worth is what the hold of that sum in a sandbox is worth. -/
noncomputable def Try.pinned : Pinned := { name := "ytagokgijffpdnaa", sum := "feeff90abdceaf7c07bf1a766fffdb10e8072b37ce1780274842178b201aa09e", checked := Try.checked }
namespace Rows
def none {H : Type} : Left H := { results := [], args := [] }

/-- 'tithebarnlaw16.ManifestIds': WHATEVER THE INPUT: true; the input reads as it did. -/
def manifestIdsSpec : ChangeSpec := { name := "manifestIds", fn := fun _ => fun
  | [d] => { results := [.lit (.bool true)], args := [d] }
  | _ => none }
def manifestIdsRow : OpenClaim := { program := "ytagokgijffpdnaa", sum := "feeff90abdceaf7c07bf1a766fffdb10e8072b37ce1780274842178b201aa09e", func := "tithebarn/tithebarnlaw16.ManifestIds", spec := "manifestIds", unfollowed := true, recurses := true, apart := false }
def ManifestIdsSaid : Prop := manifestIdsRow.holds Try.pinned (OpenSpec.ofChange manifestIdsSpec)

/-- ITS FALSE NEIGHBOUR: 'it returns false'. Refute it at one input. -/
def manifestIdsWrong : ChangeSpec := { name := "manifestIds", fn := fun _ => fun
  | [d] => { results := [.lit (.bool false)], args := [d] }
  | _ => none }
def ManifestIdsWrongFalsely : Prop := manifestIdsRow.holds Try.pinned (OpenSpec.ofChange manifestIdsWrong)

/-- 'tithebarnlaw16.ManifestSnapshot': WHATEVER THE INPUT: true; the input reads as it did. -/
def manifestSnapshotSpec : ChangeSpec := { name := "manifestSnapshot", fn := fun _ => fun
  | [d] => { results := [.lit (.bool true)], args := [d] }
  | _ => none }
def manifestSnapshotRow : OpenClaim := { program := "ytagokgijffpdnaa", sum := "feeff90abdceaf7c07bf1a766fffdb10e8072b37ce1780274842178b201aa09e", func := "tithebarn/tithebarnlaw16.ManifestSnapshot", spec := "manifestSnapshot", unfollowed := true, recurses := true, apart := false }
def ManifestSnapshotSaid : Prop := manifestSnapshotRow.holds Try.pinned (OpenSpec.ofChange manifestSnapshotSpec)

/-- ITS FALSE NEIGHBOUR: 'it returns false'. Refute it at one input. -/
def manifestSnapshotWrong : ChangeSpec := { name := "manifestSnapshot", fn := fun _ => fun
  | [d] => { results := [.lit (.bool false)], args := [d] }
  | _ => none }
def ManifestSnapshotWrongFalsely : Prop := manifestSnapshotRow.holds Try.pinned (OpenSpec.ofChange manifestSnapshotWrong)

/-- 'tithebarnlaw16.ManifestWrites': WHATEVER THE INPUT: true; the input reads as it did. -/
def manifestWritesSpec : ChangeSpec := { name := "manifestWrites", fn := fun _ => fun
  | [d1, d2] => { results := [.lit (.bool true)], args := [d1, d2] }
  | _ => none }
def manifestWritesRow : OpenClaim := { program := "ytagokgijffpdnaa", sum := "feeff90abdceaf7c07bf1a766fffdb10e8072b37ce1780274842178b201aa09e", func := "tithebarn/tithebarnlaw16.ManifestWrites", spec := "manifestWrites", unfollowed := true, recurses := true, apart := false }
def ManifestWritesSaid : Prop := manifestWritesRow.holds Try.pinned (OpenSpec.ofChange manifestWritesSpec)

/-- ITS FALSE NEIGHBOUR: 'it returns false'. Refute it at one input. -/
def manifestWritesWrong : ChangeSpec := { name := "manifestWrites", fn := fun _ => fun
  | [d1, d2] => { results := [.lit (.bool false)], args := [d1, d2] }
  | _ => none }
def ManifestWritesWrongFalsely : Prop := manifestWritesRow.holds Try.pinned (OpenSpec.ofChange manifestWritesWrong)

/-- 'tithebarnlaw16.ManifestReads': WHATEVER THE INPUT: true; the input reads as it did. -/
def manifestReadsSpec : ChangeSpec := { name := "manifestReads", fn := fun _ => fun
  | [d] => { results := [.lit (.bool true)], args := [d] }
  | _ => none }
def manifestReadsRow : OpenClaim := { program := "ytagokgijffpdnaa", sum := "feeff90abdceaf7c07bf1a766fffdb10e8072b37ce1780274842178b201aa09e", func := "tithebarn/tithebarnlaw16.ManifestReads", spec := "manifestReads", unfollowed := true, recurses := true, apart := false }
def ManifestReadsSaid : Prop := manifestReadsRow.holds Try.pinned (OpenSpec.ofChange manifestReadsSpec)

/-- ITS FALSE NEIGHBOUR: 'it returns false'. Refute it at one input. -/
def manifestReadsWrong : ChangeSpec := { name := "manifestReads", fn := fun _ => fun
  | [d] => { results := [.lit (.bool false)], args := [d] }
  | _ => none }
def ManifestReadsWrongFalsely : Prop := manifestReadsRow.holds Try.pinned (OpenSpec.ofChange manifestReadsWrong)

/-- 'tithebarnlaw16.ManifestBack': WHATEVER THE INPUT: true; the input reads as it did. -/
def manifestBackSpec : ChangeSpec := { name := "manifestBack", fn := fun _ => fun
  | [d1, d2] => { results := [.lit (.bool true)], args := [d1, d2] }
  | _ => none }
def manifestBackRow : OpenClaim := { program := "ytagokgijffpdnaa", sum := "feeff90abdceaf7c07bf1a766fffdb10e8072b37ce1780274842178b201aa09e", func := "tithebarn/tithebarnlaw16.ManifestBack", spec := "manifestBack", unfollowed := true, recurses := true, apart := false }
def ManifestBackSaid : Prop := manifestBackRow.holds Try.pinned (OpenSpec.ofChange manifestBackSpec)

/-- ITS FALSE NEIGHBOUR: 'it returns false'. Refute it at one input. -/
def manifestBackWrong : ChangeSpec := { name := "manifestBack", fn := fun _ => fun
  | [d1, d2] => { results := [.lit (.bool false)], args := [d1, d2] }
  | _ => none }
def ManifestBackWrongFalsely : Prop := manifestBackRow.holds Try.pinned (OpenSpec.ofChange manifestBackWrong)

/- THE SECOND FORM. 'bulk': how many values and letters a reading holds, each counted each time it is reached (what is shared counts as often as it is met; a slice's spare places count too). A statement '..UptoSaid' is the law's where the arguments, and the package variables that the reading takes, are together of bulk at most 1048576: NARROWER than '..Said'. Prove '..Said' where nothing that the law and all that it calls make is longer than what came in: it says more and counts as full. Else prove '..UptoSaid'. A law counts once. -/
mutual
def uptoBulk {H : Type} : DataW H → Nat
  | .lit (.string bytes) => bytes.length + 1
  | .lit _ => 1
  | .nil => 1
  | .ptr d => uptoBulk d + 1
  | .slice elems spare => uptoBulkAll elems + uptoBulkAll spare + 1
  | .agg parts => uptoBulkAll parts + 1
  | .iface _ d => uptoBulk d + 1
  | .map entries => uptoBulkEntries entries + 1
  | .held _ => 1
def uptoBulkAll {H : Type} : List (DataW H) → Nat
  | [] => 0
  | d :: r => uptoBulk d + uptoBulkAll r
def uptoBulkEntries {H : Type} : List (Lit × DataW H) → Nat
  | [] => 0
  | x :: r => uptoBulkEntry x + uptoBulkEntries r
def uptoBulkEntry {H : Type} : Lit × DataW H → Nat
  | (.string bytes, d) => bytes.length + uptoBulk d + 1
  | (_, d) => uptoBulk d + 1
 end
def uptoSmall : (H : Type) → List (DataW H) → Bool := fun _ ds => decide (uptoBulkAll ds ≤ 1048576)
def OpenSpec.upto (s : _root_.Go.ChangeSpec) : _root_.Go.OpenSpec := { _root_.Go.OpenSpec.ofChange s with cond := some uptoSmall }

/-- 'tithebarnlaw16.ManifestIds', WHERE WHAT IT READS IS OF BULK AT MOST 1048576: true; the input reads as it did. -/
def manifestIdsUptoRow : OpenClaim := { program := "ytagokgijffpdnaa", sum := "feeff90abdceaf7c07bf1a766fffdb10e8072b37ce1780274842178b201aa09e", func := "tithebarn/tithebarnlaw16.ManifestIds", spec := "manifestIds", unfollowed := true, recurses := true, apart := false, narrowed := true }
def ManifestIdsUptoSaid : Prop := manifestIdsUptoRow.holds Try.pinned (OpenSpec.upto manifestIdsSpec)

/-- 'tithebarnlaw16.ManifestSnapshot', WHERE WHAT IT READS IS OF BULK AT MOST 1048576: true; the input reads as it did. -/
def manifestSnapshotUptoRow : OpenClaim := { program := "ytagokgijffpdnaa", sum := "feeff90abdceaf7c07bf1a766fffdb10e8072b37ce1780274842178b201aa09e", func := "tithebarn/tithebarnlaw16.ManifestSnapshot", spec := "manifestSnapshot", unfollowed := true, recurses := true, apart := false, narrowed := true }
def ManifestSnapshotUptoSaid : Prop := manifestSnapshotUptoRow.holds Try.pinned (OpenSpec.upto manifestSnapshotSpec)

/-- 'tithebarnlaw16.ManifestWrites', WHERE WHAT IT READS IS OF BULK AT MOST 1048576: true; the input reads as it did. -/
def manifestWritesUptoRow : OpenClaim := { program := "ytagokgijffpdnaa", sum := "feeff90abdceaf7c07bf1a766fffdb10e8072b37ce1780274842178b201aa09e", func := "tithebarn/tithebarnlaw16.ManifestWrites", spec := "manifestWrites", unfollowed := true, recurses := true, apart := false, narrowed := true }
def ManifestWritesUptoSaid : Prop := manifestWritesUptoRow.holds Try.pinned (OpenSpec.upto manifestWritesSpec)

/-- 'tithebarnlaw16.ManifestReads', WHERE WHAT IT READS IS OF BULK AT MOST 1048576: true; the input reads as it did. -/
def manifestReadsUptoRow : OpenClaim := { program := "ytagokgijffpdnaa", sum := "feeff90abdceaf7c07bf1a766fffdb10e8072b37ce1780274842178b201aa09e", func := "tithebarn/tithebarnlaw16.ManifestReads", spec := "manifestReads", unfollowed := true, recurses := true, apart := false, narrowed := true }
def ManifestReadsUptoSaid : Prop := manifestReadsUptoRow.holds Try.pinned (OpenSpec.upto manifestReadsSpec)

/-- 'tithebarnlaw16.ManifestBack', WHERE WHAT IT READS IS OF BULK AT MOST 1048576: true; the input reads as it did. -/
def manifestBackUptoRow : OpenClaim := { program := "ytagokgijffpdnaa", sum := "feeff90abdceaf7c07bf1a766fffdb10e8072b37ce1780274842178b201aa09e", func := "tithebarn/tithebarnlaw16.ManifestBack", spec := "manifestBack", unfollowed := true, recurses := true, apart := false, narrowed := true }
def ManifestBackUptoSaid : Prop := manifestBackUptoRow.holds Try.pinned (OpenSpec.upto manifestBackSpec)

end Rows
end Go.Proofs.Ytagokgijffpdnaa
