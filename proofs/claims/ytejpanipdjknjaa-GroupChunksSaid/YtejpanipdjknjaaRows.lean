/-
  No cell of these rows narrows 'for every input' (looked for: loops, veiled, ifaces, maps, wideKeys, modest, calm, conditions, laid).
  DERIVED. THE GIVEN ROWS OF THIS SEAT. 11 by the template 'for every input the law returns true; each argument reads behind the call as it read before'; 0 by the template 'total and deterministic' (their statements: YtejpanipdjknjaaTotals.lean).
  GIVEN WITH THE SEED: the statements are not yours to turn. If you find one false, say at which input.
  Laid BY PROGRAM, IN A SANDBOX (cutbox-rows.mjs): the forced cells as the released guide's own fill.sh prints them over the translation 9a25b4988923033b… (all of the seat's roots in one cut). By AI agents, Wed Nov 11 2026. No macro, syntax, notation, axiom, sorry.
-/
import Derived.Test.YtejpanipdjknjaaChecked
import GoSem.Claim
import GoSem.ClaimJoined
import GoSem.ClaimMapViews
import Derived.JoinedTies
import Derived.KernelRfl
namespace Go.Proofs.Ytejpanipdjknjaa
/- THE CELL 'sum', in the pinned program and in every row, IS THE sha256 OF THE DUMP (.gsa) THAT YtejpanipdjknjaaProg.lean LOADS. Nothing in Lean hashes anything: it is a label: what it is worth is what the hold of that sum in a sandbox is worth. -/
noncomputable def Try.pinned : Pinned := { name := "ytejpanipdjknjaa", sum := "9a25b4988923033bc67350c3f10aa17b6b6caba43c267aab98b4e5b901f3b338", checked := Try.checked }
namespace Rows
def none {H : Type} : Left H := { results := [], args := [] }

/-- 'armillarylaw9.GroupTells': WHATEVER THE INPUT: true; the input reads as it did. -/
def groupTellsSpec : ChangeSpec := { name := "groupTells", fn := fun _ => fun
  | [d1, d2, d3, d4, d5, d6] => { results := [.lit (.bool true)], args := [d1, d2, d3, d4, d5, d6] }
  | _ => none }
def groupTellsRow : OpenClaim := { program := "ytejpanipdjknjaa", sum := "9a25b4988923033bc67350c3f10aa17b6b6caba43c267aab98b4e5b901f3b338", func := "armillary/armillarylaw9.GroupTells", spec := "groupTells", unfollowed := true, recurses := true, plainKeys := false, apart := false }
def GroupTellsSaid : Prop := groupTellsRow.holds Try.pinned (OpenSpec.ofChange groupTellsSpec)

/-- ITS FALSE NEIGHBOUR: 'it returns false'. Refute it at one input. -/
def groupTellsWrong : ChangeSpec := { name := "groupTells", fn := fun _ => fun
  | [d1, d2, d3, d4, d5, d6] => { results := [.lit (.bool false)], args := [d1, d2, d3, d4, d5, d6] }
  | _ => none }
def GroupTellsWrongFalsely : Prop := groupTellsRow.holds Try.pinned (OpenSpec.ofChange groupTellsWrong)

/-- 'armillarylaw9.GroupKeys': WHATEVER THE INPUT: true; the input reads as it did. -/
def groupKeysSpec : ChangeSpec := { name := "groupKeys", fn := fun _ => fun
  | [d1, d2] => { results := [.lit (.bool true)], args := [d1, d2] }
  | _ => none }
def groupKeysRow : OpenClaim := { program := "ytejpanipdjknjaa", sum := "9a25b4988923033bc67350c3f10aa17b6b6caba43c267aab98b4e5b901f3b338", func := "armillary/armillarylaw9.GroupKeys", spec := "groupKeys", unfollowed := true, recurses := true, plainKeys := false, apart := false }
def GroupKeysSaid : Prop := groupKeysRow.holds Try.pinned (OpenSpec.ofChange groupKeysSpec)

/-- ITS FALSE NEIGHBOUR: 'it returns false'. Refute it at one input. -/
def groupKeysWrong : ChangeSpec := { name := "groupKeys", fn := fun _ => fun
  | [d1, d2] => { results := [.lit (.bool false)], args := [d1, d2] }
  | _ => none }
def GroupKeysWrongFalsely : Prop := groupKeysRow.holds Try.pinned (OpenSpec.ofChange groupKeysWrong)

/-- 'armillarylaw9.GroupFree': WHATEVER THE INPUT: true; the input reads as it did. -/
def groupFreeSpec : ChangeSpec := { name := "groupFree", fn := fun _ => fun
  | [d1, d2, d3] => { results := [.lit (.bool true)], args := [d1, d2, d3] }
  | _ => none }
def groupFreeRow : OpenClaim := { program := "ytejpanipdjknjaa", sum := "9a25b4988923033bc67350c3f10aa17b6b6caba43c267aab98b4e5b901f3b338", func := "armillary/armillarylaw9.GroupFree", spec := "groupFree", unfollowed := true, recurses := true, plainKeys := false, apart := false }
def GroupFreeSaid : Prop := groupFreeRow.holds Try.pinned (OpenSpec.ofChange groupFreeSpec)

/-- ITS FALSE NEIGHBOUR: 'it returns false'. Refute it at one input. -/
def groupFreeWrong : ChangeSpec := { name := "groupFree", fn := fun _ => fun
  | [d1, d2, d3] => { results := [.lit (.bool false)], args := [d1, d2, d3] }
  | _ => none }
def GroupFreeWrongFalsely : Prop := groupFreeRow.holds Try.pinned (OpenSpec.ofChange groupFreeWrong)

/-- 'armillarylaw9.GroupChunks': WHATEVER THE INPUT: true; the input reads as it did. -/
def groupChunksSpec : ChangeSpec := { name := "groupChunks", fn := fun _ => fun
  | [d1, d2, d3] => { results := [.lit (.bool true)], args := [d1, d2, d3] }
  | _ => none }
def groupChunksRow : OpenClaim := { program := "ytejpanipdjknjaa", sum := "9a25b4988923033bc67350c3f10aa17b6b6caba43c267aab98b4e5b901f3b338", func := "armillary/armillarylaw9.GroupChunks", spec := "groupChunks", unfollowed := true, recurses := true, plainKeys := false, apart := false }
def GroupChunksSaid : Prop := groupChunksRow.holds Try.pinned (OpenSpec.ofChange groupChunksSpec)

/-- ITS FALSE NEIGHBOUR: 'it returns false'. Refute it at one input. -/
def groupChunksWrong : ChangeSpec := { name := "groupChunks", fn := fun _ => fun
  | [d1, d2, d3] => { results := [.lit (.bool false)], args := [d1, d2, d3] }
  | _ => none }
def GroupChunksWrongFalsely : Prop := groupChunksRow.holds Try.pinned (OpenSpec.ofChange groupChunksWrong)

/-- 'armillarylaw9.GroupMins': WHATEVER THE INPUT: true; the input reads as it did. -/
def groupMinsSpec : ChangeSpec := { name := "groupMins", fn := fun _ => fun
  | [d1, d2, d3] => { results := [.lit (.bool true)], args := [d1, d2, d3] }
  | _ => none }
def groupMinsRow : OpenClaim := { program := "ytejpanipdjknjaa", sum := "9a25b4988923033bc67350c3f10aa17b6b6caba43c267aab98b4e5b901f3b338", func := "armillary/armillarylaw9.GroupMins", spec := "groupMins", unfollowed := true, recurses := true, plainKeys := false, apart := false }
def GroupMinsSaid : Prop := groupMinsRow.holds Try.pinned (OpenSpec.ofChange groupMinsSpec)

/-- ITS FALSE NEIGHBOUR: 'it returns false'. Refute it at one input. -/
def groupMinsWrong : ChangeSpec := { name := "groupMins", fn := fun _ => fun
  | [d1, d2, d3] => { results := [.lit (.bool false)], args := [d1, d2, d3] }
  | _ => none }
def GroupMinsWrongFalsely : Prop := groupMinsRow.holds Try.pinned (OpenSpec.ofChange groupMinsWrong)

/-- 'armillarylaw8.KeepTells': WHATEVER THE INPUT: true; the input reads as it did. -/
def keepTellsSpec : ChangeSpec := { name := "keepTells", fn := fun _ => fun
  | [d1, d2, d3, d4] => { results := [.lit (.bool true)], args := [d1, d2, d3, d4] }
  | _ => none }
def keepTellsRow : OpenClaim := { program := "ytejpanipdjknjaa", sum := "9a25b4988923033bc67350c3f10aa17b6b6caba43c267aab98b4e5b901f3b338", func := "armillary/armillarylaw8.KeepTells", spec := "keepTells", unfollowed := true, recurses := true, plainKeys := false, apart := false }
def KeepTellsSaid : Prop := keepTellsRow.holds Try.pinned (OpenSpec.ofChange keepTellsSpec)

/-- ITS FALSE NEIGHBOUR: 'it returns false'. Refute it at one input. -/
def keepTellsWrong : ChangeSpec := { name := "keepTells", fn := fun _ => fun
  | [d1, d2, d3, d4] => { results := [.lit (.bool false)], args := [d1, d2, d3, d4] }
  | _ => none }
def KeepTellsWrongFalsely : Prop := keepTellsRow.holds Try.pinned (OpenSpec.ofChange keepTellsWrong)

/-- 'armillarylaw8.KeepEnough': WHATEVER THE INPUT: true; the input reads as it did. -/
def keepEnoughSpec : ChangeSpec := { name := "keepEnough", fn := fun _ => fun
  | [d1, d2] => { results := [.lit (.bool true)], args := [d1, d2] }
  | _ => none }
def keepEnoughRow : OpenClaim := { program := "ytejpanipdjknjaa", sum := "9a25b4988923033bc67350c3f10aa17b6b6caba43c267aab98b4e5b901f3b338", func := "armillary/armillarylaw8.KeepEnough", spec := "keepEnough", unfollowed := true, recurses := true, plainKeys := false, apart := false }
def KeepEnoughSaid : Prop := keepEnoughRow.holds Try.pinned (OpenSpec.ofChange keepEnoughSpec)

/-- ITS FALSE NEIGHBOUR: 'it returns false'. Refute it at one input. -/
def keepEnoughWrong : ChangeSpec := { name := "keepEnough", fn := fun _ => fun
  | [d1, d2] => { results := [.lit (.bool false)], args := [d1, d2] }
  | _ => none }
def KeepEnoughWrongFalsely : Prop := keepEnoughRow.holds Try.pinned (OpenSpec.ofChange keepEnoughWrong)

/-- 'armillarylaw8.KeepLeast': WHATEVER THE INPUT: true; the input reads as it did. -/
def keepLeastSpec : ChangeSpec := { name := "keepLeast", fn := fun _ => fun
  | [d1, d2, d3] => { results := [.lit (.bool true)], args := [d1, d2, d3] }
  | _ => none }
def keepLeastRow : OpenClaim := { program := "ytejpanipdjknjaa", sum := "9a25b4988923033bc67350c3f10aa17b6b6caba43c267aab98b4e5b901f3b338", func := "armillary/armillarylaw8.KeepLeast", spec := "keepLeast", unfollowed := true, recurses := true, plainKeys := false, apart := false }
def KeepLeastSaid : Prop := keepLeastRow.holds Try.pinned (OpenSpec.ofChange keepLeastSpec)

/-- ITS FALSE NEIGHBOUR: 'it returns false'. Refute it at one input. -/
def keepLeastWrong : ChangeSpec := { name := "keepLeast", fn := fun _ => fun
  | [d1, d2, d3] => { results := [.lit (.bool false)], args := [d1, d2, d3] }
  | _ => none }
def KeepLeastWrongFalsely : Prop := keepLeastRow.holds Try.pinned (OpenSpec.ofChange keepLeastWrong)

/-- 'armillarylaw8.KeepFew': WHATEVER THE INPUT: true; the input reads as it did. -/
def keepFewSpec : ChangeSpec := { name := "keepFew", fn := fun _ => fun
  | [d1, d2] => { results := [.lit (.bool true)], args := [d1, d2] }
  | _ => none }
def keepFewRow : OpenClaim := { program := "ytejpanipdjknjaa", sum := "9a25b4988923033bc67350c3f10aa17b6b6caba43c267aab98b4e5b901f3b338", func := "armillary/armillarylaw8.KeepFew", spec := "keepFew", unfollowed := true, recurses := true, plainKeys := false, apart := false }
def KeepFewSaid : Prop := keepFewRow.holds Try.pinned (OpenSpec.ofChange keepFewSpec)

/-- ITS FALSE NEIGHBOUR: 'it returns false'. Refute it at one input. -/
def keepFewWrong : ChangeSpec := { name := "keepFew", fn := fun _ => fun
  | [d1, d2] => { results := [.lit (.bool false)], args := [d1, d2] }
  | _ => none }
def KeepFewWrongFalsely : Prop := keepFewRow.holds Try.pinned (OpenSpec.ofChange keepFewWrong)

/-- 'armillarylaw8.KeepSorts': WHATEVER THE INPUT: true; the input reads as it did. -/
def keepSortsSpec : ChangeSpec := { name := "keepSorts", fn := fun _ => fun
  | [d] => { results := [.lit (.bool true)], args := [d] }
  | _ => none }
def keepSortsRow : OpenClaim := { program := "ytejpanipdjknjaa", sum := "9a25b4988923033bc67350c3f10aa17b6b6caba43c267aab98b4e5b901f3b338", func := "armillary/armillarylaw8.KeepSorts", spec := "keepSorts", unfollowed := true, recurses := true, plainKeys := false, apart := false }
def KeepSortsSaid : Prop := keepSortsRow.holds Try.pinned (OpenSpec.ofChange keepSortsSpec)

/-- ITS FALSE NEIGHBOUR: 'it returns false'. Refute it at one input. -/
def keepSortsWrong : ChangeSpec := { name := "keepSorts", fn := fun _ => fun
  | [d] => { results := [.lit (.bool false)], args := [d] }
  | _ => none }
def KeepSortsWrongFalsely : Prop := keepSortsRow.holds Try.pinned (OpenSpec.ofChange keepSortsWrong)

/-- 'armillarylaw8.KeepMore': WHATEVER THE INPUT: true; the input reads as it did. -/
def keepMoreSpec : ChangeSpec := { name := "keepMore", fn := fun _ => fun
  | [d1, d2, d3] => { results := [.lit (.bool true)], args := [d1, d2, d3] }
  | _ => none }
def keepMoreRow : OpenClaim := { program := "ytejpanipdjknjaa", sum := "9a25b4988923033bc67350c3f10aa17b6b6caba43c267aab98b4e5b901f3b338", func := "armillary/armillarylaw8.KeepMore", spec := "keepMore", unfollowed := true, recurses := true, plainKeys := false, apart := false }
def KeepMoreSaid : Prop := keepMoreRow.holds Try.pinned (OpenSpec.ofChange keepMoreSpec)

/-- ITS FALSE NEIGHBOUR: 'it returns false'. Refute it at one input. -/
def keepMoreWrong : ChangeSpec := { name := "keepMore", fn := fun _ => fun
  | [d1, d2, d3] => { results := [.lit (.bool false)], args := [d1, d2, d3] }
  | _ => none }
def KeepMoreWrongFalsely : Prop := keepMoreRow.holds Try.pinned (OpenSpec.ofChange keepMoreWrong)

/- THE SECOND FORM. 'bulk': how many values and letters a reading holds, each counted each time it is reached (what is shared counts as often as it is met; a slice's spare places count too). A statement '..UptoSaid' is the law's where the arguments, and the package variables that the reading takes, are together of bulk at most 1048576: NARROWER than '..Said'. Prove '..Said' where nothing that the law and all that it calls make is longer than what came in: it says more and counts as full. Else prove '..UptoSaid'. A law counts once. -/
mutual
def uptoBulk {H : Type} : DataW H → Nat
  | .lit (.string bytes) => bytes.length + 1
  | .lit _ => 1
  | .nil => 1
  | .ptr d => uptoBulk d + 1
  | .slice elems spare => uptoBulkAll elems + uptoBulkAll spare + 1
  | .agg parts => uptoBulkAll parts + 1
  | .iface _ d => uptoBulk d + 1
  | .map entries => uptoBulkEntries entries + 1
  | .held _ => 1
def uptoBulkAll {H : Type} : List (DataW H) → Nat
  | [] => 0
  | d :: r => uptoBulk d + uptoBulkAll r
def uptoBulkEntries {H : Type} : List (Lit × DataW H) → Nat
  | [] => 0
  | x :: r => uptoBulkEntry x + uptoBulkEntries r
def uptoBulkEntry {H : Type} : Lit × DataW H → Nat
  | (.string bytes, d) => bytes.length + uptoBulk d + 1
  | (_, d) => uptoBulk d + 1
 end
def uptoSmall : (H : Type) → List (DataW H) → Bool := fun _ ds => decide (uptoBulkAll ds ≤ 1048576)
def OpenSpec.upto (s : _root_.Go.ChangeSpec) : _root_.Go.OpenSpec := { _root_.Go.OpenSpec.ofChange s with cond := some uptoSmall }

/-- 'armillarylaw9.GroupTells', WHERE WHAT IT READS IS OF BULK AT MOST 1048576: true; the input reads as it did. -/
def groupTellsUptoRow : OpenClaim := { program := "ytejpanipdjknjaa", sum := "9a25b4988923033bc67350c3f10aa17b6b6caba43c267aab98b4e5b901f3b338", func := "armillary/armillarylaw9.GroupTells", spec := "groupTells", unfollowed := true, recurses := true, plainKeys := false, apart := false, narrowed := true }
def GroupTellsUptoSaid : Prop := groupTellsUptoRow.holds Try.pinned (OpenSpec.upto groupTellsSpec)

/-- 'armillarylaw9.GroupKeys', WHERE WHAT IT READS IS OF BULK AT MOST 1048576: true; the input reads as it did. -/
def groupKeysUptoRow : OpenClaim := { program := "ytejpanipdjknjaa", sum := "9a25b4988923033bc67350c3f10aa17b6b6caba43c267aab98b4e5b901f3b338", func := "armillary/armillarylaw9.GroupKeys", spec := "groupKeys", unfollowed := true, recurses := true, plainKeys := false, apart := false, narrowed := true }
def GroupKeysUptoSaid : Prop := groupKeysUptoRow.holds Try.pinned (OpenSpec.upto groupKeysSpec)

/-- 'armillarylaw9.GroupFree', WHERE WHAT IT READS IS OF BULK AT MOST 1048576: true; the input reads as it did. -/
def groupFreeUptoRow : OpenClaim := { program := "ytejpanipdjknjaa", sum := "9a25b4988923033bc67350c3f10aa17b6b6caba43c267aab98b4e5b901f3b338", func := "armillary/armillarylaw9.GroupFree", spec := "groupFree", unfollowed := true, recurses := true, plainKeys := false, apart := false, narrowed := true }
def GroupFreeUptoSaid : Prop := groupFreeUptoRow.holds Try.pinned (OpenSpec.upto groupFreeSpec)

/-- 'armillarylaw9.GroupChunks', WHERE WHAT IT READS IS OF BULK AT MOST 1048576: true; the input reads as it did. -/
def groupChunksUptoRow : OpenClaim := { program := "ytejpanipdjknjaa", sum := "9a25b4988923033bc67350c3f10aa17b6b6caba43c267aab98b4e5b901f3b338", func := "armillary/armillarylaw9.GroupChunks", spec := "groupChunks", unfollowed := true, recurses := true, plainKeys := false, apart := false, narrowed := true }
def GroupChunksUptoSaid : Prop := groupChunksUptoRow.holds Try.pinned (OpenSpec.upto groupChunksSpec)

/-- 'armillarylaw9.GroupMins', WHERE WHAT IT READS IS OF BULK AT MOST 1048576: true; the input reads as it did. -/
def groupMinsUptoRow : OpenClaim := { program := "ytejpanipdjknjaa", sum := "9a25b4988923033bc67350c3f10aa17b6b6caba43c267aab98b4e5b901f3b338", func := "armillary/armillarylaw9.GroupMins", spec := "groupMins", unfollowed := true, recurses := true, plainKeys := false, apart := false, narrowed := true }
def GroupMinsUptoSaid : Prop := groupMinsUptoRow.holds Try.pinned (OpenSpec.upto groupMinsSpec)

/-- 'armillarylaw8.KeepTells', WHERE WHAT IT READS IS OF BULK AT MOST 1048576: true; the input reads as it did. -/
def keepTellsUptoRow : OpenClaim := { program := "ytejpanipdjknjaa", sum := "9a25b4988923033bc67350c3f10aa17b6b6caba43c267aab98b4e5b901f3b338", func := "armillary/armillarylaw8.KeepTells", spec := "keepTells", unfollowed := true, recurses := true, plainKeys := false, apart := false, narrowed := true }
def KeepTellsUptoSaid : Prop := keepTellsUptoRow.holds Try.pinned (OpenSpec.upto keepTellsSpec)

/-- 'armillarylaw8.KeepEnough', WHERE WHAT IT READS IS OF BULK AT MOST 1048576: true; the input reads as it did. -/
def keepEnoughUptoRow : OpenClaim := { program := "ytejpanipdjknjaa", sum := "9a25b4988923033bc67350c3f10aa17b6b6caba43c267aab98b4e5b901f3b338", func := "armillary/armillarylaw8.KeepEnough", spec := "keepEnough", unfollowed := true, recurses := true, plainKeys := false, apart := false, narrowed := true }
def KeepEnoughUptoSaid : Prop := keepEnoughUptoRow.holds Try.pinned (OpenSpec.upto keepEnoughSpec)

/-- 'armillarylaw8.KeepLeast', WHERE WHAT IT READS IS OF BULK AT MOST 1048576: true; the input reads as it did. -/
def keepLeastUptoRow : OpenClaim := { program := "ytejpanipdjknjaa", sum := "9a25b4988923033bc67350c3f10aa17b6b6caba43c267aab98b4e5b901f3b338", func := "armillary/armillarylaw8.KeepLeast", spec := "keepLeast", unfollowed := true, recurses := true, plainKeys := false, apart := false, narrowed := true }
def KeepLeastUptoSaid : Prop := keepLeastUptoRow.holds Try.pinned (OpenSpec.upto keepLeastSpec)

/-- 'armillarylaw8.KeepFew', WHERE WHAT IT READS IS OF BULK AT MOST 1048576: true; the input reads as it did. -/
def keepFewUptoRow : OpenClaim := { program := "ytejpanipdjknjaa", sum := "9a25b4988923033bc67350c3f10aa17b6b6caba43c267aab98b4e5b901f3b338", func := "armillary/armillarylaw8.KeepFew", spec := "keepFew", unfollowed := true, recurses := true, plainKeys := false, apart := false, narrowed := true }
def KeepFewUptoSaid : Prop := keepFewUptoRow.holds Try.pinned (OpenSpec.upto keepFewSpec)

/-- 'armillarylaw8.KeepSorts', WHERE WHAT IT READS IS OF BULK AT MOST 1048576: true; the input reads as it did. -/
def keepSortsUptoRow : OpenClaim := { program := "ytejpanipdjknjaa", sum := "9a25b4988923033bc67350c3f10aa17b6b6caba43c267aab98b4e5b901f3b338", func := "armillary/armillarylaw8.KeepSorts", spec := "keepSorts", unfollowed := true, recurses := true, plainKeys := false, apart := false, narrowed := true }
def KeepSortsUptoSaid : Prop := keepSortsUptoRow.holds Try.pinned (OpenSpec.upto keepSortsSpec)

/-- 'armillarylaw8.KeepMore', WHERE WHAT IT READS IS OF BULK AT MOST 1048576: true; the input reads as it did. -/
def keepMoreUptoRow : OpenClaim := { program := "ytejpanipdjknjaa", sum := "9a25b4988923033bc67350c3f10aa17b6b6caba43c267aab98b4e5b901f3b338", func := "armillary/armillarylaw8.KeepMore", spec := "keepMore", unfollowed := true, recurses := true, plainKeys := false, apart := false, narrowed := true }
def KeepMoreUptoSaid : Prop := keepMoreUptoRow.holds Try.pinned (OpenSpec.upto keepMoreSpec)

end Rows
end Go.Proofs.Ytejpanipdjknjaa
