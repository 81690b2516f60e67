/-
  No cell of these rows narrows 'for every input' (looked for: loops, veiled, ifaces, maps, wideKeys, modest, calm, conditions, laid).
  DERIVED. THE GIVEN ROWS OF THIS SEAT. 4 by the template 'for every input the law returns true; each argument reads behind the call as it read before'; 0 by the template 'total and deterministic' (their statements: YtbolanigdkgbdaaGreatTotals.lean).
  GIVEN WITH THE SEED: the statements are not yours to turn. If you find one false, say at which input.
  Laid BY PROGRAM, IN A SANDBOX (cutbox-rows.mjs): the forced cells as the released guide's own fill.sh prints them over the translation 2c7155252f78f5c3… (all of the seat's roots in one cut). By AI agents, Wed Nov 11 2026. No macro, syntax, notation, axiom, sorry.
-/
import Derived.Test.YtbolanigdkgbdaaGreatChecked
import GoSem.Claim
import GoSem.ClaimJoined
import GoSem.ClaimMapViews
import Derived.JoinedTies
import Derived.KernelRfl
namespace Go.Proofs.YtbolanigdkgbdaaGreat
/- THE CELL 'sum', in the pinned program and in every row, IS THE sha256 OF THE DUMP (.gsa) THAT YtbolanigdkgbdaaGreatProg.lean LOADS. Nothing in Lean hashes anything: it is a label: what it is worth is what the hold of that sum in a sandbox is worth. -/
noncomputable def Tryz.pinned : Pinned := { name := "ytbolanigdkgbdaagreat", sum := "2c7155252f78f5c37c448cc6a3db4ac20864e2430a0b324e7079587f17e2f25a", checked := Tryz.checked }
namespace Rows
def none {H : Type} : Left H := { results := [], args := [] }

/-- 'armillarylaw11.LookFinds': WHATEVER THE INPUT: true; the input reads as it did. -/
def lookFindsSpec : ChangeSpec := { name := "lookFinds", fn := fun _ => fun
  | [d1, d2, d3, d4, d5] => { results := [.lit (.bool true)], args := [d1, d2, d3, d4, d5] }
  | _ => none }
def lookFindsRow : OpenClaim := { program := "ytbolanigdkgbdaagreat", sum := "2c7155252f78f5c37c448cc6a3db4ac20864e2430a0b324e7079587f17e2f25a", func := "armillary/armillarylaw11.LookFinds", spec := "lookFinds", unfollowed := true, recurses := true, apart := false }
def LookFindsSaid : Prop := lookFindsRow.holds Tryz.pinned (OpenSpec.ofChange lookFindsSpec)

/-- ITS FALSE NEIGHBOUR: 'it returns false'. Refute it at one input. -/
def lookFindsWrong : ChangeSpec := { name := "lookFinds", fn := fun _ => fun
  | [d1, d2, d3, d4, d5] => { results := [.lit (.bool false)], args := [d1, d2, d3, d4, d5] }
  | _ => none }
def LookFindsWrongFalsely : Prop := lookFindsRow.holds Tryz.pinned (OpenSpec.ofChange lookFindsWrong)

/-- 'armillarylaw11.LookMost': WHATEVER THE INPUT: true; the input reads as it did. -/
def lookMostSpec : ChangeSpec := { name := "lookMost", fn := fun _ => fun
  | [d1, d2, d3, d4, d5] => { results := [.lit (.bool true)], args := [d1, d2, d3, d4, d5] }
  | _ => none }
def lookMostRow : OpenClaim := { program := "ytbolanigdkgbdaagreat", sum := "2c7155252f78f5c37c448cc6a3db4ac20864e2430a0b324e7079587f17e2f25a", func := "armillary/armillarylaw11.LookMost", spec := "lookMost", unfollowed := true, recurses := true, apart := false }
def LookMostSaid : Prop := lookMostRow.holds Tryz.pinned (OpenSpec.ofChange lookMostSpec)

/-- ITS FALSE NEIGHBOUR: 'it returns false'. Refute it at one input. -/
def lookMostWrong : ChangeSpec := { name := "lookMost", fn := fun _ => fun
  | [d1, d2, d3, d4, d5] => { results := [.lit (.bool false)], args := [d1, d2, d3, d4, d5] }
  | _ => none }
def LookMostWrongFalsely : Prop := lookMostRow.holds Tryz.pinned (OpenSpec.ofChange lookMostWrong)

/-- 'armillarylaw11.LookTells': WHATEVER THE INPUT: true; the input reads as it did. -/
def lookTellsSpec : ChangeSpec := { name := "lookTells", fn := fun _ => fun
  | [d1, d2, d3, d4, d5, d6] => { results := [.lit (.bool true)], args := [d1, d2, d3, d4, d5, d6] }
  | _ => none }
def lookTellsRow : OpenClaim := { program := "ytbolanigdkgbdaagreat", sum := "2c7155252f78f5c37c448cc6a3db4ac20864e2430a0b324e7079587f17e2f25a", func := "armillary/armillarylaw11.LookTells", spec := "lookTells", unfollowed := true, recurses := true, apart := false }
def LookTellsSaid : Prop := lookTellsRow.holds Tryz.pinned (OpenSpec.ofChange lookTellsSpec)

/-- ITS FALSE NEIGHBOUR: 'it returns false'. Refute it at one input. -/
def lookTellsWrong : ChangeSpec := { name := "lookTells", fn := fun _ => fun
  | [d1, d2, d3, d4, d5, d6] => { results := [.lit (.bool false)], args := [d1, d2, d3, d4, d5, d6] }
  | _ => none }
def LookTellsWrongFalsely : Prop := lookTellsRow.holds Tryz.pinned (OpenSpec.ofChange lookTellsWrong)

/-- 'armillarylaw11.LookOnce': WHATEVER THE INPUT: true; the input reads as it did. -/
def lookOnceSpec : ChangeSpec := { name := "lookOnce", fn := fun _ => fun
  | [d1, d2] => { results := [.lit (.bool true)], args := [d1, d2] }
  | _ => none }
def lookOnceRow : OpenClaim := { program := "ytbolanigdkgbdaagreat", sum := "2c7155252f78f5c37c448cc6a3db4ac20864e2430a0b324e7079587f17e2f25a", func := "armillary/armillarylaw11.LookOnce", spec := "lookOnce", unfollowed := true, recurses := true, apart := false }
def LookOnceSaid : Prop := lookOnceRow.holds Tryz.pinned (OpenSpec.ofChange lookOnceSpec)

/-- ITS FALSE NEIGHBOUR: 'it returns false'. Refute it at one input. -/
def lookOnceWrong : ChangeSpec := { name := "lookOnce", fn := fun _ => fun
  | [d1, d2] => { results := [.lit (.bool false)], args := [d1, d2] }
  | _ => none }
def LookOnceWrongFalsely : Prop := lookOnceRow.holds Tryz.pinned (OpenSpec.ofChange lookOnceWrong)

/- THE SECOND FORM. 'bulk': how many values and letters a reading holds, each counted each time it is reached (what is shared counts as often as it is met; a slice's spare places count too). A statement '..UptoSaid' is the law's where the arguments, and the package variables that the reading takes, are together of bulk at most 1048576: NARROWER than '..Said'. Prove '..Said' where nothing that the law and all that it calls make is longer than what came in: it says more and counts as full. Else prove '..UptoSaid'. A law counts once. -/
mutual
def uptoBulk {H : Type} : DataW H → Nat
  | .lit (.string bytes) => bytes.length + 1
  | .lit _ => 1
  | .nil => 1
  | .ptr d => uptoBulk d + 1
  | .slice elems spare => uptoBulkAll elems + uptoBulkAll spare + 1
  | .agg parts => uptoBulkAll parts + 1
  | .iface _ d => uptoBulk d + 1
  | .map entries => uptoBulkEntries entries + 1
  | .held _ => 1
def uptoBulkAll {H : Type} : List (DataW H) → Nat
  | [] => 0
  | d :: r => uptoBulk d + uptoBulkAll r
def uptoBulkEntries {H : Type} : List (Lit × DataW H) → Nat
  | [] => 0
  | x :: r => uptoBulkEntry x + uptoBulkEntries r
def uptoBulkEntry {H : Type} : Lit × DataW H → Nat
  | (.string bytes, d) => bytes.length + uptoBulk d + 1
  | (_, d) => uptoBulk d + 1
 end
def uptoSmall : (H : Type) → List (DataW H) → Bool := fun _ ds => decide (uptoBulkAll ds ≤ 1048576)
def OpenSpec.upto (s : _root_.Go.ChangeSpec) : _root_.Go.OpenSpec := { _root_.Go.OpenSpec.ofChange s with cond := some uptoSmall }

/-- 'armillarylaw11.LookFinds', WHERE WHAT IT READS IS OF BULK AT MOST 1048576: true; the input reads as it did. -/
def lookFindsUptoRow : OpenClaim := { program := "ytbolanigdkgbdaagreat", sum := "2c7155252f78f5c37c448cc6a3db4ac20864e2430a0b324e7079587f17e2f25a", func := "armillary/armillarylaw11.LookFinds", spec := "lookFinds", unfollowed := true, recurses := true, apart := false, narrowed := true }
def LookFindsUptoSaid : Prop := lookFindsUptoRow.holds Tryz.pinned (OpenSpec.upto lookFindsSpec)

/-- 'armillarylaw11.LookMost', WHERE WHAT IT READS IS OF BULK AT MOST 1048576: true; the input reads as it did. -/
def lookMostUptoRow : OpenClaim := { program := "ytbolanigdkgbdaagreat", sum := "2c7155252f78f5c37c448cc6a3db4ac20864e2430a0b324e7079587f17e2f25a", func := "armillary/armillarylaw11.LookMost", spec := "lookMost", unfollowed := true, recurses := true, apart := false, narrowed := true }
def LookMostUptoSaid : Prop := lookMostUptoRow.holds Tryz.pinned (OpenSpec.upto lookMostSpec)

/-- 'armillarylaw11.LookTells', WHERE WHAT IT READS IS OF BULK AT MOST 1048576: true; the input reads as it did. -/
def lookTellsUptoRow : OpenClaim := { program := "ytbolanigdkgbdaagreat", sum := "2c7155252f78f5c37c448cc6a3db4ac20864e2430a0b324e7079587f17e2f25a", func := "armillary/armillarylaw11.LookTells", spec := "lookTells", unfollowed := true, recurses := true, apart := false, narrowed := true }
def LookTellsUptoSaid : Prop := lookTellsUptoRow.holds Tryz.pinned (OpenSpec.upto lookTellsSpec)

/-- 'armillarylaw11.LookOnce', WHERE WHAT IT READS IS OF BULK AT MOST 1048576: true; the input reads as it did. -/
def lookOnceUptoRow : OpenClaim := { program := "ytbolanigdkgbdaagreat", sum := "2c7155252f78f5c37c448cc6a3db4ac20864e2430a0b324e7079587f17e2f25a", func := "armillary/armillarylaw11.LookOnce", spec := "lookOnce", unfollowed := true, recurses := true, apart := false, narrowed := true }
def LookOnceUptoSaid : Prop := lookOnceUptoRow.holds Tryz.pinned (OpenSpec.upto lookOnceSpec)

end Rows
end Go.Proofs.YtbolanigdkgbdaaGreat
