/-
  No cell of these rows narrows 'for every input' (looked for: loops, veiled, ifaces, maps, wideKeys, modest, calm, conditions, laid).
  DERIVED. THE GIVEN ROWS OF THIS SEAT. 6 by the template 'for every input the law returns true; each argument reads behind the call as it read before'; 0 by the template 'total and deterministic' (their statements: YtbbgahffcjbloaaGreatTotals.lean).
  GIVEN WITH THE SEED: the statements are not yours to turn. If you find one false, say at which input.
  Laid BY PROGRAM, IN A SANDBOX (cutbox-rows.mjs): the forced cells as the released guide's own fill.sh prints them over the translation 2156f5b6482586d9… (all of the seat's roots in one cut). By AI agents, Wed Nov 11 2026. No macro, syntax, notation, axiom, sorry.
-/
import Derived.Test.YtbbgahffcjbloaaGreatChecked
import GoSem.Claim
import GoSem.ClaimJoined
import GoSem.ClaimMapViews
import Derived.JoinedTies
import Derived.KernelRfl
namespace Go.Proofs.YtbbgahffcjbloaaGreat
/- THE CELL 'sum', in the pinned program and in every row, IS THE sha256 OF THE DUMP (.gsa) THAT YtbbgahffcjbloaaGreatProg.lean LOADS. Nothing in Lean hashes anything: it is a label: what it is worth is what the hold of that sum in a sandbox is worth. -/
noncomputable def Tryz.pinned : Pinned := { name := "ytbbgahffcjbloaagreat", sum := "2156f5b6482586d97567532022d410d6673598aa07196a8e953f457d5a5f11e3", checked := Tryz.checked }
namespace Rows
def none {H : Type} : Left H := { results := [], args := [] }

/-- 'lockgatelaw18.FsckSizes': WHATEVER THE INPUT: true; the input reads as it did. -/
def fsckSizesSpec : ChangeSpec := { name := "fsckSizes", fn := fun _ => fun
  | [d1, d2] => { results := [.lit (.bool true)], args := [d1, d2] }
  | _ => none }
def fsckSizesRow : OpenClaim := { program := "ytbbgahffcjbloaagreat", sum := "2156f5b6482586d97567532022d410d6673598aa07196a8e953f457d5a5f11e3", func := "lockgate/lockgatelaw18.FsckSizes", spec := "fsckSizes", inPlace := ["internal/bytealg.IndexByteString"], unfollowed := true, recurses := true, apart := false }
def FsckSizesSaid : Prop := fsckSizesRow.holds Tryz.pinned (OpenSpec.ofChange fsckSizesSpec)

/-- ITS FALSE NEIGHBOUR: 'it returns false'. Refute it at one input. -/
def fsckSizesWrong : ChangeSpec := { name := "fsckSizes", fn := fun _ => fun
  | [d1, d2] => { results := [.lit (.bool false)], args := [d1, d2] }
  | _ => none }
def FsckSizesWrongFalsely : Prop := fsckSizesRow.holds Tryz.pinned (OpenSpec.ofChange fsckSizesWrong)

/-- 'lockgatelaw18.FsckRepairs': WHATEVER THE INPUT: true; the input reads as it did. -/
def fsckRepairsSpec : ChangeSpec := { name := "fsckRepairs", fn := fun _ => fun
  | [d] => { results := [.lit (.bool true)], args := [d] }
  | _ => none }
def fsckRepairsRow : OpenClaim := { program := "ytbbgahffcjbloaagreat", sum := "2156f5b6482586d97567532022d410d6673598aa07196a8e953f457d5a5f11e3", func := "lockgate/lockgatelaw18.FsckRepairs", spec := "fsckRepairs", inPlace := ["internal/bytealg.IndexByteString"], unfollowed := true, recurses := true, apart := false }
def FsckRepairsSaid : Prop := fsckRepairsRow.holds Tryz.pinned (OpenSpec.ofChange fsckRepairsSpec)

/-- ITS FALSE NEIGHBOUR: 'it returns false'. Refute it at one input. -/
def fsckRepairsWrong : ChangeSpec := { name := "fsckRepairs", fn := fun _ => fun
  | [d] => { results := [.lit (.bool false)], args := [d] }
  | _ => none }
def FsckRepairsWrongFalsely : Prop := fsckRepairsRow.holds Tryz.pinned (OpenSpec.ofChange fsckRepairsWrong)

/-- 'lockgatelaw18.FsckTwice': WHATEVER THE INPUT: true; the input reads as it did. -/
def fsckTwiceSpec : ChangeSpec := { name := "fsckTwice", fn := fun _ => fun
  | [d] => { results := [.lit (.bool true)], args := [d] }
  | _ => none }
def fsckTwiceRow : OpenClaim := { program := "ytbbgahffcjbloaagreat", sum := "2156f5b6482586d97567532022d410d6673598aa07196a8e953f457d5a5f11e3", func := "lockgate/lockgatelaw18.FsckTwice", spec := "fsckTwice", inPlace := ["internal/bytealg.IndexByteString"], unfollowed := true, recurses := true, apart := false }
def FsckTwiceSaid : Prop := fsckTwiceRow.holds Tryz.pinned (OpenSpec.ofChange fsckTwiceSpec)

/-- ITS FALSE NEIGHBOUR: 'it returns false'. Refute it at one input. -/
def fsckTwiceWrong : ChangeSpec := { name := "fsckTwice", fn := fun _ => fun
  | [d] => { results := [.lit (.bool false)], args := [d] }
  | _ => none }
def FsckTwiceWrongFalsely : Prop := fsckTwiceRow.holds Tryz.pinned (OpenSpec.ofChange fsckTwiceWrong)

/-- 'lockgatelaw18.FsckKeeps': WHATEVER THE INPUT: true; the input reads as it did. -/
def fsckKeepsSpec : ChangeSpec := { name := "fsckKeeps", fn := fun _ => fun
  | [d1, d2, d3, d4] => { results := [.lit (.bool true)], args := [d1, d2, d3, d4] }
  | _ => none }
def fsckKeepsRow : OpenClaim := { program := "ytbbgahffcjbloaagreat", sum := "2156f5b6482586d97567532022d410d6673598aa07196a8e953f457d5a5f11e3", func := "lockgate/lockgatelaw18.FsckKeeps", spec := "fsckKeeps", inPlace := ["internal/bytealg.IndexByteString"], unfollowed := true, recurses := true, apart := false }
def FsckKeepsSaid : Prop := fsckKeepsRow.holds Tryz.pinned (OpenSpec.ofChange fsckKeepsSpec)

/-- ITS FALSE NEIGHBOUR: 'it returns false'. Refute it at one input. -/
def fsckKeepsWrong : ChangeSpec := { name := "fsckKeeps", fn := fun _ => fun
  | [d1, d2, d3, d4] => { results := [.lit (.bool false)], args := [d1, d2, d3, d4] }
  | _ => none }
def FsckKeepsWrongFalsely : Prop := fsckKeepsRow.holds Tryz.pinned (OpenSpec.ofChange fsckKeepsWrong)

/-- 'lockgatelaw18.FsckTwins': WHATEVER THE INPUT: true; the input reads as it did. -/
def fsckTwinsSpec : ChangeSpec := { name := "fsckTwins", fn := fun _ => fun
  | [d1, d2, d3] => { results := [.lit (.bool true)], args := [d1, d2, d3] }
  | _ => none }
def fsckTwinsRow : OpenClaim := { program := "ytbbgahffcjbloaagreat", sum := "2156f5b6482586d97567532022d410d6673598aa07196a8e953f457d5a5f11e3", func := "lockgate/lockgatelaw18.FsckTwins", spec := "fsckTwins", inPlace := ["internal/bytealg.IndexByteString"], unfollowed := true, recurses := true, apart := false }
def FsckTwinsSaid : Prop := fsckTwinsRow.holds Tryz.pinned (OpenSpec.ofChange fsckTwinsSpec)

/-- ITS FALSE NEIGHBOUR: 'it returns false'. Refute it at one input. -/
def fsckTwinsWrong : ChangeSpec := { name := "fsckTwins", fn := fun _ => fun
  | [d1, d2, d3] => { results := [.lit (.bool false)], args := [d1, d2, d3] }
  | _ => none }
def FsckTwinsWrongFalsely : Prop := fsckTwinsRow.holds Tryz.pinned (OpenSpec.ofChange fsckTwinsWrong)

/-- 'lockgatelaw18.FsckRoot': WHATEVER THE INPUT: true; the input reads as it did. -/
def fsckRootSpec : ChangeSpec := { name := "fsckRoot", fn := fun _ => fun
  | [d1, d2] => { results := [.lit (.bool true)], args := [d1, d2] }
  | _ => none }
def fsckRootRow : OpenClaim := { program := "ytbbgahffcjbloaagreat", sum := "2156f5b6482586d97567532022d410d6673598aa07196a8e953f457d5a5f11e3", func := "lockgate/lockgatelaw18.FsckRoot", spec := "fsckRoot", inPlace := ["internal/bytealg.IndexByteString"], unfollowed := true, recurses := true, apart := false }
def FsckRootSaid : Prop := fsckRootRow.holds Tryz.pinned (OpenSpec.ofChange fsckRootSpec)

/-- ITS FALSE NEIGHBOUR: 'it returns false'. Refute it at one input. -/
def fsckRootWrong : ChangeSpec := { name := "fsckRoot", fn := fun _ => fun
  | [d1, d2] => { results := [.lit (.bool false)], args := [d1, d2] }
  | _ => none }
def FsckRootWrongFalsely : Prop := fsckRootRow.holds Tryz.pinned (OpenSpec.ofChange fsckRootWrong)

/- THE SECOND FORM. 'bulk': how many values and letters a reading holds, each counted each time it is reached (what is shared counts as often as it is met; a slice's spare places count too). A statement '..UptoSaid' is the law's where the arguments, and the package variables that the reading takes, are together of bulk at most 1048576: NARROWER than '..Said'. Prove '..Said' where nothing that the law and all that it calls make is longer than what came in: it says more and counts as full. Else prove '..UptoSaid'. A law counts once. -/
mutual
def uptoBulk {H : Type} : DataW H → Nat
  | .lit (.string bytes) => bytes.length + 1
  | .lit _ => 1
  | .nil => 1
  | .ptr d => uptoBulk d + 1
  | .slice elems spare => uptoBulkAll elems + uptoBulkAll spare + 1
  | .agg parts => uptoBulkAll parts + 1
  | .iface _ d => uptoBulk d + 1
  | .map entries => uptoBulkEntries entries + 1
  | .held _ => 1
def uptoBulkAll {H : Type} : List (DataW H) → Nat
  | [] => 0
  | d :: r => uptoBulk d + uptoBulkAll r
def uptoBulkEntries {H : Type} : List (Lit × DataW H) → Nat
  | [] => 0
  | x :: r => uptoBulkEntry x + uptoBulkEntries r
def uptoBulkEntry {H : Type} : Lit × DataW H → Nat
  | (.string bytes, d) => bytes.length + uptoBulk d + 1
  | (_, d) => uptoBulk d + 1
 end
def uptoSmall : (H : Type) → List (DataW H) → Bool := fun _ ds => decide (uptoBulkAll ds ≤ 1048576)
def OpenSpec.upto (s : _root_.Go.ChangeSpec) : _root_.Go.OpenSpec := { _root_.Go.OpenSpec.ofChange s with cond := some uptoSmall }

/-- 'lockgatelaw18.FsckSizes', WHERE WHAT IT READS IS OF BULK AT MOST 1048576: true; the input reads as it did. -/
def fsckSizesUptoRow : OpenClaim := { program := "ytbbgahffcjbloaagreat", sum := "2156f5b6482586d97567532022d410d6673598aa07196a8e953f457d5a5f11e3", func := "lockgate/lockgatelaw18.FsckSizes", spec := "fsckSizes", inPlace := ["internal/bytealg.IndexByteString"], unfollowed := true, recurses := true, apart := false, narrowed := true }
def FsckSizesUptoSaid : Prop := fsckSizesUptoRow.holds Tryz.pinned (OpenSpec.upto fsckSizesSpec)

/-- 'lockgatelaw18.FsckRepairs', WHERE WHAT IT READS IS OF BULK AT MOST 1048576: true; the input reads as it did. -/
def fsckRepairsUptoRow : OpenClaim := { program := "ytbbgahffcjbloaagreat", sum := "2156f5b6482586d97567532022d410d6673598aa07196a8e953f457d5a5f11e3", func := "lockgate/lockgatelaw18.FsckRepairs", spec := "fsckRepairs", inPlace := ["internal/bytealg.IndexByteString"], unfollowed := true, recurses := true, apart := false, narrowed := true }
def FsckRepairsUptoSaid : Prop := fsckRepairsUptoRow.holds Tryz.pinned (OpenSpec.upto fsckRepairsSpec)

/-- 'lockgatelaw18.FsckTwice', WHERE WHAT IT READS IS OF BULK AT MOST 1048576: true; the input reads as it did. -/
def fsckTwiceUptoRow : OpenClaim := { program := "ytbbgahffcjbloaagreat", sum := "2156f5b6482586d97567532022d410d6673598aa07196a8e953f457d5a5f11e3", func := "lockgate/lockgatelaw18.FsckTwice", spec := "fsckTwice", inPlace := ["internal/bytealg.IndexByteString"], unfollowed := true, recurses := true, apart := false, narrowed := true }
def FsckTwiceUptoSaid : Prop := fsckTwiceUptoRow.holds Tryz.pinned (OpenSpec.upto fsckTwiceSpec)

/-- 'lockgatelaw18.FsckKeeps', WHERE WHAT IT READS IS OF BULK AT MOST 1048576: true; the input reads as it did. -/
def fsckKeepsUptoRow : OpenClaim := { program := "ytbbgahffcjbloaagreat", sum := "2156f5b6482586d97567532022d410d6673598aa07196a8e953f457d5a5f11e3", func := "lockgate/lockgatelaw18.FsckKeeps", spec := "fsckKeeps", inPlace := ["internal/bytealg.IndexByteString"], unfollowed := true, recurses := true, apart := false, narrowed := true }
def FsckKeepsUptoSaid : Prop := fsckKeepsUptoRow.holds Tryz.pinned (OpenSpec.upto fsckKeepsSpec)

/-- 'lockgatelaw18.FsckTwins', WHERE WHAT IT READS IS OF BULK AT MOST 1048576: true; the input reads as it did. -/
def fsckTwinsUptoRow : OpenClaim := { program := "ytbbgahffcjbloaagreat", sum := "2156f5b6482586d97567532022d410d6673598aa07196a8e953f457d5a5f11e3", func := "lockgate/lockgatelaw18.FsckTwins", spec := "fsckTwins", inPlace := ["internal/bytealg.IndexByteString"], unfollowed := true, recurses := true, apart := false, narrowed := true }
def FsckTwinsUptoSaid : Prop := fsckTwinsUptoRow.holds Tryz.pinned (OpenSpec.upto fsckTwinsSpec)

/-- 'lockgatelaw18.FsckRoot', WHERE WHAT IT READS IS OF BULK AT MOST 1048576: true; the input reads as it did. -/
def fsckRootUptoRow : OpenClaim := { program := "ytbbgahffcjbloaagreat", sum := "2156f5b6482586d97567532022d410d6673598aa07196a8e953f457d5a5f11e3", func := "lockgate/lockgatelaw18.FsckRoot", spec := "fsckRoot", inPlace := ["internal/bytealg.IndexByteString"], unfollowed := true, recurses := true, apart := false, narrowed := true }
def FsckRootUptoSaid : Prop := fsckRootUptoRow.holds Tryz.pinned (OpenSpec.upto fsckRootSpec)

end Rows
end Go.Proofs.YtbbgahffcjbloaaGreat
