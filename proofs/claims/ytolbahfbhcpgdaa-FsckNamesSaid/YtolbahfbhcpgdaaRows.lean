/-
  No cell of these rows narrows 'for every input' (looked for: loops, veiled, ifaces, maps, wideKeys, modest, calm, conditions, laid).
  DERIVED. THE GIVEN ROWS OF THIS SEAT. 4 by the template 'for every input the law returns true; each argument reads behind the call as it read before'; 0 by the template 'total and deterministic' (their statements: YtolbahfbhcpgdaaTotals.lean).
  GIVEN WITH THE SEED: the statements are not yours to turn. If you find one false, say at which input.
  Laid BY PROGRAM, IN A SANDBOX (cutbox-rows.mjs): the forced cells as the released guide's own fill.sh prints them over the translation da9d2a1c60219161… (all of the seat's roots in one cut). By AI agents, Wed Nov 11 2026. No macro, syntax, notation, axiom, sorry.
-/
import Derived.Test.YtolbahfbhcpgdaaChecked
import GoSem.Claim
import GoSem.ClaimJoined
import GoSem.ClaimMapViews
import Derived.JoinedTies
import Derived.KernelRfl
namespace Go.Proofs.Ytolbahfbhcpgdaa
/- THE CELL 'sum', in the pinned program and in every row, IS THE sha256 OF THE DUMP (.gsa) THAT YtolbahfbhcpgdaaProg.lean LOADS. Nothing in Lean hashes anything: it is a label: what it is worth is what the hold of that sum in a sandbox is worth. -/
noncomputable def Try.pinned : Pinned := { name := "ytolbahfbhcpgdaa", sum := "da9d2a1c60219161ed66e4cc8c0dd6bdaf37d504471e5a332f8e6eeb8d527fe0", checked := Try.checked }
namespace Rows
def none {H : Type} : Left H := { results := [], args := [] }

/-- 'lockgatelaw18.FsckHeads': WHATEVER THE INPUT: true; the input reads as it did. -/
def fsckHeadsSpec : ChangeSpec := { name := "fsckHeads", fn := fun _ => fun
  | [d1, d2, d3] => { results := [.lit (.bool true)], args := [d1, d2, d3] }
  | _ => none }
def fsckHeadsRow : OpenClaim := { program := "ytolbahfbhcpgdaa", sum := "da9d2a1c60219161ed66e4cc8c0dd6bdaf37d504471e5a332f8e6eeb8d527fe0", func := "lockgate/lockgatelaw18.FsckHeads", spec := "fsckHeads", inPlace := ["internal/bytealg.IndexByteString"], unfollowed := true, recurses := true, apart := false }
def FsckHeadsSaid : Prop := fsckHeadsRow.holds Try.pinned (OpenSpec.ofChange fsckHeadsSpec)

/-- ITS FALSE NEIGHBOUR: 'it returns false'. Refute it at one input. -/
def fsckHeadsWrong : ChangeSpec := { name := "fsckHeads", fn := fun _ => fun
  | [d1, d2, d3] => { results := [.lit (.bool false)], args := [d1, d2, d3] }
  | _ => none }
def FsckHeadsWrongFalsely : Prop := fsckHeadsRow.holds Try.pinned (OpenSpec.ofChange fsckHeadsWrong)

/-- 'lockgatelaw18.FsckLinks': WHATEVER THE INPUT: true; the input reads as it did. -/
def fsckLinksSpec : ChangeSpec := { name := "fsckLinks", fn := fun _ => fun
  | [d1, d2] => { results := [.lit (.bool true)], args := [d1, d2] }
  | _ => none }
def fsckLinksRow : OpenClaim := { program := "ytolbahfbhcpgdaa", sum := "da9d2a1c60219161ed66e4cc8c0dd6bdaf37d504471e5a332f8e6eeb8d527fe0", func := "lockgate/lockgatelaw18.FsckLinks", spec := "fsckLinks", inPlace := ["internal/bytealg.IndexByteString"], unfollowed := true, recurses := true, apart := false }
def FsckLinksSaid : Prop := fsckLinksRow.holds Try.pinned (OpenSpec.ofChange fsckLinksSpec)

/-- ITS FALSE NEIGHBOUR: 'it returns false'. Refute it at one input. -/
def fsckLinksWrong : ChangeSpec := { name := "fsckLinks", fn := fun _ => fun
  | [d1, d2] => { results := [.lit (.bool false)], args := [d1, d2] }
  | _ => none }
def FsckLinksWrongFalsely : Prop := fsckLinksRow.holds Try.pinned (OpenSpec.ofChange fsckLinksWrong)

/-- 'lockgatelaw18.FsckLoops': WHATEVER THE INPUT: true; the input reads as it did. -/
def fsckLoopsSpec : ChangeSpec := { name := "fsckLoops", fn := fun _ => fun
  | [d1, d2] => { results := [.lit (.bool true)], args := [d1, d2] }
  | _ => none }
def fsckLoopsRow : OpenClaim := { program := "ytolbahfbhcpgdaa", sum := "da9d2a1c60219161ed66e4cc8c0dd6bdaf37d504471e5a332f8e6eeb8d527fe0", func := "lockgate/lockgatelaw18.FsckLoops", spec := "fsckLoops", inPlace := ["internal/bytealg.IndexByteString"], unfollowed := true, recurses := true, apart := false }
def FsckLoopsSaid : Prop := fsckLoopsRow.holds Try.pinned (OpenSpec.ofChange fsckLoopsSpec)

/-- ITS FALSE NEIGHBOUR: 'it returns false'. Refute it at one input. -/
def fsckLoopsWrong : ChangeSpec := { name := "fsckLoops", fn := fun _ => fun
  | [d1, d2] => { results := [.lit (.bool false)], args := [d1, d2] }
  | _ => none }
def FsckLoopsWrongFalsely : Prop := fsckLoopsRow.holds Try.pinned (OpenSpec.ofChange fsckLoopsWrong)

/-- 'lockgatelaw18.FsckNames': WHATEVER THE INPUT: true; the input reads as it did. -/
def fsckNamesSpec : ChangeSpec := { name := "fsckNames", fn := fun _ => fun
  | [d1, d2] => { results := [.lit (.bool true)], args := [d1, d2] }
  | _ => none }
def fsckNamesRow : OpenClaim := { program := "ytolbahfbhcpgdaa", sum := "da9d2a1c60219161ed66e4cc8c0dd6bdaf37d504471e5a332f8e6eeb8d527fe0", func := "lockgate/lockgatelaw18.FsckNames", spec := "fsckNames", inPlace := ["internal/bytealg.IndexByteString"], unfollowed := true, recurses := true, apart := false }
def FsckNamesSaid : Prop := fsckNamesRow.holds Try.pinned (OpenSpec.ofChange fsckNamesSpec)

/-- ITS FALSE NEIGHBOUR: 'it returns false'. Refute it at one input. -/
def fsckNamesWrong : ChangeSpec := { name := "fsckNames", fn := fun _ => fun
  | [d1, d2] => { results := [.lit (.bool false)], args := [d1, d2] }
  | _ => none }
def FsckNamesWrongFalsely : Prop := fsckNamesRow.holds Try.pinned (OpenSpec.ofChange fsckNamesWrong)

/- THE SECOND FORM. 'bulk': how many values and letters a reading holds, each counted each time it is reached (what is shared counts as often as it is met; a slice's spare places count too). A statement '..UptoSaid' is the law's where the arguments, and the package variables that the reading takes, are together of bulk at most 1048576: NARROWER than '..Said'. Prove '..Said' where nothing that the law and all that it calls make is longer than what came in: it says more and counts as full. Else prove '..UptoSaid'. A law counts once. -/
mutual
def uptoBulk {H : Type} : DataW H → Nat
  | .lit (.string bytes) => bytes.length + 1
  | .lit _ => 1
  | .nil => 1
  | .ptr d => uptoBulk d + 1
  | .slice elems spare => uptoBulkAll elems + uptoBulkAll spare + 1
  | .agg parts => uptoBulkAll parts + 1
  | .iface _ d => uptoBulk d + 1
  | .map entries => uptoBulkEntries entries + 1
  | .held _ => 1
def uptoBulkAll {H : Type} : List (DataW H) → Nat
  | [] => 0
  | d :: r => uptoBulk d + uptoBulkAll r
def uptoBulkEntries {H : Type} : List (Lit × DataW H) → Nat
  | [] => 0
  | x :: r => uptoBulkEntry x + uptoBulkEntries r
def uptoBulkEntry {H : Type} : Lit × DataW H → Nat
  | (.string bytes, d) => bytes.length + uptoBulk d + 1
  | (_, d) => uptoBulk d + 1
 end
def uptoSmall : (H : Type) → List (DataW H) → Bool := fun _ ds => decide (uptoBulkAll ds ≤ 1048576)
def OpenSpec.upto (s : _root_.Go.ChangeSpec) : _root_.Go.OpenSpec := { _root_.Go.OpenSpec.ofChange s with cond := some uptoSmall }

/-- 'lockgatelaw18.FsckHeads', WHERE WHAT IT READS IS OF BULK AT MOST 1048576: true; the input reads as it did. -/
def fsckHeadsUptoRow : OpenClaim := { program := "ytolbahfbhcpgdaa", sum := "da9d2a1c60219161ed66e4cc8c0dd6bdaf37d504471e5a332f8e6eeb8d527fe0", func := "lockgate/lockgatelaw18.FsckHeads", spec := "fsckHeads", inPlace := ["internal/bytealg.IndexByteString"], unfollowed := true, recurses := true, apart := false, narrowed := true }
def FsckHeadsUptoSaid : Prop := fsckHeadsUptoRow.holds Try.pinned (OpenSpec.upto fsckHeadsSpec)

/-- 'lockgatelaw18.FsckLinks', WHERE WHAT IT READS IS OF BULK AT MOST 1048576: true; the input reads as it did. -/
def fsckLinksUptoRow : OpenClaim := { program := "ytolbahfbhcpgdaa", sum := "da9d2a1c60219161ed66e4cc8c0dd6bdaf37d504471e5a332f8e6eeb8d527fe0", func := "lockgate/lockgatelaw18.FsckLinks", spec := "fsckLinks", inPlace := ["internal/bytealg.IndexByteString"], unfollowed := true, recurses := true, apart := false, narrowed := true }
def FsckLinksUptoSaid : Prop := fsckLinksUptoRow.holds Try.pinned (OpenSpec.upto fsckLinksSpec)

/-- 'lockgatelaw18.FsckLoops', WHERE WHAT IT READS IS OF BULK AT MOST 1048576: true; the input reads as it did. -/
def fsckLoopsUptoRow : OpenClaim := { program := "ytolbahfbhcpgdaa", sum := "da9d2a1c60219161ed66e4cc8c0dd6bdaf37d504471e5a332f8e6eeb8d527fe0", func := "lockgate/lockgatelaw18.FsckLoops", spec := "fsckLoops", inPlace := ["internal/bytealg.IndexByteString"], unfollowed := true, recurses := true, apart := false, narrowed := true }
def FsckLoopsUptoSaid : Prop := fsckLoopsUptoRow.holds Try.pinned (OpenSpec.upto fsckLoopsSpec)

/-- 'lockgatelaw18.FsckNames', WHERE WHAT IT READS IS OF BULK AT MOST 1048576: true; the input reads as it did. -/
def fsckNamesUptoRow : OpenClaim := { program := "ytolbahfbhcpgdaa", sum := "da9d2a1c60219161ed66e4cc8c0dd6bdaf37d504471e5a332f8e6eeb8d527fe0", func := "lockgate/lockgatelaw18.FsckNames", spec := "fsckNames", inPlace := ["internal/bytealg.IndexByteString"], unfollowed := true, recurses := true, apart := false, narrowed := true }
def FsckNamesUptoSaid : Prop := fsckNamesUptoRow.holds Try.pinned (OpenSpec.upto fsckNamesSpec)

end Rows
end Go.Proofs.Ytolbahfbhcpgdaa
