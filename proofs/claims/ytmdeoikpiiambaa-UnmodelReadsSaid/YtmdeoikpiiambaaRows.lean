/-
  No cell of these rows narrows 'for every input' (looked for: loops, veiled, ifaces, maps, wideKeys, modest, calm, conditions, laid).
  DERIVED. THE GIVEN ROWS OF THIS SEAT. 12 by the template 'for every input the law returns true; each argument reads behind the call as it read before'; 0 by the template 'total and deterministic' (their statements: YtmdeoikpiiambaaTotals.lean).
  GIVEN WITH THE SEED: the statements are not yours to turn. If you find one false, say at which input.
  Laid BY PROGRAM, IN A SANDBOX (cutbox-rows.mjs): the forced cells as the released guide's own fill.sh prints them over the translation a9fa8b2b740df627… (all of the seat's roots in one cut). By AI agents, Wed Nov 11 2026. No macro, syntax, notation, axiom, sorry.
-/
import Derived.Test.YtmdeoikpiiambaaChecked
import GoSem.Claim
import GoSem.ClaimJoined
import GoSem.ClaimMapViews
import Derived.JoinedTies
import Derived.KernelRfl
namespace Go.Proofs.Ytmdeoikpiiambaa
/- THE CELL 'sum', in the pinned program and in every row, IS THE sha256 OF THE DUMP (.gsa) THAT YtmdeoikpiiambaaProg.lean LOADS. Nothing in Lean hashes anything: it is a label: what it is worth is what the hold of that sum in a sandbox is worth. -/
noncomputable def Try.pinned : Pinned := { name := "ytmdeoikpiiambaa", sum := "a9fa8b2b740df627ecf01a73dbd221676d8143a202f5923c585f84b11090f48b", checked := Try.checked }
namespace Rows
def none {H : Type} : Left H := { results := [], args := [] }

/-- 'winepresslaw16.FlagsWrite': WHATEVER THE INPUT: true; the input reads as it did. -/
def flagsWriteSpec : ChangeSpec := { name := "flagsWrite", fn := fun _ => fun
  | [d1, d2, d3] => { results := [.lit (.bool true)], args := [d1, d2, d3] }
  | _ => none }
def flagsWriteRow : OpenClaim := { program := "ytmdeoikpiiambaa", sum := "a9fa8b2b740df627ecf01a73dbd221676d8143a202f5923c585f84b11090f48b", func := "winepress/winepresslaw16.FlagsWrite", spec := "flagsWrite", unfollowed := true, recurses := true, plainKeys := false, apart := false }
def FlagsWriteSaid : Prop := flagsWriteRow.holds Try.pinned (OpenSpec.ofChange flagsWriteSpec)

/-- ITS FALSE NEIGHBOUR: 'it returns false'. Refute it at one input. -/
def flagsWriteWrong : ChangeSpec := { name := "flagsWrite", fn := fun _ => fun
  | [d1, d2, d3] => { results := [.lit (.bool false)], args := [d1, d2, d3] }
  | _ => none }
def FlagsWriteWrongFalsely : Prop := flagsWriteRow.holds Try.pinned (OpenSpec.ofChange flagsWriteWrong)

/-- 'winepresslaw16.FlagsRead': WHATEVER THE INPUT: true; the input reads as it did. -/
def flagsReadSpec : ChangeSpec := { name := "flagsRead", fn := fun _ => fun
  | [d] => { results := [.lit (.bool true)], args := [d] }
  | _ => none }
def flagsReadRow : OpenClaim := { program := "ytmdeoikpiiambaa", sum := "a9fa8b2b740df627ecf01a73dbd221676d8143a202f5923c585f84b11090f48b", func := "winepress/winepresslaw16.FlagsRead", spec := "flagsRead", unfollowed := true, recurses := true, plainKeys := false, apart := false }
def FlagsReadSaid : Prop := flagsReadRow.holds Try.pinned (OpenSpec.ofChange flagsReadSpec)

/-- ITS FALSE NEIGHBOUR: 'it returns false'. Refute it at one input. -/
def flagsReadWrong : ChangeSpec := { name := "flagsRead", fn := fun _ => fun
  | [d] => { results := [.lit (.bool false)], args := [d] }
  | _ => none }
def FlagsReadWrongFalsely : Prop := flagsReadRow.holds Try.pinned (OpenSpec.ofChange flagsReadWrong)

/-- 'winepresslaw16.FlagsBack': WHATEVER THE INPUT: true; the input reads as it did. -/
def flagsBackSpec : ChangeSpec := { name := "flagsBack", fn := fun _ => fun
  | [d1, d2, d3] => { results := [.lit (.bool true)], args := [d1, d2, d3] }
  | _ => none }
def flagsBackRow : OpenClaim := { program := "ytmdeoikpiiambaa", sum := "a9fa8b2b740df627ecf01a73dbd221676d8143a202f5923c585f84b11090f48b", func := "winepress/winepresslaw16.FlagsBack", spec := "flagsBack", unfollowed := true, recurses := true, plainKeys := false, apart := false }
def FlagsBackSaid : Prop := flagsBackRow.holds Try.pinned (OpenSpec.ofChange flagsBackSpec)

/-- ITS FALSE NEIGHBOUR: 'it returns false'. Refute it at one input. -/
def flagsBackWrong : ChangeSpec := { name := "flagsBack", fn := fun _ => fun
  | [d1, d2, d3] => { results := [.lit (.bool false)], args := [d1, d2, d3] }
  | _ => none }
def FlagsBackWrongFalsely : Prop := flagsBackRow.holds Try.pinned (OpenSpec.ofChange flagsBackWrong)

/-- 'winepresslaw18.IndexPuts': WHATEVER THE INPUT: true; the input reads as it did. -/
def indexPutsSpec : ChangeSpec := { name := "indexPuts", fn := fun _ => fun
  | [d1, d2] => { results := [.lit (.bool true)], args := [d1, d2] }
  | _ => none }
def indexPutsRow : OpenClaim := { program := "ytmdeoikpiiambaa", sum := "a9fa8b2b740df627ecf01a73dbd221676d8143a202f5923c585f84b11090f48b", func := "winepress/winepresslaw18.IndexPuts", spec := "indexPuts", unfollowed := true, recurses := true, plainKeys := false, apart := false }
def IndexPutsSaid : Prop := indexPutsRow.holds Try.pinned (OpenSpec.ofChange indexPutsSpec)

/-- ITS FALSE NEIGHBOUR: 'it returns false'. Refute it at one input. -/
def indexPutsWrong : ChangeSpec := { name := "indexPuts", fn := fun _ => fun
  | [d1, d2] => { results := [.lit (.bool false)], args := [d1, d2] }
  | _ => none }
def IndexPutsWrongFalsely : Prop := indexPutsRow.holds Try.pinned (OpenSpec.ofChange indexPutsWrong)

/-- 'winepresslaw18.IndexGets': WHATEVER THE INPUT: true; the input reads as it did. -/
def indexGetsSpec : ChangeSpec := { name := "indexGets", fn := fun _ => fun
  | [d] => { results := [.lit (.bool true)], args := [d] }
  | _ => none }
def indexGetsRow : OpenClaim := { program := "ytmdeoikpiiambaa", sum := "a9fa8b2b740df627ecf01a73dbd221676d8143a202f5923c585f84b11090f48b", func := "winepress/winepresslaw18.IndexGets", spec := "indexGets", unfollowed := true, recurses := true, plainKeys := false, apart := false }
def IndexGetsSaid : Prop := indexGetsRow.holds Try.pinned (OpenSpec.ofChange indexGetsSpec)

/-- ITS FALSE NEIGHBOUR: 'it returns false'. Refute it at one input. -/
def indexGetsWrong : ChangeSpec := { name := "indexGets", fn := fun _ => fun
  | [d] => { results := [.lit (.bool false)], args := [d] }
  | _ => none }
def IndexGetsWrongFalsely : Prop := indexGetsRow.holds Try.pinned (OpenSpec.ofChange indexGetsWrong)

/-- 'winepresslaw07.ModelPuts': WHATEVER THE INPUT: true; the input reads as it did. -/
def modelPutsSpec : ChangeSpec := { name := "modelPuts", fn := fun _ => fun
  | [d1, d2, d3, d4, d5] => { results := [.lit (.bool true)], args := [d1, d2, d3, d4, d5] }
  | _ => none }
def modelPutsRow : OpenClaim := { program := "ytmdeoikpiiambaa", sum := "a9fa8b2b740df627ecf01a73dbd221676d8143a202f5923c585f84b11090f48b", func := "winepress/winepresslaw07.ModelPuts", spec := "modelPuts", unfollowed := true, recurses := true, plainKeys := false, apart := false }
def ModelPutsSaid : Prop := modelPutsRow.holds Try.pinned (OpenSpec.ofChange modelPutsSpec)

/-- ITS FALSE NEIGHBOUR: 'it returns false'. Refute it at one input. -/
def modelPutsWrong : ChangeSpec := { name := "modelPuts", fn := fun _ => fun
  | [d1, d2, d3, d4, d5] => { results := [.lit (.bool false)], args := [d1, d2, d3, d4, d5] }
  | _ => none }
def ModelPutsWrongFalsely : Prop := modelPutsRow.holds Try.pinned (OpenSpec.ofChange modelPutsWrong)

/-- 'winepresslaw07.ModelBack': WHATEVER THE INPUT: true; the input reads as it did. -/
def modelBackSpec : ChangeSpec := { name := "modelBack", fn := fun _ => fun
  | [d1, d2, d3, d4, d5] => { results := [.lit (.bool true)], args := [d1, d2, d3, d4, d5] }
  | _ => none }
def modelBackRow : OpenClaim := { program := "ytmdeoikpiiambaa", sum := "a9fa8b2b740df627ecf01a73dbd221676d8143a202f5923c585f84b11090f48b", func := "winepress/winepresslaw07.ModelBack", spec := "modelBack", unfollowed := true, recurses := true, plainKeys := false, apart := false }
def ModelBackSaid : Prop := modelBackRow.holds Try.pinned (OpenSpec.ofChange modelBackSpec)

/-- ITS FALSE NEIGHBOUR: 'it returns false'. Refute it at one input. -/
def modelBackWrong : ChangeSpec := { name := "modelBack", fn := fun _ => fun
  | [d1, d2, d3, d4, d5] => { results := [.lit (.bool false)], args := [d1, d2, d3, d4, d5] }
  | _ => none }
def ModelBackWrongFalsely : Prop := modelBackRow.holds Try.pinned (OpenSpec.ofChange modelBackWrong)

/-- 'winepresslaw08.UnmodelBack': WHATEVER THE INPUT: true; the input reads as it did. -/
def unmodelBackSpec : ChangeSpec := { name := "unmodelBack", fn := fun _ => fun
  | [d1, d2, d3, d4, d5] => { results := [.lit (.bool true)], args := [d1, d2, d3, d4, d5] }
  | _ => none }
def unmodelBackRow : OpenClaim := { program := "ytmdeoikpiiambaa", sum := "a9fa8b2b740df627ecf01a73dbd221676d8143a202f5923c585f84b11090f48b", func := "winepress/winepresslaw08.UnmodelBack", spec := "unmodelBack", unfollowed := true, recurses := true, plainKeys := false, apart := false }
def UnmodelBackSaid : Prop := unmodelBackRow.holds Try.pinned (OpenSpec.ofChange unmodelBackSpec)

/-- ITS FALSE NEIGHBOUR: 'it returns false'. Refute it at one input. -/
def unmodelBackWrong : ChangeSpec := { name := "unmodelBack", fn := fun _ => fun
  | [d1, d2, d3, d4, d5] => { results := [.lit (.bool false)], args := [d1, d2, d3, d4, d5] }
  | _ => none }
def UnmodelBackWrongFalsely : Prop := unmodelBackRow.holds Try.pinned (OpenSpec.ofChange unmodelBackWrong)

/-- 'winepresslaw08.UnmodelReads': WHATEVER THE INPUT: true; the input reads as it did. -/
def unmodelReadsSpec : ChangeSpec := { name := "unmodelReads", fn := fun _ => fun
  | [d1, d2, d3, d4, d5, d6, d7] => { results := [.lit (.bool true)], args := [d1, d2, d3, d4, d5, d6, d7] }
  | _ => none }
def unmodelReadsRow : OpenClaim := { program := "ytmdeoikpiiambaa", sum := "a9fa8b2b740df627ecf01a73dbd221676d8143a202f5923c585f84b11090f48b", func := "winepress/winepresslaw08.UnmodelReads", spec := "unmodelReads", unfollowed := true, recurses := true, plainKeys := false, apart := false }
def UnmodelReadsSaid : Prop := unmodelReadsRow.holds Try.pinned (OpenSpec.ofChange unmodelReadsSpec)

/-- ITS FALSE NEIGHBOUR: 'it returns false'. Refute it at one input. -/
def unmodelReadsWrong : ChangeSpec := { name := "unmodelReads", fn := fun _ => fun
  | [d1, d2, d3, d4, d5, d6, d7] => { results := [.lit (.bool false)], args := [d1, d2, d3, d4, d5, d6, d7] }
  | _ => none }
def UnmodelReadsWrongFalsely : Prop := unmodelReadsRow.holds Try.pinned (OpenSpec.ofChange unmodelReadsWrong)

/-- 'winepresslaw12.UnchunkReads': WHATEVER THE INPUT: true; the input reads as it did. -/
def unchunkReadsSpec : ChangeSpec := { name := "unchunkReads", fn := fun _ => fun
  | [d1, d2] => { results := [.lit (.bool true)], args := [d1, d2] }
  | _ => none }
def unchunkReadsRow : OpenClaim := { program := "ytmdeoikpiiambaa", sum := "a9fa8b2b740df627ecf01a73dbd221676d8143a202f5923c585f84b11090f48b", func := "winepress/winepresslaw12.UnchunkReads", spec := "unchunkReads", unfollowed := true, recurses := true, plainKeys := false, apart := false }
def UnchunkReadsSaid : Prop := unchunkReadsRow.holds Try.pinned (OpenSpec.ofChange unchunkReadsSpec)

/-- ITS FALSE NEIGHBOUR: 'it returns false'. Refute it at one input. -/
def unchunkReadsWrong : ChangeSpec := { name := "unchunkReads", fn := fun _ => fun
  | [d1, d2] => { results := [.lit (.bool false)], args := [d1, d2] }
  | _ => none }
def UnchunkReadsWrongFalsely : Prop := unchunkReadsRow.holds Try.pinned (OpenSpec.ofChange unchunkReadsWrong)

/-- 'winepresslaw11.ChunksPack': WHATEVER THE INPUT: true; the input reads as it did. -/
def chunksPackSpec : ChangeSpec := { name := "chunksPack", fn := fun _ => fun
  | [d1, d2] => { results := [.lit (.bool true)], args := [d1, d2] }
  | _ => none }
def chunksPackRow : OpenClaim := { program := "ytmdeoikpiiambaa", sum := "a9fa8b2b740df627ecf01a73dbd221676d8143a202f5923c585f84b11090f48b", func := "winepress/winepresslaw11.ChunksPack", spec := "chunksPack", unfollowed := true, recurses := true, plainKeys := false, apart := false }
def ChunksPackSaid : Prop := chunksPackRow.holds Try.pinned (OpenSpec.ofChange chunksPackSpec)

/-- ITS FALSE NEIGHBOUR: 'it returns false'. Refute it at one input. -/
def chunksPackWrong : ChangeSpec := { name := "chunksPack", fn := fun _ => fun
  | [d1, d2] => { results := [.lit (.bool false)], args := [d1, d2] }
  | _ => none }
def ChunksPackWrongFalsely : Prop := chunksPackRow.holds Try.pinned (OpenSpec.ofChange chunksPackWrong)

/-- 'winepresslaw11.ChunksSmall': WHATEVER THE INPUT: true; the input reads as it did. -/
def chunksSmallSpec : ChangeSpec := { name := "chunksSmall", fn := fun _ => fun
  | [d1, d2] => { results := [.lit (.bool true)], args := [d1, d2] }
  | _ => none }
def chunksSmallRow : OpenClaim := { program := "ytmdeoikpiiambaa", sum := "a9fa8b2b740df627ecf01a73dbd221676d8143a202f5923c585f84b11090f48b", func := "winepress/winepresslaw11.ChunksSmall", spec := "chunksSmall", unfollowed := true, recurses := true, plainKeys := false, apart := false }
def ChunksSmallSaid : Prop := chunksSmallRow.holds Try.pinned (OpenSpec.ofChange chunksSmallSpec)

/-- ITS FALSE NEIGHBOUR: 'it returns false'. Refute it at one input. -/
def chunksSmallWrong : ChangeSpec := { name := "chunksSmall", fn := fun _ => fun
  | [d1, d2] => { results := [.lit (.bool false)], args := [d1, d2] }
  | _ => none }
def ChunksSmallWrongFalsely : Prop := chunksSmallRow.holds Try.pinned (OpenSpec.ofChange chunksSmallWrong)

/- THE SECOND FORM. 'bulk': how many values and letters a reading holds, each counted each time it is reached (what is shared counts as often as it is met; a slice's spare places count too). A statement '..UptoSaid' is the law's where the arguments, and the package variables that the reading takes, are together of bulk at most 1048576: NARROWER than '..Said'. Prove '..Said' where nothing that the law and all that it calls make is longer than what came in: it says more and counts as full. Else prove '..UptoSaid'. A law counts once. -/
mutual
def uptoBulk {H : Type} : DataW H → Nat
  | .lit (.string bytes) => bytes.length + 1
  | .lit _ => 1
  | .nil => 1
  | .ptr d => uptoBulk d + 1
  | .slice elems spare => uptoBulkAll elems + uptoBulkAll spare + 1
  | .agg parts => uptoBulkAll parts + 1
  | .iface _ d => uptoBulk d + 1
  | .map entries => uptoBulkEntries entries + 1
  | .held _ => 1
def uptoBulkAll {H : Type} : List (DataW H) → Nat
  | [] => 0
  | d :: r => uptoBulk d + uptoBulkAll r
def uptoBulkEntries {H : Type} : List (Lit × DataW H) → Nat
  | [] => 0
  | x :: r => uptoBulkEntry x + uptoBulkEntries r
def uptoBulkEntry {H : Type} : Lit × DataW H → Nat
  | (.string bytes, d) => bytes.length + uptoBulk d + 1
  | (_, d) => uptoBulk d + 1
 end
def uptoSmall : (H : Type) → List (DataW H) → Bool := fun _ ds => decide (uptoBulkAll ds ≤ 1048576)
def OpenSpec.upto (s : _root_.Go.ChangeSpec) : _root_.Go.OpenSpec := { _root_.Go.OpenSpec.ofChange s with cond := some uptoSmall }

/-- 'winepresslaw16.FlagsWrite', WHERE WHAT IT READS IS OF BULK AT MOST 1048576: true; the input reads as it did. -/
def flagsWriteUptoRow : OpenClaim := { program := "ytmdeoikpiiambaa", sum := "a9fa8b2b740df627ecf01a73dbd221676d8143a202f5923c585f84b11090f48b", func := "winepress/winepresslaw16.FlagsWrite", spec := "flagsWrite", unfollowed := true, recurses := true, plainKeys := false, apart := false, narrowed := true }
def FlagsWriteUptoSaid : Prop := flagsWriteUptoRow.holds Try.pinned (OpenSpec.upto flagsWriteSpec)

/-- 'winepresslaw16.FlagsRead', WHERE WHAT IT READS IS OF BULK AT MOST 1048576: true; the input reads as it did. -/
def flagsReadUptoRow : OpenClaim := { program := "ytmdeoikpiiambaa", sum := "a9fa8b2b740df627ecf01a73dbd221676d8143a202f5923c585f84b11090f48b", func := "winepress/winepresslaw16.FlagsRead", spec := "flagsRead", unfollowed := true, recurses := true, plainKeys := false, apart := false, narrowed := true }
def FlagsReadUptoSaid : Prop := flagsReadUptoRow.holds Try.pinned (OpenSpec.upto flagsReadSpec)

/-- 'winepresslaw16.FlagsBack', WHERE WHAT IT READS IS OF BULK AT MOST 1048576: true; the input reads as it did. -/
def flagsBackUptoRow : OpenClaim := { program := "ytmdeoikpiiambaa", sum := "a9fa8b2b740df627ecf01a73dbd221676d8143a202f5923c585f84b11090f48b", func := "winepress/winepresslaw16.FlagsBack", spec := "flagsBack", unfollowed := true, recurses := true, plainKeys := false, apart := false, narrowed := true }
def FlagsBackUptoSaid : Prop := flagsBackUptoRow.holds Try.pinned (OpenSpec.upto flagsBackSpec)

/-- 'winepresslaw18.IndexPuts', WHERE WHAT IT READS IS OF BULK AT MOST 1048576: true; the input reads as it did. -/
def indexPutsUptoRow : OpenClaim := { program := "ytmdeoikpiiambaa", sum := "a9fa8b2b740df627ecf01a73dbd221676d8143a202f5923c585f84b11090f48b", func := "winepress/winepresslaw18.IndexPuts", spec := "indexPuts", unfollowed := true, recurses := true, plainKeys := false, apart := false, narrowed := true }
def IndexPutsUptoSaid : Prop := indexPutsUptoRow.holds Try.pinned (OpenSpec.upto indexPutsSpec)

/-- 'winepresslaw18.IndexGets', WHERE WHAT IT READS IS OF BULK AT MOST 1048576: true; the input reads as it did. -/
def indexGetsUptoRow : OpenClaim := { program := "ytmdeoikpiiambaa", sum := "a9fa8b2b740df627ecf01a73dbd221676d8143a202f5923c585f84b11090f48b", func := "winepress/winepresslaw18.IndexGets", spec := "indexGets", unfollowed := true, recurses := true, plainKeys := false, apart := false, narrowed := true }
def IndexGetsUptoSaid : Prop := indexGetsUptoRow.holds Try.pinned (OpenSpec.upto indexGetsSpec)

/-- 'winepresslaw07.ModelPuts', WHERE WHAT IT READS IS OF BULK AT MOST 1048576: true; the input reads as it did. -/
def modelPutsUptoRow : OpenClaim := { program := "ytmdeoikpiiambaa", sum := "a9fa8b2b740df627ecf01a73dbd221676d8143a202f5923c585f84b11090f48b", func := "winepress/winepresslaw07.ModelPuts", spec := "modelPuts", unfollowed := true, recurses := true, plainKeys := false, apart := false, narrowed := true }
def ModelPutsUptoSaid : Prop := modelPutsUptoRow.holds Try.pinned (OpenSpec.upto modelPutsSpec)

/-- 'winepresslaw07.ModelBack', WHERE WHAT IT READS IS OF BULK AT MOST 1048576: true; the input reads as it did. -/
def modelBackUptoRow : OpenClaim := { program := "ytmdeoikpiiambaa", sum := "a9fa8b2b740df627ecf01a73dbd221676d8143a202f5923c585f84b11090f48b", func := "winepress/winepresslaw07.ModelBack", spec := "modelBack", unfollowed := true, recurses := true, plainKeys := false, apart := false, narrowed := true }
def ModelBackUptoSaid : Prop := modelBackUptoRow.holds Try.pinned (OpenSpec.upto modelBackSpec)

/-- 'winepresslaw08.UnmodelBack', WHERE WHAT IT READS IS OF BULK AT MOST 1048576: true; the input reads as it did. -/
def unmodelBackUptoRow : OpenClaim := { program := "ytmdeoikpiiambaa", sum := "a9fa8b2b740df627ecf01a73dbd221676d8143a202f5923c585f84b11090f48b", func := "winepress/winepresslaw08.UnmodelBack", spec := "unmodelBack", unfollowed := true, recurses := true, plainKeys := false, apart := false, narrowed := true }
def UnmodelBackUptoSaid : Prop := unmodelBackUptoRow.holds Try.pinned (OpenSpec.upto unmodelBackSpec)

/-- 'winepresslaw08.UnmodelReads', WHERE WHAT IT READS IS OF BULK AT MOST 1048576: true; the input reads as it did. -/
def unmodelReadsUptoRow : OpenClaim := { program := "ytmdeoikpiiambaa", sum := "a9fa8b2b740df627ecf01a73dbd221676d8143a202f5923c585f84b11090f48b", func := "winepress/winepresslaw08.UnmodelReads", spec := "unmodelReads", unfollowed := true, recurses := true, plainKeys := false, apart := false, narrowed := true }
def UnmodelReadsUptoSaid : Prop := unmodelReadsUptoRow.holds Try.pinned (OpenSpec.upto unmodelReadsSpec)

/-- 'winepresslaw12.UnchunkReads', WHERE WHAT IT READS IS OF BULK AT MOST 1048576: true; the input reads as it did. -/
def unchunkReadsUptoRow : OpenClaim := { program := "ytmdeoikpiiambaa", sum := "a9fa8b2b740df627ecf01a73dbd221676d8143a202f5923c585f84b11090f48b", func := "winepress/winepresslaw12.UnchunkReads", spec := "unchunkReads", unfollowed := true, recurses := true, plainKeys := false, apart := false, narrowed := true }
def UnchunkReadsUptoSaid : Prop := unchunkReadsUptoRow.holds Try.pinned (OpenSpec.upto unchunkReadsSpec)

/-- 'winepresslaw11.ChunksPack', WHERE WHAT IT READS IS OF BULK AT MOST 1048576: true; the input reads as it did. -/
def chunksPackUptoRow : OpenClaim := { program := "ytmdeoikpiiambaa", sum := "a9fa8b2b740df627ecf01a73dbd221676d8143a202f5923c585f84b11090f48b", func := "winepress/winepresslaw11.ChunksPack", spec := "chunksPack", unfollowed := true, recurses := true, plainKeys := false, apart := false, narrowed := true }
def ChunksPackUptoSaid : Prop := chunksPackUptoRow.holds Try.pinned (OpenSpec.upto chunksPackSpec)

/-- 'winepresslaw11.ChunksSmall', WHERE WHAT IT READS IS OF BULK AT MOST 1048576: true; the input reads as it did. -/
def chunksSmallUptoRow : OpenClaim := { program := "ytmdeoikpiiambaa", sum := "a9fa8b2b740df627ecf01a73dbd221676d8143a202f5923c585f84b11090f48b", func := "winepress/winepresslaw11.ChunksSmall", spec := "chunksSmall", unfollowed := true, recurses := true, plainKeys := false, apart := false, narrowed := true }
def ChunksSmallUptoSaid : Prop := chunksSmallUptoRow.holds Try.pinned (OpenSpec.upto chunksSmallSpec)

end Rows
end Go.Proofs.Ytmdeoikpiiambaa
