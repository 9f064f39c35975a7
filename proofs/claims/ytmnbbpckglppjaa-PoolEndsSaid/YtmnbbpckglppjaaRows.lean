/-
  No cell of these rows narrows 'for every input' (looked for: loops, veiled, ifaces, maps, wideKeys, modest, calm, conditions, laid).
  DERIVED. THE GIVEN ROWS OF THIS SEAT. 11 by the template 'for every input the law returns true; each argument reads behind the call as it read before'; 0 by the template 'total and deterministic' (their statements: YtmnbbpckglppjaaTotals.lean).
  GIVEN WITH THE SEED: the statements are not yours to turn. If you find one false, say at which input.
  Laid BY PROGRAM, IN A SANDBOX (cutbox-rows.mjs): the forced cells as the released guide's own fill.sh prints them over the translation e49a544f0c1fca93… (all of the seat's roots in one cut). By AI agents, Wed Nov 11 2026. No macro, syntax, notation, axiom, sorry.
-/
import Derived.Test.YtmnbbpckglppjaaChecked
import GoSem.Claim
import GoSem.ClaimJoined
import GoSem.ClaimMapViews
import Derived.JoinedTies
import Derived.KernelRfl
namespace Go.Proofs.Ytmnbbpckglppjaa
/- THE CELL 'sum', in the pinned program and in every row, IS THE sha256 OF THE DUMP (.gsa) THAT YtmnbbpckglppjaaProg.lean LOADS. Nothing in Lean hashes anything: it is a label: what it is worth is what the hold of that sum in a sandbox is worth. -/
noncomputable def Try.pinned : Pinned := { name := "ytmnbbpckglppjaa", sum := "e49a544f0c1fca930734a3dad4e61198b1daaee6d0ec03b2c4c24cb84e2c87d8", checked := Try.checked }
namespace Rows
def none {H : Type} : Left H := { results := [], args := [] }

/-- 'winepresslaw04.VliPuts': WHATEVER THE INPUT: true; the input reads as it did. -/
def vliPutsSpec : ChangeSpec := { name := "vliPuts", fn := fun _ => fun
  | [d1, d2] => { results := [.lit (.bool true)], args := [d1, d2] }
  | _ => none }
def vliPutsRow : OpenClaim := { program := "ytmnbbpckglppjaa", sum := "e49a544f0c1fca930734a3dad4e61198b1daaee6d0ec03b2c4c24cb84e2c87d8", func := "winepress/winepresslaw04.VliPuts", spec := "vliPuts", unfollowed := true, recurses := true, plainKeys := false, apart := false }
def VliPutsSaid : Prop := vliPutsRow.holds Try.pinned (OpenSpec.ofChange vliPutsSpec)

/-- ITS FALSE NEIGHBOUR: 'it returns false'. Refute it at one input. -/
def vliPutsWrong : ChangeSpec := { name := "vliPuts", fn := fun _ => fun
  | [d1, d2] => { results := [.lit (.bool false)], args := [d1, d2] }
  | _ => none }
def VliPutsWrongFalsely : Prop := vliPutsRow.holds Try.pinned (OpenSpec.ofChange vliPutsWrong)

/-- 'winepresslaw04.VliGets': WHATEVER THE INPUT: true; the input reads as it did. -/
def vliGetsSpec : ChangeSpec := { name := "vliGets", fn := fun _ => fun
  | [d] => { results := [.lit (.bool true)], args := [d] }
  | _ => none }
def vliGetsRow : OpenClaim := { program := "ytmnbbpckglppjaa", sum := "e49a544f0c1fca930734a3dad4e61198b1daaee6d0ec03b2c4c24cb84e2c87d8", func := "winepress/winepresslaw04.VliGets", spec := "vliGets", unfollowed := true, recurses := true, plainKeys := false, apart := false }
def VliGetsSaid : Prop := vliGetsRow.holds Try.pinned (OpenSpec.ofChange vliGetsSpec)

/-- ITS FALSE NEIGHBOUR: 'it returns false'. Refute it at one input. -/
def vliGetsWrong : ChangeSpec := { name := "vliGets", fn := fun _ => fun
  | [d] => { results := [.lit (.bool false)], args := [d] }
  | _ => none }
def VliGetsWrongFalsely : Prop := vliGetsRow.holds Try.pinned (OpenSpec.ofChange vliGetsWrong)

/-- 'winepresslaw09.FinderBest': WHATEVER THE INPUT: true; the input reads as it did. -/
def finderBestSpec : ChangeSpec := { name := "finderBest", fn := fun _ => fun
  | [d1, d2, d3, d4, d5, d6] => { results := [.lit (.bool true)], args := [d1, d2, d3, d4, d5, d6] }
  | _ => none }
def finderBestRow : OpenClaim := { program := "ytmnbbpckglppjaa", sum := "e49a544f0c1fca930734a3dad4e61198b1daaee6d0ec03b2c4c24cb84e2c87d8", func := "winepress/winepresslaw09.FinderBest", spec := "finderBest", plainKeys := false, apart := false }
def FinderBestSaid : Prop := finderBestRow.holds Try.pinned (OpenSpec.ofChange finderBestSpec)

/-- ITS FALSE NEIGHBOUR: 'it returns false'. Refute it at one input. -/
def finderBestWrong : ChangeSpec := { name := "finderBest", fn := fun _ => fun
  | [d1, d2, d3, d4, d5, d6] => { results := [.lit (.bool false)], args := [d1, d2, d3, d4, d5, d6] }
  | _ => none }
def FinderBestWrongFalsely : Prop := finderBestRow.holds Try.pinned (OpenSpec.ofChange finderBestWrong)

/-- 'winepresslaw09.FinderStood': WHATEVER THE INPUT: true; the input reads as it did. -/
def finderStoodSpec : ChangeSpec := { name := "finderStood", fn := fun _ => fun
  | [d1, d2, d3] => { results := [.lit (.bool true)], args := [d1, d2, d3] }
  | _ => none }
def finderStoodRow : OpenClaim := { program := "ytmnbbpckglppjaa", sum := "e49a544f0c1fca930734a3dad4e61198b1daaee6d0ec03b2c4c24cb84e2c87d8", func := "winepress/winepresslaw09.FinderStood", spec := "finderStood", plainKeys := false, apart := false }
def FinderStoodSaid : Prop := finderStoodRow.holds Try.pinned (OpenSpec.ofChange finderStoodSpec)

/-- ITS FALSE NEIGHBOUR: 'it returns false'. Refute it at one input. -/
def finderStoodWrong : ChangeSpec := { name := "finderStood", fn := fun _ => fun
  | [d1, d2, d3] => { results := [.lit (.bool false)], args := [d1, d2, d3] }
  | _ => none }
def FinderStoodWrongFalsely : Prop := finderStoodRow.holds Try.pinned (OpenSpec.ofChange finderStoodWrong)

/-- 'winepresslaw06.RcdecReads': WHATEVER THE INPUT: true; the input reads as it did. -/
def rcdecReadsSpec : ChangeSpec := { name := "rcdecReads", fn := fun _ => fun
  | [d1, d2] => { results := [.lit (.bool true)], args := [d1, d2] }
  | _ => none }
def rcdecReadsRow : OpenClaim := { program := "ytmnbbpckglppjaa", sum := "e49a544f0c1fca930734a3dad4e61198b1daaee6d0ec03b2c4c24cb84e2c87d8", func := "winepress/winepresslaw06.RcdecReads", spec := "rcdecReads", unfollowed := true, recurses := true, plainKeys := false, apart := false }
def RcdecReadsSaid : Prop := rcdecReadsRow.holds Try.pinned (OpenSpec.ofChange rcdecReadsSpec)

/-- ITS FALSE NEIGHBOUR: 'it returns false'. Refute it at one input. -/
def rcdecReadsWrong : ChangeSpec := { name := "rcdecReads", fn := fun _ => fun
  | [d1, d2] => { results := [.lit (.bool false)], args := [d1, d2] }
  | _ => none }
def RcdecReadsWrongFalsely : Prop := rcdecReadsRow.holds Try.pinned (OpenSpec.ofChange rcdecReadsWrong)

/-- 'winepresslaw05.RcencCodes': WHATEVER THE INPUT: true; the input reads as it did. -/
def rcencCodesSpec : ChangeSpec := { name := "rcencCodes", fn := fun _ => fun
  | [d] => { results := [.lit (.bool true)], args := [d] }
  | _ => none }
def rcencCodesRow : OpenClaim := { program := "ytmnbbpckglppjaa", sum := "e49a544f0c1fca930734a3dad4e61198b1daaee6d0ec03b2c4c24cb84e2c87d8", func := "winepress/winepresslaw05.RcencCodes", spec := "rcencCodes", unfollowed := true, recurses := true, plainKeys := false, apart := false }
def RcencCodesSaid : Prop := rcencCodesRow.holds Try.pinned (OpenSpec.ofChange rcencCodesSpec)

/-- ITS FALSE NEIGHBOUR: 'it returns false'. Refute it at one input. -/
def rcencCodesWrong : ChangeSpec := { name := "rcencCodes", fn := fun _ => fun
  | [d] => { results := [.lit (.bool false)], args := [d] }
  | _ => none }
def RcencCodesWrongFalsely : Prop := rcencCodesRow.holds Try.pinned (OpenSpec.ofChange rcencCodesWrong)

/-- 'winepresslaw05.RcencSame': WHATEVER THE INPUT: true; the input reads as it did. -/
def rcencSameSpec : ChangeSpec := { name := "rcencSame", fn := fun _ => fun
  | [d1, d2] => { results := [.lit (.bool true)], args := [d1, d2] }
  | _ => none }
def rcencSameRow : OpenClaim := { program := "ytmnbbpckglppjaa", sum := "e49a544f0c1fca930734a3dad4e61198b1daaee6d0ec03b2c4c24cb84e2c87d8", func := "winepress/winepresslaw05.RcencSame", spec := "rcencSame", unfollowed := true, recurses := true, plainKeys := false, apart := false }
def RcencSameSaid : Prop := rcencSameRow.holds Try.pinned (OpenSpec.ofChange rcencSameSpec)

/-- ITS FALSE NEIGHBOUR: 'it returns false'. Refute it at one input. -/
def rcencSameWrong : ChangeSpec := { name := "rcencSame", fn := fun _ => fun
  | [d1, d2] => { results := [.lit (.bool false)], args := [d1, d2] }
  | _ => none }
def RcencSameWrongFalsely : Prop := rcencSameRow.holds Try.pinned (OpenSpec.ofChange rcencSameWrong)

/-- 'winepresslaw10.ParseStands': WHATEVER THE INPUT: true; the input reads as it did. -/
def parseStandsSpec : ChangeSpec := { name := "parseStands", fn := fun _ => fun
  | [d1, d2, d3, d4] => { results := [.lit (.bool true)], args := [d1, d2, d3, d4] }
  | _ => none }
def parseStandsRow : OpenClaim := { program := "ytmnbbpckglppjaa", sum := "e49a544f0c1fca930734a3dad4e61198b1daaee6d0ec03b2c4c24cb84e2c87d8", func := "winepress/winepresslaw10.ParseStands", spec := "parseStands", unfollowed := true, recurses := true, plainKeys := false, apart := false }
def ParseStandsSaid : Prop := parseStandsRow.holds Try.pinned (OpenSpec.ofChange parseStandsSpec)

/-- ITS FALSE NEIGHBOUR: 'it returns false'. Refute it at one input. -/
def parseStandsWrong : ChangeSpec := { name := "parseStands", fn := fun _ => fun
  | [d1, d2, d3, d4] => { results := [.lit (.bool false)], args := [d1, d2, d3, d4] }
  | _ => none }
def ParseStandsWrongFalsely : Prop := parseStandsRow.holds Try.pinned (OpenSpec.ofChange parseStandsWrong)

/-- 'winepresslaw06.RcdecBack': WHATEVER THE INPUT: true; the input reads as it did. -/
def rcdecBackSpec : ChangeSpec := { name := "rcdecBack", fn := fun _ => fun
  | [d1, d2] => { results := [.lit (.bool true)], args := [d1, d2] }
  | _ => none }
def rcdecBackRow : OpenClaim := { program := "ytmnbbpckglppjaa", sum := "e49a544f0c1fca930734a3dad4e61198b1daaee6d0ec03b2c4c24cb84e2c87d8", func := "winepress/winepresslaw06.RcdecBack", spec := "rcdecBack", unfollowed := true, recurses := true, plainKeys := false, apart := false }
def RcdecBackSaid : Prop := rcdecBackRow.holds Try.pinned (OpenSpec.ofChange rcdecBackSpec)

/-- ITS FALSE NEIGHBOUR: 'it returns false'. Refute it at one input. -/
def rcdecBackWrong : ChangeSpec := { name := "rcdecBack", fn := fun _ => fun
  | [d1, d2] => { results := [.lit (.bool false)], args := [d1, d2] }
  | _ => none }
def RcdecBackWrongFalsely : Prop := rcdecBackRow.holds Try.pinned (OpenSpec.ofChange rcdecBackWrong)

/-- 'winepresslaw21.PoolPlays': WHATEVER THE INPUT: true; the input reads as it did. -/
def poolPlaysSpec : ChangeSpec := { name := "poolPlays", fn := fun _ => fun
  | [d1, d2, d3, d4] => { results := [.lit (.bool true)], args := [d1, d2, d3, d4] }
  | _ => none }
def poolPlaysRow : OpenClaim := { program := "ytmnbbpckglppjaa", sum := "e49a544f0c1fca930734a3dad4e61198b1daaee6d0ec03b2c4c24cb84e2c87d8", func := "winepress/winepresslaw21.PoolPlays", spec := "poolPlays", unfollowed := true, recurses := true, plainKeys := false, apart := false }
def PoolPlaysSaid : Prop := poolPlaysRow.holds Try.pinned (OpenSpec.ofChange poolPlaysSpec)

/-- ITS FALSE NEIGHBOUR: 'it returns false'. Refute it at one input. -/
def poolPlaysWrong : ChangeSpec := { name := "poolPlays", fn := fun _ => fun
  | [d1, d2, d3, d4] => { results := [.lit (.bool false)], args := [d1, d2, d3, d4] }
  | _ => none }
def PoolPlaysWrongFalsely : Prop := poolPlaysRow.holds Try.pinned (OpenSpec.ofChange poolPlaysWrong)

/-- 'winepresslaw21.PoolEnds': WHATEVER THE INPUT: true; the input reads as it did. -/
def poolEndsSpec : ChangeSpec := { name := "poolEnds", fn := fun _ => fun
  | [d1, d2, d3, d4] => { results := [.lit (.bool true)], args := [d1, d2, d3, d4] }
  | _ => none }
def poolEndsRow : OpenClaim := { program := "ytmnbbpckglppjaa", sum := "e49a544f0c1fca930734a3dad4e61198b1daaee6d0ec03b2c4c24cb84e2c87d8", func := "winepress/winepresslaw21.PoolEnds", spec := "poolEnds", unfollowed := true, recurses := true, plainKeys := false, apart := false }
def PoolEndsSaid : Prop := poolEndsRow.holds Try.pinned (OpenSpec.ofChange poolEndsSpec)

/-- ITS FALSE NEIGHBOUR: 'it returns false'. Refute it at one input. -/
def poolEndsWrong : ChangeSpec := { name := "poolEnds", fn := fun _ => fun
  | [d1, d2, d3, d4] => { results := [.lit (.bool false)], args := [d1, d2, d3, d4] }
  | _ => none }
def PoolEndsWrongFalsely : Prop := poolEndsRow.holds Try.pinned (OpenSpec.ofChange poolEndsWrong)

/- THE SECOND FORM. 'bulk': how many values and letters a reading holds, each counted each time it is reached (what is shared counts as often as it is met; a slice's spare places count too). A statement '..UptoSaid' is the law's where the arguments, and the package variables that the reading takes, are together of bulk at most 1048576: NARROWER than '..Said'. Prove '..Said' where nothing that the law and all that it calls make is longer than what came in: it says more and counts as full. Else prove '..UptoSaid'. A law counts once. -/
mutual
def uptoBulk {H : Type} : DataW H → Nat
  | .lit (.string bytes) => bytes.length + 1
  | .lit _ => 1
  | .nil => 1
  | .ptr d => uptoBulk d + 1
  | .slice elems spare => uptoBulkAll elems + uptoBulkAll spare + 1
  | .agg parts => uptoBulkAll parts + 1
  | .iface _ d => uptoBulk d + 1
  | .map entries => uptoBulkEntries entries + 1
  | .held _ => 1
def uptoBulkAll {H : Type} : List (DataW H) → Nat
  | [] => 0
  | d :: r => uptoBulk d + uptoBulkAll r
def uptoBulkEntries {H : Type} : List (Lit × DataW H) → Nat
  | [] => 0
  | x :: r => uptoBulkEntry x + uptoBulkEntries r
def uptoBulkEntry {H : Type} : Lit × DataW H → Nat
  | (.string bytes, d) => bytes.length + uptoBulk d + 1
  | (_, d) => uptoBulk d + 1
 end
def uptoSmall : (H : Type) → List (DataW H) → Bool := fun _ ds => decide (uptoBulkAll ds ≤ 1048576)
def OpenSpec.upto (s : _root_.Go.ChangeSpec) : _root_.Go.OpenSpec := { _root_.Go.OpenSpec.ofChange s with cond := some uptoSmall }

/-- 'winepresslaw04.VliPuts', WHERE WHAT IT READS IS OF BULK AT MOST 1048576: true; the input reads as it did. -/
def vliPutsUptoRow : OpenClaim := { program := "ytmnbbpckglppjaa", sum := "e49a544f0c1fca930734a3dad4e61198b1daaee6d0ec03b2c4c24cb84e2c87d8", func := "winepress/winepresslaw04.VliPuts", spec := "vliPuts", unfollowed := true, recurses := true, plainKeys := false, apart := false, narrowed := true }
def VliPutsUptoSaid : Prop := vliPutsUptoRow.holds Try.pinned (OpenSpec.upto vliPutsSpec)

/-- 'winepresslaw04.VliGets', WHERE WHAT IT READS IS OF BULK AT MOST 1048576: true; the input reads as it did. -/
def vliGetsUptoRow : OpenClaim := { program := "ytmnbbpckglppjaa", sum := "e49a544f0c1fca930734a3dad4e61198b1daaee6d0ec03b2c4c24cb84e2c87d8", func := "winepress/winepresslaw04.VliGets", spec := "vliGets", unfollowed := true, recurses := true, plainKeys := false, apart := false, narrowed := true }
def VliGetsUptoSaid : Prop := vliGetsUptoRow.holds Try.pinned (OpenSpec.upto vliGetsSpec)

/-- 'winepresslaw09.FinderBest', WHERE WHAT IT READS IS OF BULK AT MOST 1048576: true; the input reads as it did. -/
def finderBestUptoRow : OpenClaim := { program := "ytmnbbpckglppjaa", sum := "e49a544f0c1fca930734a3dad4e61198b1daaee6d0ec03b2c4c24cb84e2c87d8", func := "winepress/winepresslaw09.FinderBest", spec := "finderBest", plainKeys := false, apart := false, narrowed := true }
def FinderBestUptoSaid : Prop := finderBestUptoRow.holds Try.pinned (OpenSpec.upto finderBestSpec)

/-- 'winepresslaw09.FinderStood', WHERE WHAT IT READS IS OF BULK AT MOST 1048576: true; the input reads as it did. -/
def finderStoodUptoRow : OpenClaim := { program := "ytmnbbpckglppjaa", sum := "e49a544f0c1fca930734a3dad4e61198b1daaee6d0ec03b2c4c24cb84e2c87d8", func := "winepress/winepresslaw09.FinderStood", spec := "finderStood", plainKeys := false, apart := false, narrowed := true }
def FinderStoodUptoSaid : Prop := finderStoodUptoRow.holds Try.pinned (OpenSpec.upto finderStoodSpec)

/-- 'winepresslaw06.RcdecReads', WHERE WHAT IT READS IS OF BULK AT MOST 1048576: true; the input reads as it did. -/
def rcdecReadsUptoRow : OpenClaim := { program := "ytmnbbpckglppjaa", sum := "e49a544f0c1fca930734a3dad4e61198b1daaee6d0ec03b2c4c24cb84e2c87d8", func := "winepress/winepresslaw06.RcdecReads", spec := "rcdecReads", unfollowed := true, recurses := true, plainKeys := false, apart := false, narrowed := true }
def RcdecReadsUptoSaid : Prop := rcdecReadsUptoRow.holds Try.pinned (OpenSpec.upto rcdecReadsSpec)

/-- 'winepresslaw05.RcencCodes', WHERE WHAT IT READS IS OF BULK AT MOST 1048576: true; the input reads as it did. -/
def rcencCodesUptoRow : OpenClaim := { program := "ytmnbbpckglppjaa", sum := "e49a544f0c1fca930734a3dad4e61198b1daaee6d0ec03b2c4c24cb84e2c87d8", func := "winepress/winepresslaw05.RcencCodes", spec := "rcencCodes", unfollowed := true, recurses := true, plainKeys := false, apart := false, narrowed := true }
def RcencCodesUptoSaid : Prop := rcencCodesUptoRow.holds Try.pinned (OpenSpec.upto rcencCodesSpec)

/-- 'winepresslaw05.RcencSame', WHERE WHAT IT READS IS OF BULK AT MOST 1048576: true; the input reads as it did. -/
def rcencSameUptoRow : OpenClaim := { program := "ytmnbbpckglppjaa", sum := "e49a544f0c1fca930734a3dad4e61198b1daaee6d0ec03b2c4c24cb84e2c87d8", func := "winepress/winepresslaw05.RcencSame", spec := "rcencSame", unfollowed := true, recurses := true, plainKeys := false, apart := false, narrowed := true }
def RcencSameUptoSaid : Prop := rcencSameUptoRow.holds Try.pinned (OpenSpec.upto rcencSameSpec)

/-- 'winepresslaw10.ParseStands', WHERE WHAT IT READS IS OF BULK AT MOST 1048576: true; the input reads as it did. -/
def parseStandsUptoRow : OpenClaim := { program := "ytmnbbpckglppjaa", sum := "e49a544f0c1fca930734a3dad4e61198b1daaee6d0ec03b2c4c24cb84e2c87d8", func := "winepress/winepresslaw10.ParseStands", spec := "parseStands", unfollowed := true, recurses := true, plainKeys := false, apart := false, narrowed := true }
def ParseStandsUptoSaid : Prop := parseStandsUptoRow.holds Try.pinned (OpenSpec.upto parseStandsSpec)

/-- 'winepresslaw06.RcdecBack', WHERE WHAT IT READS IS OF BULK AT MOST 1048576: true; the input reads as it did. -/
def rcdecBackUptoRow : OpenClaim := { program := "ytmnbbpckglppjaa", sum := "e49a544f0c1fca930734a3dad4e61198b1daaee6d0ec03b2c4c24cb84e2c87d8", func := "winepress/winepresslaw06.RcdecBack", spec := "rcdecBack", unfollowed := true, recurses := true, plainKeys := false, apart := false, narrowed := true }
def RcdecBackUptoSaid : Prop := rcdecBackUptoRow.holds Try.pinned (OpenSpec.upto rcdecBackSpec)

/-- 'winepresslaw21.PoolPlays', WHERE WHAT IT READS IS OF BULK AT MOST 1048576: true; the input reads as it did. -/
def poolPlaysUptoRow : OpenClaim := { program := "ytmnbbpckglppjaa", sum := "e49a544f0c1fca930734a3dad4e61198b1daaee6d0ec03b2c4c24cb84e2c87d8", func := "winepress/winepresslaw21.PoolPlays", spec := "poolPlays", unfollowed := true, recurses := true, plainKeys := false, apart := false, narrowed := true }
def PoolPlaysUptoSaid : Prop := poolPlaysUptoRow.holds Try.pinned (OpenSpec.upto poolPlaysSpec)

/-- 'winepresslaw21.PoolEnds', WHERE WHAT IT READS IS OF BULK AT MOST 1048576: true; the input reads as it did. -/
def poolEndsUptoRow : OpenClaim := { program := "ytmnbbpckglppjaa", sum := "e49a544f0c1fca930734a3dad4e61198b1daaee6d0ec03b2c4c24cb84e2c87d8", func := "winepress/winepresslaw21.PoolEnds", spec := "poolEnds", unfollowed := true, recurses := true, plainKeys := false, apart := false, narrowed := true }
def PoolEndsUptoSaid : Prop := poolEndsUptoRow.holds Try.pinned (OpenSpec.upto poolEndsSpec)

end Rows
end Go.Proofs.Ytmnbbpckglppjaa
