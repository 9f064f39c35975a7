/-
  No cell of these rows narrows 'for every input' (looked for: loops, veiled, ifaces, maps, wideKeys, modest, calm, conditions, laid).
  DERIVED. THE GIVEN ROWS OF THIS SEAT. 12 by the template 'for every input the law returns true; each argument reads behind the call as it read before'; 0 by the template 'total and deterministic' (their statements: YtiibjaommelkkaaTotals.lean).
  GIVEN WITH THE SEED: the statements are not yours to turn. If you find one false, say at which input.
  Laid BY PROGRAM, IN A SANDBOX (cutbox-rows.mjs): the forced cells as the released guide's own fill.sh prints them over the translation 0e2589e9ce80514f… (all of the seat's roots in one cut). By AI agents, Wed Nov 11 2026. No macro, syntax, notation, axiom, sorry.
-/
import Derived.Test.YtiibjaommelkkaaChecked
import GoSem.Claim
import GoSem.ClaimJoined
import GoSem.ClaimMapViews
import Derived.JoinedTies
import Derived.KernelRfl
namespace Go.Proofs.Ytiibjaommelkkaa
/- THE CELL 'sum', in the pinned program and in every row, IS THE sha256 OF THE DUMP (.gsa) THAT YtiibjaommelkkaaProg.lean LOADS. Nothing in Lean hashes anything: it is a label: what it is worth is what the hold of that sum in a sandbox is worth. -/
noncomputable def Try.pinned : Pinned := { name := "ytiibjaommelkkaa", sum := "0e2589e9ce80514f17033b70509f13ea05cb4db89e47f3714a249d00d49f500e", checked := Try.checked }
namespace Rows
def none {H : Type} : Left H := { results := [], args := [] }

/-- 'winepresslaw13.DeltaCodes': WHATEVER THE INPUT: true; the input reads as it did. -/
def deltaCodesSpec : ChangeSpec := { name := "deltaCodes", fn := fun _ => fun
  | [d1, d2] => { results := [.lit (.bool true)], args := [d1, d2] }
  | _ => none }
def deltaCodesRow : OpenClaim := { program := "ytiibjaommelkkaa", sum := "0e2589e9ce80514f17033b70509f13ea05cb4db89e47f3714a249d00d49f500e", func := "winepress/winepresslaw13.DeltaCodes", spec := "deltaCodes", unfollowed := true, recurses := true, apart := false }
def DeltaCodesSaid : Prop := deltaCodesRow.holds Try.pinned (OpenSpec.ofChange deltaCodesSpec)

/-- ITS FALSE NEIGHBOUR: 'it returns false'. Refute it at one input. -/
def deltaCodesWrong : ChangeSpec := { name := "deltaCodes", fn := fun _ => fun
  | [d1, d2] => { results := [.lit (.bool false)], args := [d1, d2] }
  | _ => none }
def DeltaCodesWrongFalsely : Prop := deltaCodesRow.holds Try.pinned (OpenSpec.ofChange deltaCodesWrong)

/-- 'winepresslaw13.DeltaRows': WHATEVER THE INPUT: true; the input reads as it did. -/
def deltaRowsSpec : ChangeSpec := { name := "deltaRows", fn := fun _ => fun
  | [d1, d2] => { results := [.lit (.bool true)], args := [d1, d2] }
  | _ => none }
def deltaRowsRow : OpenClaim := { program := "ytiibjaommelkkaa", sum := "0e2589e9ce80514f17033b70509f13ea05cb4db89e47f3714a249d00d49f500e", func := "winepress/winepresslaw13.DeltaRows", spec := "deltaRows", unfollowed := true, recurses := true, apart := false }
def DeltaRowsSaid : Prop := deltaRowsRow.holds Try.pinned (OpenSpec.ofChange deltaRowsSpec)

/-- ITS FALSE NEIGHBOUR: 'it returns false'. Refute it at one input. -/
def deltaRowsWrong : ChangeSpec := { name := "deltaRows", fn := fun _ => fun
  | [d1, d2] => { results := [.lit (.bool false)], args := [d1, d2] }
  | _ => none }
def DeltaRowsWrongFalsely : Prop := deltaRowsRow.holds Try.pinned (OpenSpec.ofChange deltaRowsWrong)

/-- 'winepresslaw02.Crc64Sums': WHATEVER THE INPUT: true; the input reads as it did. -/
def crc64SumsSpec : ChangeSpec := { name := "crc64Sums", fn := fun _ => fun
  | [d1, d2, d3] => { results := [.lit (.bool true)], args := [d1, d2, d3] }
  | _ => none }
def crc64SumsRow : OpenClaim := { program := "ytiibjaommelkkaa", sum := "0e2589e9ce80514f17033b70509f13ea05cb4db89e47f3714a249d00d49f500e", func := "winepress/winepresslaw02.Crc64Sums", spec := "crc64Sums", apart := false }
def Crc64SumsSaid : Prop := crc64SumsRow.holds Try.pinned (OpenSpec.ofChange crc64SumsSpec)

/-- ITS FALSE NEIGHBOUR: 'it returns false'. Refute it at one input. -/
def crc64SumsWrong : ChangeSpec := { name := "crc64Sums", fn := fun _ => fun
  | [d1, d2, d3] => { results := [.lit (.bool false)], args := [d1, d2, d3] }
  | _ => none }
def Crc64SumsWrongFalsely : Prop := crc64SumsRow.holds Try.pinned (OpenSpec.ofChange crc64SumsWrong)

/-- 'winepresslaw01.Crc32Sums': WHATEVER THE INPUT: true; the input reads as it did. -/
def crc32SumsSpec : ChangeSpec := { name := "crc32Sums", fn := fun _ => fun
  | [d1, d2] => { results := [.lit (.bool true)], args := [d1, d2] }
  | _ => none }
def crc32SumsRow : OpenClaim := { program := "ytiibjaommelkkaa", sum := "0e2589e9ce80514f17033b70509f13ea05cb4db89e47f3714a249d00d49f500e", func := "winepress/winepresslaw01.Crc32Sums", spec := "crc32Sums", apart := false }
def Crc32SumsSaid : Prop := crc32SumsRow.holds Try.pinned (OpenSpec.ofChange crc32SumsSpec)

/-- ITS FALSE NEIGHBOUR: 'it returns false'. Refute it at one input. -/
def crc32SumsWrong : ChangeSpec := { name := "crc32Sums", fn := fun _ => fun
  | [d1, d2] => { results := [.lit (.bool false)], args := [d1, d2] }
  | _ => none }
def Crc32SumsWrongFalsely : Prop := crc32SumsRow.holds Try.pinned (OpenSpec.ofChange crc32SumsWrong)

/-- 'winepresslaw01.Crc32Parts': WHATEVER THE INPUT: true; the input reads as it did. -/
def crc32PartsSpec : ChangeSpec := { name := "crc32Parts", fn := fun _ => fun
  | [d1, d2, d3] => { results := [.lit (.bool true)], args := [d1, d2, d3] }
  | _ => none }
def crc32PartsRow : OpenClaim := { program := "ytiibjaommelkkaa", sum := "0e2589e9ce80514f17033b70509f13ea05cb4db89e47f3714a249d00d49f500e", func := "winepress/winepresslaw01.Crc32Parts", spec := "crc32Parts", apart := false }
def Crc32PartsSaid : Prop := crc32PartsRow.holds Try.pinned (OpenSpec.ofChange crc32PartsSpec)

/-- ITS FALSE NEIGHBOUR: 'it returns false'. Refute it at one input. -/
def crc32PartsWrong : ChangeSpec := { name := "crc32Parts", fn := fun _ => fun
  | [d1, d2, d3] => { results := [.lit (.bool false)], args := [d1, d2, d3] }
  | _ => none }
def Crc32PartsWrongFalsely : Prop := crc32PartsRow.holds Try.pinned (OpenSpec.ofChange crc32PartsWrong)

/-- 'winepresslaw01.Crc32Bursts': WHATEVER THE INPUT: true; the input reads as it did. -/
def crc32BurstsSpec : ChangeSpec := { name := "crc32Bursts", fn := fun _ => fun
  | [d1, d2, d3] => { results := [.lit (.bool true)], args := [d1, d2, d3] }
  | _ => none }
def crc32BurstsRow : OpenClaim := { program := "ytiibjaommelkkaa", sum := "0e2589e9ce80514f17033b70509f13ea05cb4db89e47f3714a249d00d49f500e", func := "winepress/winepresslaw01.Crc32Bursts", spec := "crc32Bursts", apart := false }
def Crc32BurstsSaid : Prop := crc32BurstsRow.holds Try.pinned (OpenSpec.ofChange crc32BurstsSpec)

/-- ITS FALSE NEIGHBOUR: 'it returns false'. Refute it at one input. -/
def crc32BurstsWrong : ChangeSpec := { name := "crc32Bursts", fn := fun _ => fun
  | [d1, d2, d3] => { results := [.lit (.bool false)], args := [d1, d2, d3] }
  | _ => none }
def Crc32BurstsWrongFalsely : Prop := crc32BurstsRow.holds Try.pinned (OpenSpec.ofChange crc32BurstsWrong)

/-- 'winepresslaw14.BranchCodes': WHATEVER THE INPUT: true; the input reads as it did. -/
def branchCodesSpec : ChangeSpec := { name := "branchCodes", fn := fun _ => fun
  | [d1, d2, d3] => { results := [.lit (.bool true)], args := [d1, d2, d3] }
  | _ => none }
def branchCodesRow : OpenClaim := { program := "ytiibjaommelkkaa", sum := "0e2589e9ce80514f17033b70509f13ea05cb4db89e47f3714a249d00d49f500e", func := "winepress/winepresslaw14.BranchCodes", spec := "branchCodes", unfollowed := true, recurses := true, apart := false }
def BranchCodesSaid : Prop := branchCodesRow.holds Try.pinned (OpenSpec.ofChange branchCodesSpec)

/-- ITS FALSE NEIGHBOUR: 'it returns false'. Refute it at one input. -/
def branchCodesWrong : ChangeSpec := { name := "branchCodes", fn := fun _ => fun
  | [d1, d2, d3] => { results := [.lit (.bool false)], args := [d1, d2, d3] }
  | _ => none }
def BranchCodesWrongFalsely : Prop := branchCodesRow.holds Try.pinned (OpenSpec.ofChange branchCodesWrong)

/-- 'winepresslaw14.BranchBack': WHATEVER THE INPUT: true; the input reads as it did. -/
def branchBackSpec : ChangeSpec := { name := "branchBack", fn := fun _ => fun
  | [d1, d2, d3] => { results := [.lit (.bool true)], args := [d1, d2, d3] }
  | _ => none }
def branchBackRow : OpenClaim := { program := "ytiibjaommelkkaa", sum := "0e2589e9ce80514f17033b70509f13ea05cb4db89e47f3714a249d00d49f500e", func := "winepress/winepresslaw14.BranchBack", spec := "branchBack", unfollowed := true, recurses := true, apart := false }
def BranchBackSaid : Prop := branchBackRow.holds Try.pinned (OpenSpec.ofChange branchBackSpec)

/-- ITS FALSE NEIGHBOUR: 'it returns false'. Refute it at one input. -/
def branchBackWrong : ChangeSpec := { name := "branchBack", fn := fun _ => fun
  | [d1, d2, d3] => { results := [.lit (.bool false)], args := [d1, d2, d3] }
  | _ => none }
def BranchBackWrongFalsely : Prop := branchBackRow.holds Try.pinned (OpenSpec.ofChange branchBackWrong)

/-- 'winepresslaw03.Sha256Sums': WHATEVER THE INPUT: true; the input reads as it did. -/
def sha256SumsSpec : ChangeSpec := { name := "sha256Sums", fn := fun _ => fun
  | [d] => { results := [.lit (.bool true)], args := [d] }
  | _ => none }
def sha256SumsRow : OpenClaim := { program := "ytiibjaommelkkaa", sum := "0e2589e9ce80514f17033b70509f13ea05cb4db89e47f3714a249d00d49f500e", func := "winepress/winepresslaw03.Sha256Sums", spec := "sha256Sums", apart := false }
def Sha256SumsSaid : Prop := sha256SumsRow.holds Try.pinned (OpenSpec.ofChange sha256SumsSpec)

/-- ITS FALSE NEIGHBOUR: 'it returns false'. Refute it at one input. -/
def sha256SumsWrong : ChangeSpec := { name := "sha256Sums", fn := fun _ => fun
  | [d] => { results := [.lit (.bool false)], args := [d] }
  | _ => none }
def Sha256SumsWrongFalsely : Prop := sha256SumsRow.holds Try.pinned (OpenSpec.ofChange sha256SumsWrong)

/-- 'winepresslaw03.Sha256Parts': WHATEVER THE INPUT: true; the input reads as it did. -/
def sha256PartsSpec : ChangeSpec := { name := "sha256Parts", fn := fun _ => fun
  | [d] => { results := [.lit (.bool true)], args := [d] }
  | _ => none }
def sha256PartsRow : OpenClaim := { program := "ytiibjaommelkkaa", sum := "0e2589e9ce80514f17033b70509f13ea05cb4db89e47f3714a249d00d49f500e", func := "winepress/winepresslaw03.Sha256Parts", spec := "sha256Parts", apart := false }
def Sha256PartsSaid : Prop := sha256PartsRow.holds Try.pinned (OpenSpec.ofChange sha256PartsSpec)

/-- ITS FALSE NEIGHBOUR: 'it returns false'. Refute it at one input. -/
def sha256PartsWrong : ChangeSpec := { name := "sha256Parts", fn := fun _ => fun
  | [d] => { results := [.lit (.bool false)], args := [d] }
  | _ => none }
def Sha256PartsWrongFalsely : Prop := sha256PartsRow.holds Try.pinned (OpenSpec.ofChange sha256PartsWrong)

/-- 'winepresslaw15.ChainFilters': WHATEVER THE INPUT: true; the input reads as it did. -/
def chainFiltersSpec : ChangeSpec := { name := "chainFilters", fn := fun _ => fun
  | [d1, d2, d3, d4, d5] => { results := [.lit (.bool true)], args := [d1, d2, d3, d4, d5] }
  | _ => none }
def chainFiltersRow : OpenClaim := { program := "ytiibjaommelkkaa", sum := "0e2589e9ce80514f17033b70509f13ea05cb4db89e47f3714a249d00d49f500e", func := "winepress/winepresslaw15.ChainFilters", spec := "chainFilters", unfollowed := true, recurses := true, apart := false }
def ChainFiltersSaid : Prop := chainFiltersRow.holds Try.pinned (OpenSpec.ofChange chainFiltersSpec)

/-- ITS FALSE NEIGHBOUR: 'it returns false'. Refute it at one input. -/
def chainFiltersWrong : ChangeSpec := { name := "chainFilters", fn := fun _ => fun
  | [d1, d2, d3, d4, d5] => { results := [.lit (.bool false)], args := [d1, d2, d3, d4, d5] }
  | _ => none }
def ChainFiltersWrongFalsely : Prop := chainFiltersRow.holds Try.pinned (OpenSpec.ofChange chainFiltersWrong)

/-- 'winepresslaw15.ChainSends': WHATEVER THE INPUT: true; the input reads as it did. -/
def chainSendsSpec : ChangeSpec := { name := "chainSends", fn := fun _ => fun
  | [d1, d2] => { results := [.lit (.bool true)], args := [d1, d2] }
  | _ => none }
def chainSendsRow : OpenClaim := { program := "ytiibjaommelkkaa", sum := "0e2589e9ce80514f17033b70509f13ea05cb4db89e47f3714a249d00d49f500e", func := "winepress/winepresslaw15.ChainSends", spec := "chainSends", unfollowed := true, recurses := true, apart := false }
def ChainSendsSaid : Prop := chainSendsRow.holds Try.pinned (OpenSpec.ofChange chainSendsSpec)

/-- ITS FALSE NEIGHBOUR: 'it returns false'. Refute it at one input. -/
def chainSendsWrong : ChangeSpec := { name := "chainSends", fn := fun _ => fun
  | [d1, d2] => { results := [.lit (.bool false)], args := [d1, d2] }
  | _ => none }
def ChainSendsWrongFalsely : Prop := chainSendsRow.holds Try.pinned (OpenSpec.ofChange chainSendsWrong)

/- THE SECOND FORM. 'bulk': how many values and letters a reading holds, each counted each time it is reached (what is shared counts as often as it is met; a slice's spare places count too). A statement '..UptoSaid' is the law's where the arguments, and the package variables that the reading takes, are together of bulk at most 1048576: NARROWER than '..Said'. Prove '..Said' where nothing that the law and all that it calls make is longer than what came in: it says more and counts as full. Else prove '..UptoSaid'. A law counts once. -/
mutual
def uptoBulk {H : Type} : DataW H → Nat
  | .lit (.string bytes) => bytes.length + 1
  | .lit _ => 1
  | .nil => 1
  | .ptr d => uptoBulk d + 1
  | .slice elems spare => uptoBulkAll elems + uptoBulkAll spare + 1
  | .agg parts => uptoBulkAll parts + 1
  | .iface _ d => uptoBulk d + 1
  | .map entries => uptoBulkEntries entries + 1
  | .held _ => 1
def uptoBulkAll {H : Type} : List (DataW H) → Nat
  | [] => 0
  | d :: r => uptoBulk d + uptoBulkAll r
def uptoBulkEntries {H : Type} : List (Lit × DataW H) → Nat
  | [] => 0
  | x :: r => uptoBulkEntry x + uptoBulkEntries r
def uptoBulkEntry {H : Type} : Lit × DataW H → Nat
  | (.string bytes, d) => bytes.length + uptoBulk d + 1
  | (_, d) => uptoBulk d + 1
 end
def uptoSmall : (H : Type) → List (DataW H) → Bool := fun _ ds => decide (uptoBulkAll ds ≤ 1048576)
def OpenSpec.upto (s : _root_.Go.ChangeSpec) : _root_.Go.OpenSpec := { _root_.Go.OpenSpec.ofChange s with cond := some uptoSmall }

/-- 'winepresslaw13.DeltaCodes', WHERE WHAT IT READS IS OF BULK AT MOST 1048576: true; the input reads as it did. -/
def deltaCodesUptoRow : OpenClaim := { program := "ytiibjaommelkkaa", sum := "0e2589e9ce80514f17033b70509f13ea05cb4db89e47f3714a249d00d49f500e", func := "winepress/winepresslaw13.DeltaCodes", spec := "deltaCodes", unfollowed := true, recurses := true, apart := false, narrowed := true }
def DeltaCodesUptoSaid : Prop := deltaCodesUptoRow.holds Try.pinned (OpenSpec.upto deltaCodesSpec)

/-- 'winepresslaw13.DeltaRows', WHERE WHAT IT READS IS OF BULK AT MOST 1048576: true; the input reads as it did. -/
def deltaRowsUptoRow : OpenClaim := { program := "ytiibjaommelkkaa", sum := "0e2589e9ce80514f17033b70509f13ea05cb4db89e47f3714a249d00d49f500e", func := "winepress/winepresslaw13.DeltaRows", spec := "deltaRows", unfollowed := true, recurses := true, apart := false, narrowed := true }
def DeltaRowsUptoSaid : Prop := deltaRowsUptoRow.holds Try.pinned (OpenSpec.upto deltaRowsSpec)

/-- 'winepresslaw02.Crc64Sums', WHERE WHAT IT READS IS OF BULK AT MOST 1048576: true; the input reads as it did. -/
def crc64SumsUptoRow : OpenClaim := { program := "ytiibjaommelkkaa", sum := "0e2589e9ce80514f17033b70509f13ea05cb4db89e47f3714a249d00d49f500e", func := "winepress/winepresslaw02.Crc64Sums", spec := "crc64Sums", apart := false, narrowed := true }
def Crc64SumsUptoSaid : Prop := crc64SumsUptoRow.holds Try.pinned (OpenSpec.upto crc64SumsSpec)

/-- 'winepresslaw01.Crc32Sums', WHERE WHAT IT READS IS OF BULK AT MOST 1048576: true; the input reads as it did. -/
def crc32SumsUptoRow : OpenClaim := { program := "ytiibjaommelkkaa", sum := "0e2589e9ce80514f17033b70509f13ea05cb4db89e47f3714a249d00d49f500e", func := "winepress/winepresslaw01.Crc32Sums", spec := "crc32Sums", apart := false, narrowed := true }
def Crc32SumsUptoSaid : Prop := crc32SumsUptoRow.holds Try.pinned (OpenSpec.upto crc32SumsSpec)

/-- 'winepresslaw01.Crc32Parts', WHERE WHAT IT READS IS OF BULK AT MOST 1048576: true; the input reads as it did. -/
def crc32PartsUptoRow : OpenClaim := { program := "ytiibjaommelkkaa", sum := "0e2589e9ce80514f17033b70509f13ea05cb4db89e47f3714a249d00d49f500e", func := "winepress/winepresslaw01.Crc32Parts", spec := "crc32Parts", apart := false, narrowed := true }
def Crc32PartsUptoSaid : Prop := crc32PartsUptoRow.holds Try.pinned (OpenSpec.upto crc32PartsSpec)

/-- 'winepresslaw01.Crc32Bursts', WHERE WHAT IT READS IS OF BULK AT MOST 1048576: true; the input reads as it did. -/
def crc32BurstsUptoRow : OpenClaim := { program := "ytiibjaommelkkaa", sum := "0e2589e9ce80514f17033b70509f13ea05cb4db89e47f3714a249d00d49f500e", func := "winepress/winepresslaw01.Crc32Bursts", spec := "crc32Bursts", apart := false, narrowed := true }
def Crc32BurstsUptoSaid : Prop := crc32BurstsUptoRow.holds Try.pinned (OpenSpec.upto crc32BurstsSpec)

/-- 'winepresslaw14.BranchCodes', WHERE WHAT IT READS IS OF BULK AT MOST 1048576: true; the input reads as it did. -/
def branchCodesUptoRow : OpenClaim := { program := "ytiibjaommelkkaa", sum := "0e2589e9ce80514f17033b70509f13ea05cb4db89e47f3714a249d00d49f500e", func := "winepress/winepresslaw14.BranchCodes", spec := "branchCodes", unfollowed := true, recurses := true, apart := false, narrowed := true }
def BranchCodesUptoSaid : Prop := branchCodesUptoRow.holds Try.pinned (OpenSpec.upto branchCodesSpec)

/-- 'winepresslaw14.BranchBack', WHERE WHAT IT READS IS OF BULK AT MOST 1048576: true; the input reads as it did. -/
def branchBackUptoRow : OpenClaim := { program := "ytiibjaommelkkaa", sum := "0e2589e9ce80514f17033b70509f13ea05cb4db89e47f3714a249d00d49f500e", func := "winepress/winepresslaw14.BranchBack", spec := "branchBack", unfollowed := true, recurses := true, apart := false, narrowed := true }
def BranchBackUptoSaid : Prop := branchBackUptoRow.holds Try.pinned (OpenSpec.upto branchBackSpec)

/-- 'winepresslaw03.Sha256Sums', WHERE WHAT IT READS IS OF BULK AT MOST 1048576: true; the input reads as it did. -/
def sha256SumsUptoRow : OpenClaim := { program := "ytiibjaommelkkaa", sum := "0e2589e9ce80514f17033b70509f13ea05cb4db89e47f3714a249d00d49f500e", func := "winepress/winepresslaw03.Sha256Sums", spec := "sha256Sums", apart := false, narrowed := true }
def Sha256SumsUptoSaid : Prop := sha256SumsUptoRow.holds Try.pinned (OpenSpec.upto sha256SumsSpec)

/-- 'winepresslaw03.Sha256Parts', WHERE WHAT IT READS IS OF BULK AT MOST 1048576: true; the input reads as it did. -/
def sha256PartsUptoRow : OpenClaim := { program := "ytiibjaommelkkaa", sum := "0e2589e9ce80514f17033b70509f13ea05cb4db89e47f3714a249d00d49f500e", func := "winepress/winepresslaw03.Sha256Parts", spec := "sha256Parts", apart := false, narrowed := true }
def Sha256PartsUptoSaid : Prop := sha256PartsUptoRow.holds Try.pinned (OpenSpec.upto sha256PartsSpec)

/-- 'winepresslaw15.ChainFilters', WHERE WHAT IT READS IS OF BULK AT MOST 1048576: true; the input reads as it did. -/
def chainFiltersUptoRow : OpenClaim := { program := "ytiibjaommelkkaa", sum := "0e2589e9ce80514f17033b70509f13ea05cb4db89e47f3714a249d00d49f500e", func := "winepress/winepresslaw15.ChainFilters", spec := "chainFilters", unfollowed := true, recurses := true, apart := false, narrowed := true }
def ChainFiltersUptoSaid : Prop := chainFiltersUptoRow.holds Try.pinned (OpenSpec.upto chainFiltersSpec)

/-- 'winepresslaw15.ChainSends', WHERE WHAT IT READS IS OF BULK AT MOST 1048576: true; the input reads as it did. -/
def chainSendsUptoRow : OpenClaim := { program := "ytiibjaommelkkaa", sum := "0e2589e9ce80514f17033b70509f13ea05cb4db89e47f3714a249d00d49f500e", func := "winepress/winepresslaw15.ChainSends", spec := "chainSends", unfollowed := true, recurses := true, apart := false, narrowed := true }
def ChainSendsUptoSaid : Prop := chainSendsUptoRow.holds Try.pinned (OpenSpec.upto chainSendsSpec)

end Rows
end Go.Proofs.Ytiibjaommelkkaa
