/- The given statement on IndexPuts: the row's step over the law's contract. Printed by a program of our own. -/
import Derived.Test.YtmdeoikpiiambaaRows
import Derived.WalkKit
import Derived.ProofKit
import Derived.OpenShut
import Derived.ShutString
import Derived.ChangeOld
import Derived.Below
import Derived.Test.YtmdeoikpiiambaaIndexPutsZ5
set_option linter.unusedVariables false
set_option maxRecDepth 100000
namespace Go.Proofs.Ytmdeoikpiiambaa.indexPutsDone
open Go Go.ChangeShapes Go.WideShapes Go.ChangeAt Go.RowKit
theorem own : ownKnob Try.prog.godebug = none := by kernel_rfl
theorem laidOut : laidOutB Try.prog = true := by kernel_rfl

def G0 (a : List ((Int) × (Int) × Unit)) : Eng.AV := .ro a.length (a.flatMap (fun p : (Int) × (Int) × Unit => (fun b : Int => [Eng.AV.int .i64 b]) p.1 ++ (fun p : (Int) × Unit => (fun b : Int => [Eng.AV.int .i64 b]) p.1 ++ (fun _ : Unit => []) p.2) p.2))
def G0ok : List ((Int) × (Int) × Unit) → Prop := fun L : List ((Int) × (Int) × Unit) => L.length ≤ maxLen ∧ ∀ z ∈ L, (fun p : (Int) × (Int) × Unit => (fun n : Int => -9223372036854775808 ≤ n ∧ n < 9223372036854775808) p.1 ∧ (fun p : (Int) × Unit => (fun n : Int => -9223372036854775808 ≤ n ∧ n < 9223372036854775808) p.1 ∧ (fun _ : Unit => True) p.2) p.2) z
theorem walk (v0 : Value) (a0 : List ((Int) × (Int) × Unit)) (a1 : Option Addr) (len1 cap1 : Nat) (z1 : List Int) (w : World) (w0 : G0ok a0 ∧ ∀ B, Eng.Den (fun a => w.cell? a) B (G0 a0) v0) (w1 : Eng.IsRow .u8 w a1 len1 cap1 z1) :
    Calls Try.prog 6 #[v0, .slice a1 len1 cap1] w fun e w' => e = .returned (.bool true) ∧ Below w.heap.size w w' := by
  obtain ⟨b1, q1, m1, d1⟩ := w1.bv8 (fun _ => none)
  refine Eng.law_ok (args := [G0 a0, .ro b1.length (Eng.bvs .u8 b1)]) (vs := [v0, .slice a1 len1 cap1]) (indexPutsOk a0 w0.1 b1 m1) ?_
  simp only [Eng.DenL]
  exact ⟨_, _, rfl, w0.2 _, ⟨_, _, rfl, d1, rfl⟩⟩
theorem lifted (os : Os) (started : os.Started) (H : Type) (enc : TypeId × Value → H) :
    ReturnsInHanded {} Try.checked os 6 .any (Rows.indexPutsSpec.pre6 enc Try.prog Try.f6 Rows.indexPutsRow.domain false) (Rows.indexPutsSpec.post enc Try.prog Try.f6 false true false false) := by
  refine returnsInHanded_of_change (C := Try.checked) own started (by kernel_rfl) Try.func6
    (ChangeSpec.witness6 (enc := enc) (C := Try.checked) false ⟨#[], #[.slice none 0 0, .slice none 0 0], []⟩ 8 (by kernel_rfl) (by kernel_rfl) (by kernel_rfl) (by kernel_rfl)) ?_
  intro W base args ds gs before hval0 hW hcnd _
  have hval : ∀ (j : Nat) t v, Try.f6.params[j]? = some t → args[j]? = some v → Value.okWide Try.prog W .any base t v := hval0
  have hW' := hW
  obtain ⟨p, q, hA0, hV, rfl, hfz, hnd⟩ := hW
  have hA : DataW.TrodAll enc Try.prog W 0 (fun _ => true) true Try.f6.params.toList args.toList ds p := hA0
  rw [Try.params6] at hA hval
  obtain ⟨v0, vs0, d0, ds0, p0, q0, hargs, rfl, rfl, h0, r0⟩ := trodAll_cons hA
  obtain ⟨v1, vs1, d1, ds1, p1, q1, rfl, rfl, rfl, h1, r1⟩ := trodAll_cons r0
  obtain ⟨rfl, rfl, rfl⟩ := trodAll_nil r1
  obtain rfl : args = #[v0, v1] := by cases args; simp_all
  obtain ⟨rfl, rfl⟩ := trodVars_none hV
  have k0 := h0
  have lt0 : ∀ x ∈ p0, x.block < W.heap.size := by obtain ⟨m, hm⟩ := k0; exact DataW.trod_lt m _ _ _ hm
  obtain ⟨a0, w0⟩ : ∃ a, G0ok a ∧ ∀ B, Eng.Den (fun a => W.cell? a) B (G0 a) v0 := ((Eng.Reads.slice Try.underlying44 (Eng.Reads.struct Try.underlying126 (Eng.ReadsF.cons (o := 0) (o' := 1) rfl (by kernel_rfl) (Eng.Reads.i64 Try.underlying2) (Eng.ReadsF.cons (o := 1) (o' := 2) rfl (by kernel_rfl) (Eng.Reads.i64 Try.underlying2) (Eng.ReadsF.nil (by kernel_rfl)))))) : Eng.Reads Try.prog W 44 (fun a => [G0 a]) G0ok).argS Try.underlying44 (okWide_slice Try.underlying44 (hval 0 44 v0 rfl rfl)) h0
  obtain ⟨a1, len1, cap1, rfl⟩ := okWide_slice Try.underlying22 (hval 1 22 v1 rfl rfl)
  have k1 := h1
  have lt1 : ∀ x ∈ p1, x.block < W.heap.size := by obtain ⟨m, hm⟩ := k1; exact DataW.trod_lt m _ _ _ hm
  obtain ⟨z1, w1⟩ : ∃ zs, Eng.IsRow .u8 W a1 len1 cap1 zs := by
    obtain ⟨fuel, hf⟩ := h1
    rcases open_ints Try.underlying22 Try.underlying5 (by kernel_rfl) hf with ⟨hcs, _⟩ | ⟨x, l, c, zs, hcs, _, hl, hm, hz, _, hcell, hwz⟩
    · simp [Value.cells] at hcs
      obtain ⟨rfl, rfl, rfl⟩ := hcs
      exact ⟨[], .inl ⟨rfl, rfl, rfl, rfl⟩⟩
    · simp [Value.cells] at hcs
      obtain ⟨rfl, rfl, rfl⟩ := hcs
      exact ⟨zs, .inr ⟨_, rfl, hl, hm, by simpa using hz, hcell, hwz⟩⟩
  clear hA0 hval0
  refine (walk v0 a0 a1 len1 cap1 z1 W w0 w1).mono fun e W' ⟨he, bel⟩ => ?_
  subst he
  exact ⟨_, rfl, _, _, _, [], _, [], hW', trodAll_mk1 (shut_bool Try.underlying4 _), (trodAll_cons_mk (Below.trod laidOut (by kernel_rfl) (of_decide_eq_true (by kernel_rfl)) k0 bel lt0) (trodAll_cons_mk (Below.trod laidOut (by kernel_rfl) (of_decide_eq_true (by kernel_rfl)) k1 bel lt1) trodAll_mk0)), rfl, bel.frame _, fun h => by cases h⟩

theorem over : Rows.indexPutsRow.holds Try.pinned (OpenSpec.ofChange Rows.indexPutsSpec) :=
  OpenClaim.holds_of_wide 6 Try.f6 rfl rfl rfl rfl rfl rfl rfl ⟨rfl, rfl, rfl, rfl, rfl⟩ rfl rfl rfl rfl rfl (by kernel_rfl) Try.func6 (by kernel_rfl)
    (of_decide_eq_true (by kernel_rfl)) (by unfold Func.isWrapper; first | (rw [if_pos (by decide +kernel)]; kernel_rfl) | (rw [if_neg (by decide +kernel)]; exact ⟨rfl, rfl⟩))
    (fun os started H enc _ => lifted os started H enc)

/-- THE STATEMENT -/
theorem proved : Rows.IndexPutsSaid := over
#print axioms proved
end Go.Proofs.Ytmdeoikpiiambaa.indexPutsDone
