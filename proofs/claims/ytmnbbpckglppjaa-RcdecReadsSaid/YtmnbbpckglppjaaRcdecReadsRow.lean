/- The given statement on RcdecReads: the row's step over the law's contract. Printed by a program of our own. -/
import Derived.Test.YtmnbbpckglppjaaRows
import Derived.Test.YtmnbbpckglppjaaRdf
import Derived.Test.YtmnbbpckglppjaaEng24
import Derived.WalkKit
import Derived.ProofKit
import Derived.OpenShut
import Derived.ShutString
import Derived.ChangeOld
import Derived.Below
set_option linter.unusedVariables false
set_option maxRecDepth 100000
namespace Go.Proofs.Ytmnbbpckglppjaa.rcdecReadsDone
open Go Go.ChangeShapes Go.WideShapes Go.ChangeAt Go.RowKit
theorem own : ownKnob Try.prog.godebug = none := by kernel_rfl
theorem laidOut : laidOutB Try.prog = true := by kernel_rfl

def G1 (a : List ((Int) × (BitVec 16) × (Int) × (BitVec 32) × (Int) × Unit)) : Eng.AV := .ro a.length (a.flatMap (fun p : (Int) × (BitVec 16) × (Int) × (BitVec 32) × (Int) × Unit => (fun b : Int => [Eng.AV.int .i64 b]) p.1 ++ (fun p : (BitVec 16) × (Int) × (BitVec 32) × (Int) × Unit => (fun b : BitVec 16 => [Eng.AV.int .u16 (b.toNat : Int)]) p.1 ++ (fun p : (Int) × (BitVec 32) × (Int) × Unit => (fun b : Int => [Eng.AV.int .i64 b]) p.1 ++ (fun p : (BitVec 32) × (Int) × Unit => (fun b : BitVec 32 => [Eng.AV.int .u32 (b.toNat : Int)]) p.1 ++ (fun p : (Int) × Unit => (fun b : Int => [Eng.AV.int .i64 b]) p.1 ++ (fun _ : Unit => []) p.2) p.2) p.2) p.2) p.2))
def G1ok : List ((Int) × (BitVec 16) × (Int) × (BitVec 32) × (Int) × Unit) → Prop := fun L : List ((Int) × (BitVec 16) × (Int) × (BitVec 32) × (Int) × Unit) => L.length ≤ maxLen ∧ ∀ z ∈ L, (fun p : (Int) × (BitVec 16) × (Int) × (BitVec 32) × (Int) × Unit => (fun n : Int => -9223372036854775808 ≤ n ∧ n < 9223372036854775808) p.1 ∧ (fun p : (BitVec 16) × (Int) × (BitVec 32) × (Int) × Unit => (fun _ : BitVec 16 => True) p.1 ∧ (fun p : (Int) × (BitVec 32) × (Int) × Unit => (fun n : Int => -9223372036854775808 ≤ n ∧ n < 9223372036854775808) p.1 ∧ (fun p : (BitVec 32) × (Int) × Unit => (fun _ : BitVec 32 => True) p.1 ∧ (fun p : (Int) × Unit => (fun n : Int => -9223372036854775808 ≤ n ∧ n < 9223372036854775808) p.1 ∧ (fun _ : Unit => True) p.2) p.2) p.2) p.2) p.2) z
theorem walk (a0 : Option Addr) (len0 cap0 : Nat) (z0 : List Int) (v1 : Value) (a1 : List ((Int) × (BitVec 16) × (Int) × (BitVec 32) × (Int) × Unit)) (w : World) (w0 : Eng.IsRow .u8 w a0 len0 cap0 z0) (w1 : G1ok a1 ∧ ∀ B, Eng.Den (fun a => w.cell? a) B (G1 a1) v1) :
    Calls Try.prog 7 #[.slice a0 len0 cap0, v1] w fun e w' => e = .returned (.bool true) ∧ Below w.heap.size w w' := by
  obtain ⟨b0, q0, m0, d0⟩ := w0.bv8 (fun _ => none)
  refine Eng.law_ok (args := [.ro b0.length (Eng.bvs .u8 b0), G1 a1]) (vs := [.slice a0 len0 cap0, v1]) (rcdecReadsOk b0 m0 a1 w1.1) ?_
  simp only [Eng.DenL]
  exact ⟨_, _, rfl, d0, ⟨_, _, rfl, w1.2 _, rfl⟩⟩
theorem lifted (os : Os) (started : os.Started) (H : Type) (enc : TypeId × Value → H) :
    ReturnsInHanded {} Try.checked os 7 .any (Rows.rcdecReadsSpec.pre6 enc Try.prog Try.f7 Rows.rcdecReadsRow.domain false) (Rows.rcdecReadsSpec.post enc Try.prog Try.f7 false true false false) := by
  refine returnsInHanded_of_change (C := Try.checked) own started (by kernel_rfl) Try.func7
    (ChangeSpec.witness6 (enc := enc) (C := Try.checked) false ⟨#[], #[.slice none 0 0, .slice none 0 0], []⟩ 8 (by kernel_rfl) (by kernel_rfl) (by kernel_rfl) (by kernel_rfl)) ?_
  intro W base args ds gs before hval0 hW hcnd _
  have hval : ∀ (j : Nat) t v, Try.f7.params[j]? = some t → args[j]? = some v → Value.okWide Try.prog W .any base t v := hval0
  have hW' := hW
  obtain ⟨p, q, hA0, hV, rfl, hfz, hnd⟩ := hW
  have hA : DataW.TrodAll enc Try.prog W 0 (fun _ => true) true Try.f7.params.toList args.toList ds p := hA0
  rw [Try.params7] at hA hval
  obtain ⟨v0, vs0, d0, ds0, p0, q0, hargs, rfl, rfl, h0, r0⟩ := trodAll_cons hA
  obtain ⟨v1, vs1, d1, ds1, p1, q1, rfl, rfl, rfl, h1, r1⟩ := trodAll_cons r0
  obtain ⟨rfl, rfl, rfl⟩ := trodAll_nil r1
  obtain rfl : args = #[v0, v1] := by cases args; simp_all
  obtain ⟨rfl, rfl⟩ := trodVars_none hV
  obtain ⟨a0, len0, cap0, rfl⟩ := okWide_slice Try.underlying23 (hval 0 23 v0 rfl rfl)
  have k0 := h0
  have lt0 : ∀ x ∈ p0, x.block < W.heap.size := by obtain ⟨m, hm⟩ := k0; exact DataW.trod_lt m _ _ _ hm
  obtain ⟨z0, w0⟩ : ∃ zs, Eng.IsRow .u8 W a0 len0 cap0 zs := by
    obtain ⟨fuel, hf⟩ := h0
    rcases open_ints Try.underlying23 Try.underlying5 (by kernel_rfl) hf with ⟨hcs, _⟩ | ⟨x, l, c, zs, hcs, _, hl, hm, hz, _, hcell, hwz⟩
    · simp [Value.cells] at hcs
      obtain ⟨rfl, rfl, rfl⟩ := hcs
      exact ⟨[], .inl ⟨rfl, rfl, rfl, rfl⟩⟩
    · simp [Value.cells] at hcs
      obtain ⟨rfl, rfl, rfl⟩ := hcs
      exact ⟨zs, .inr ⟨_, rfl, hl, hm, by simpa using hz, hcell, hwz⟩⟩
  have k1 := h1
  have lt1 : ∀ x ∈ p1, x.block < W.heap.size := by obtain ⟨m, hm⟩ := k1; exact DataW.trod_lt m _ _ _ hm
  obtain ⟨a1, w1⟩ : ∃ a, G1ok a ∧ ∀ B, Eng.Den (fun a => W.cell? a) B (G1 a) v1 := ((Eng.Reads.slice Try.underlying45 (Eng.Reads.struct Try.underlying55 (Eng.ReadsF.cons (o := 0) (o' := 1) rfl (by kernel_rfl) (Eng.Reads.i64 Try.underlying3) (Eng.ReadsF.cons (o := 1) (o' := 2) rfl (by kernel_rfl) (Eng.Reads.u16 Try.underlying52) (Eng.ReadsF.cons (o := 2) (o' := 3) rfl (by kernel_rfl) (Eng.Reads.i64 Try.underlying3) (Eng.ReadsF.cons (o := 3) (o' := 4) rfl (by kernel_rfl) (Eng.Reads.u32 Try.underlying53) (Eng.ReadsF.cons (o := 4) (o' := 5) rfl (by kernel_rfl) (Eng.Reads.i64 Try.underlying3) (Eng.ReadsF.nil (by kernel_rfl))))))))) : Eng.Reads Try.prog W 45 (fun a => [G1 a]) G1ok).argS Try.underlying45 (okWide_slice Try.underlying45 (hval 1 45 v1 rfl rfl)) h1
  clear hA0 hval0
  refine (walk a0 len0 cap0 z0 v1 a1 W w0 w1).mono fun e W' ⟨he, bel⟩ => ?_
  subst he
  exact ⟨_, rfl, _, _, _, [], _, [], hW', trodAll_mk1 (shut_bool Try.underlying4 _), (trodAll_cons_mk (Below.trod laidOut (by kernel_rfl) (of_decide_eq_true (by kernel_rfl)) k0 bel lt0) (trodAll_cons_mk (Below.trod laidOut (by kernel_rfl) (of_decide_eq_true (by kernel_rfl)) k1 bel lt1) trodAll_mk0)), rfl, bel.frame _, fun h => by cases h⟩

theorem over : Rows.rcdecReadsRow.holds Try.pinned (OpenSpec.ofChange Rows.rcdecReadsSpec) :=
  OpenClaim.holds_of_wide 7 Try.f7 rfl rfl rfl rfl rfl rfl rfl ⟨rfl, rfl, rfl, rfl, rfl⟩ rfl rfl rfl rfl rfl (by kernel_rfl) Try.func7 (by kernel_rfl)
    (of_decide_eq_true (by kernel_rfl)) (by unfold Func.isWrapper; first | (rw [if_pos (by decide +kernel)]; kernel_rfl) | (rw [if_neg (by decide +kernel)]; exact ⟨rfl, rfl⟩))
    (fun os started H enc _ => lifted os started H enc)

/-- THE STATEMENT -/
theorem proved : Rows.RcdecReadsSaid := over
#print axioms proved
end Go.Proofs.Ytmnbbpckglppjaa.rcdecReadsDone
