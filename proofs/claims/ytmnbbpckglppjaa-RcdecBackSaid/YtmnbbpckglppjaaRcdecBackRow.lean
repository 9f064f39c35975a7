/- The given statement on RcdecBack: the row's step over the law's contract. Printed by a program of our own. -/
import Derived.Test.YtmnbbpckglppjaaRows
import Derived.Test.YtmnbbpckglppjaaBkd
import Derived.Test.YtmnbbpckglppjaaEng24
import Derived.WalkKit
import Derived.ProofKit
import Derived.OpenShut
import Derived.ShutString
import Derived.ChangeOld
import Derived.Below
set_option linter.unusedVariables false
set_option maxRecDepth 100000
namespace Go.Proofs.Ytmnbbpckglppjaa.rcdecBackDone
open Go Go.ChangeShapes Go.WideShapes Go.ChangeAt Go.RowKit
theorem own : ownKnob Try.prog.godebug = none := by kernel_rfl
theorem laidOut : laidOutB Try.prog = true := by kernel_rfl

def G0 (a : List ((Int) × (BitVec 16) × (Int) × (BitVec 32) × (Int) × Unit)) : Eng.AV := .ro a.length (a.flatMap (fun p : (Int) × (BitVec 16) × (Int) × (BitVec 32) × (Int) × Unit => (fun b : Int => [Eng.AV.int .i64 b]) p.1 ++ (fun p : (BitVec 16) × (Int) × (BitVec 32) × (Int) × Unit => (fun b : BitVec 16 => [Eng.AV.int .u16 (b.toNat : Int)]) p.1 ++ (fun p : (Int) × (BitVec 32) × (Int) × Unit => (fun b : Int => [Eng.AV.int .i64 b]) p.1 ++ (fun p : (BitVec 32) × (Int) × Unit => (fun b : BitVec 32 => [Eng.AV.int .u32 (b.toNat : Int)]) p.1 ++ (fun p : (Int) × Unit => (fun b : Int => [Eng.AV.int .i64 b]) p.1 ++ (fun _ : Unit => []) p.2) p.2) p.2) p.2) p.2))
def G0ok : List ((Int) × (BitVec 16) × (Int) × (BitVec 32) × (Int) × Unit) → Prop := fun L : List ((Int) × (BitVec 16) × (Int) × (BitVec 32) × (Int) × Unit) => L.length ≤ maxLen ∧ ∀ z ∈ L, (fun p : (Int) × (BitVec 16) × (Int) × (BitVec 32) × (Int) × Unit => (fun n : Int => -9223372036854775808 ≤ n ∧ n < 9223372036854775808) p.1 ∧ (fun p : (BitVec 16) × (Int) × (BitVec 32) × (Int) × Unit => (fun _ : BitVec 16 => True) p.1 ∧ (fun p : (Int) × (BitVec 32) × (Int) × Unit => (fun n : Int => -9223372036854775808 ≤ n ∧ n < 9223372036854775808) p.1 ∧ (fun p : (BitVec 32) × (Int) × Unit => (fun _ : BitVec 32 => True) p.1 ∧ (fun p : (Int) × Unit => (fun n : Int => -9223372036854775808 ≤ n ∧ n < 9223372036854775808) p.1 ∧ (fun _ : Unit => True) p.2) p.2) p.2) p.2) p.2) z
theorem walk (v0 : Value) (a0 : List ((Int) × (BitVec 16) × (Int) × (BitVec 32) × (Int) × Unit)) (a1 : Int) (w : World) (w0 : G0ok a0 ∧ ∀ B, Eng.Den (fun a => w.cell? a) B (G0 a0) v0) (w1 : (Lit.int .u8 a1).wf = true) :
    Calls Try.prog 11 #[v0, .int .u8 a1] w fun e w' => e = .returned (.bool true) ∧ Below w.heap.size w w' := by
  have e1 := Eng.wf_u8 w1
  generalize BitVec.ofInt 8 a1 = b1 at e1
  subst e1
  refine Eng.law_ok (args := [G0 a0, .int .u8 (b1.toNat : Int)]) (vs := [v0, .int .u8 (b1.toNat : Int)]) (rcdecBackOk a0 w0.1 b1) ?_
  simp only [Eng.DenL]
  exact ⟨_, _, rfl, w0.2 _, ⟨_, _, rfl, by simp only [Eng.Den], rfl⟩⟩
theorem lifted (os : Os) (started : os.Started) (H : Type) (enc : TypeId × Value → H) :
    ReturnsInHanded {} Try.checked os 11 .any (Rows.rcdecBackSpec.pre6 enc Try.prog Try.f11 Rows.rcdecBackRow.domain false) (Rows.rcdecBackSpec.post enc Try.prog Try.f11 false true false false) := by
  refine returnsInHanded_of_change (C := Try.checked) own started (by kernel_rfl) Try.func11
    (ChangeSpec.witness6 (enc := enc) (C := Try.checked) false ⟨#[], #[.slice none 0 0, .int .u8 0], []⟩ 8 (by kernel_rfl) (by kernel_rfl) (by kernel_rfl) (by kernel_rfl)) ?_
  intro W base args ds gs before hval0 hW hcnd _
  have hval : ∀ (j : Nat) t v, Try.f11.params[j]? = some t → args[j]? = some v → Value.okWide Try.prog W .any base t v := hval0
  have hW' := hW
  obtain ⟨p, q, hA0, hV, rfl, hfz, hnd⟩ := hW
  have hA : DataW.TrodAll enc Try.prog W 0 (fun _ => true) true Try.f11.params.toList args.toList ds p := hA0
  rw [Try.params11] at hA hval
  obtain ⟨v0, vs0, d0, ds0, p0, q0, hargs, rfl, rfl, h0, r0⟩ := trodAll_cons hA
  obtain ⟨v1, vs1, d1, ds1, p1, q1, rfl, rfl, rfl, h1, r1⟩ := trodAll_cons r0
  obtain ⟨rfl, rfl, rfl⟩ := trodAll_nil r1
  obtain rfl : args = #[v0, v1] := by cases args; simp_all
  obtain ⟨rfl, rfl⟩ := trodVars_none hV
  have k0 := h0
  have lt0 : ∀ x ∈ p0, x.block < W.heap.size := by obtain ⟨m, hm⟩ := k0; exact DataW.trod_lt m _ _ _ hm
  obtain ⟨a0, w0⟩ : ∃ a, G0ok a ∧ ∀ B, Eng.Den (fun a => W.cell? a) B (G0 a) v0 := ((Eng.Reads.slice Try.underlying45 (Eng.Reads.struct Try.underlying55 (Eng.ReadsF.cons (o := 0) (o' := 1) rfl (by kernel_rfl) (Eng.Reads.i64 Try.underlying3) (Eng.ReadsF.cons (o := 1) (o' := 2) rfl (by kernel_rfl) (Eng.Reads.u16 Try.underlying52) (Eng.ReadsF.cons (o := 2) (o' := 3) rfl (by kernel_rfl) (Eng.Reads.i64 Try.underlying3) (Eng.ReadsF.cons (o := 3) (o' := 4) rfl (by kernel_rfl) (Eng.Reads.u32 Try.underlying53) (Eng.ReadsF.cons (o := 4) (o' := 5) rfl (by kernel_rfl) (Eng.Reads.i64 Try.underlying3) (Eng.ReadsF.nil (by kernel_rfl))))))))) : Eng.Reads Try.prog W 45 (fun a => [G0 a]) G0ok).argS Try.underlying45 (okWide_slice Try.underlying45 (hval 0 45 v0 rfl rfl)) h0
  obtain ⟨a1, rfl, rfl, rfl, w1⟩ := open_int Try.underlying5 (hval 1 5 v1 rfl rfl) h1
  clear hA0 hval0
  refine (walk v0 a0 a1 W w0 w1).mono fun e W' ⟨he, bel⟩ => ?_
  subst he
  exact ⟨_, rfl, _, _, _, [], _, [], hW', trodAll_mk1 (shut_bool Try.underlying4 _), (trodAll_cons_mk (Below.trod laidOut (by kernel_rfl) (of_decide_eq_true (by kernel_rfl)) k0 bel lt0) (trodAll_cons_mk (shut_int Try.underlying5 w1) trodAll_mk0)), rfl, bel.frame _, fun h => by cases h⟩

theorem over : Rows.rcdecBackRow.holds Try.pinned (OpenSpec.ofChange Rows.rcdecBackSpec) :=
  OpenClaim.holds_of_wide 11 Try.f11 rfl rfl rfl rfl rfl rfl rfl ⟨rfl, rfl, rfl, rfl, rfl⟩ rfl rfl rfl rfl rfl (by kernel_rfl) Try.func11 (by kernel_rfl)
    (of_decide_eq_true (by kernel_rfl)) (by unfold Func.isWrapper; first | (rw [if_pos (by decide +kernel)]; kernel_rfl) | (rw [if_neg (by decide +kernel)]; exact ⟨rfl, rfl⟩))
    (fun os started H enc _ => lifted os started H enc)

/-- THE STATEMENT -/
theorem proved : Rows.RcdecBackSaid := over
#print axioms proved
end Go.Proofs.Ytmnbbpckglppjaa.rcdecBackDone
