/- The given statement on ChainFilters: the row's step over the law's contract. Printed by a program of our own. -/
import Derived.Test.YtiibjaommelkkaaRows
import Derived.Test.YtiibjaommelkkaaChaf
import Derived.Test.YtiibjaommelkkaaEng24
import Derived.WalkKit
import Derived.ProofKit
import Derived.OpenShut
import Derived.ShutString
import Derived.ChangeOld
import Derived.Below
set_option linter.unusedVariables false
set_option maxRecDepth 100000
namespace Go.Proofs.Ytiibjaommelkkaa.chainFiltersDone
open Go Go.ChangeShapes Go.WideShapes Go.ChangeAt Go.RowKit
theorem own : ownKnob Try.prog.godebug = none := by kernel_rfl
theorem laidOut : laidOutB Try.prog = true := by kernel_rfl

def G0 (a : (Int) × (BitVec 32) × Unit) : Eng.AV := .agg ((fun p : (Int) × (BitVec 32) × Unit => (fun b : Int => [Eng.AV.int .i64 b]) p.1 ++ (fun p : (BitVec 32) × Unit => (fun b : BitVec 32 => [Eng.AV.int .u32 (b.toNat : Int)]) p.1 ++ (fun _ : Unit => []) p.2) p.2) a)
def G0ok : (Int) × (BitVec 32) × Unit → Prop := fun p : (Int) × (BitVec 32) × Unit => (fun n : Int => -9223372036854775808 ≤ n ∧ n < 9223372036854775808) p.1 ∧ (fun p : (BitVec 32) × Unit => (fun _ : BitVec 32 => True) p.1 ∧ (fun _ : Unit => True) p.2) p.2
theorem walk (v0 : Value) (a0 : (Int) × (BitVec 32) × Unit) (a1 : Int) (a2 : Option Addr) (len2 cap2 : Nat) (z2 : List Int) (a3 : Int) (a4 : Int) (w : World) (w0 : G0ok a0 ∧ ∀ B, Eng.Den (fun a => w.cell? a) B (G0 a0) v0) (w1 : (Lit.int .i64 a1).wf = true) (w2 : Eng.IsRow .u8 w a2 len2 cap2 z2) (w3 : (Lit.int .u32 a3).wf = true) (w4 : (Lit.int .i64 a4).wf = true) :
    Calls Try.prog 13 #[v0, .int .i64 a1, .slice a2 len2 cap2, .int .u32 a3, .int .i64 a4] w fun e w' => e = .returned (.bool true) ∧ Below w.heap.size w w' := by
  obtain ⟨l1, r1⟩ := Eng.wf_i64 w1
  obtain ⟨b2, q2, m2, d2⟩ := w2.bv8 (fun _ => none)
  have e3 := Eng.wf_u32 w3
  generalize BitVec.ofInt 32 a3 = b3 at e3
  subst e3
  obtain ⟨l4, r4⟩ := Eng.wf_i64 w4
  refine Eng.law_ok (args := [G0 a0, .int .i64 a1, .ro b2.length (Eng.bvs .u8 b2), .int .u32 (b3.toNat : Int), .int .i64 a4]) (vs := [v0, .int .i64 a1, .slice a2 len2 cap2, .int .u32 (b3.toNat : Int), .int .i64 a4]) (chainFiltersOk a0 w0.1 a1 l1 r1 b2 m2 b3 a4 l4 r4) ?_
  simp only [Eng.DenL]
  exact ⟨_, _, rfl, w0.2 _, ⟨_, _, rfl, by simp only [Eng.Den], ⟨_, _, rfl, d2, ⟨_, _, rfl, by simp only [Eng.Den], ⟨_, _, rfl, by simp only [Eng.Den], rfl⟩⟩⟩⟩⟩
theorem lifted (os : Os) (started : os.Started) (H : Type) (enc : TypeId × Value → H) :
    ReturnsInHanded {} Try.checked os 13 .any (Rows.chainFiltersSpec.pre6 enc Try.prog Try.f13 Rows.chainFiltersRow.domain false) (Rows.chainFiltersSpec.post enc Try.prog Try.f13 false true false false) := by
  refine returnsInHanded_of_change (C := Try.checked) own started (by kernel_rfl) Try.func13
    (ChangeSpec.witness6 (enc := enc) (C := Try.checked) false ⟨#[], #[.agg #[.int .i64 0, .int .u32 0], .int .i64 0, .slice none 0 0, .int .u32 0, .int .i64 0], []⟩ 8 (by kernel_rfl) (by kernel_rfl) (by kernel_rfl) (by kernel_rfl)) ?_
  intro W base args ds gs before hval0 hW hcnd _
  have hval : ∀ (j : Nat) t v, Try.f13.params[j]? = some t → args[j]? = some v → Value.okWide Try.prog W .any base t v := hval0
  have hW' := hW
  obtain ⟨p, q, hA0, hV, rfl, hfz, hnd⟩ := hW
  have hA : DataW.TrodAll enc Try.prog W 0 (fun _ => true) true Try.f13.params.toList args.toList ds p := hA0
  rw [Try.params13] at hA hval
  obtain ⟨v0, vs0, d0, ds0, p0, q0, hargs, rfl, rfl, h0, r0⟩ := trodAll_cons hA
  obtain ⟨v1, vs1, d1, ds1, p1, q1, rfl, rfl, rfl, h1, r1⟩ := trodAll_cons r0
  obtain ⟨v2, vs2, d2, ds2, p2, q2, rfl, rfl, rfl, h2, r2⟩ := trodAll_cons r1
  obtain ⟨v3, vs3, d3, ds3, p3, q3, rfl, rfl, rfl, h3, r3⟩ := trodAll_cons r2
  obtain ⟨v4, vs4, d4, ds4, p4, q4, rfl, rfl, rfl, h4, r4⟩ := trodAll_cons r3
  obtain ⟨rfl, rfl, rfl⟩ := trodAll_nil r4
  obtain rfl : args = #[v0, v1, v2, v3, v4] := by cases args; simp_all
  obtain ⟨rfl, rfl⟩ := trodVars_none hV
  have k0 := h0
  have lt0 : ∀ x ∈ p0, x.block < W.heap.size := by obtain ⟨m, hm⟩ := k0; exact DataW.trod_lt m _ _ _ hm
  obtain ⟨a0, w0⟩ : ∃ a, G0ok a ∧ ∀ B, Eng.Den (fun a => W.cell? a) B (G0 a) v0 := ((Eng.Reads.struct Try.underlying56 (Eng.ReadsF.cons (o := 0) (o' := 1) rfl (by kernel_rfl) (Eng.Reads.i64 Try.underlying3) (Eng.ReadsF.cons (o := 1) (o' := 2) rfl (by kernel_rfl) (Eng.Reads.u32 Try.underlying34) (Eng.ReadsF.nil (by kernel_rfl))))) : Eng.Reads Try.prog W 56 (fun p : (Int) × (BitVec 32) × Unit => (fun b : Int => [Eng.AV.int .i64 b]) p.1 ++ (fun p : (BitVec 32) × Unit => (fun b : BitVec 32 => [Eng.AV.int .u32 (b.toNat : Int)]) p.1 ++ (fun _ : Unit => []) p.2) p.2) G0ok).argT (by obtain ⟨cs, e, _⟩ := okWide_struct Try.underlying56 (hval 0 56 v0 rfl rfl); exact ⟨cs, e⟩) h0
  obtain ⟨a1, rfl, rfl, rfl, w1⟩ := open_int Try.underlying3 (hval 1 3 v1 rfl rfl) h1
  obtain ⟨a2, len2, cap2, rfl⟩ := okWide_slice Try.underlying22 (hval 2 22 v2 rfl rfl)
  have k2 := h2
  have lt2 : ∀ x ∈ p2, x.block < W.heap.size := by obtain ⟨m, hm⟩ := k2; exact DataW.trod_lt m _ _ _ hm
  obtain ⟨z2, w2⟩ : ∃ zs, Eng.IsRow .u8 W a2 len2 cap2 zs := by
    obtain ⟨fuel, hf⟩ := h2
    rcases open_ints Try.underlying22 Try.underlying5 (by kernel_rfl) hf with ⟨hcs, _⟩ | ⟨x, l, c, zs, hcs, _, hl, hm, hz, _, hcell, hwz⟩
    · simp [Value.cells] at hcs
      obtain ⟨rfl, rfl, rfl⟩ := hcs
      exact ⟨[], .inl ⟨rfl, rfl, rfl, rfl⟩⟩
    · simp [Value.cells] at hcs
      obtain ⟨rfl, rfl, rfl⟩ := hcs
      exact ⟨zs, .inr ⟨_, rfl, hl, hm, by simpa using hz, hcell, hwz⟩⟩
  obtain ⟨a3, rfl, rfl, rfl, w3⟩ := open_int Try.underlying34 (hval 3 34 v3 rfl rfl) h3
  obtain ⟨a4, rfl, rfl, rfl, w4⟩ := open_int Try.underlying3 (hval 4 3 v4 rfl rfl) h4
  clear hA0 hval0
  refine (walk v0 a0 a1 a2 len2 cap2 z2 a3 a4 W w0 w1 w2 w3 w4).mono fun e W' ⟨he, bel⟩ => ?_
  subst he
  exact ⟨_, rfl, _, _, _, [], _, [], hW', trodAll_mk1 (shut_bool Try.underlying4 _), (trodAll_cons_mk (Below.trod laidOut (by kernel_rfl) (of_decide_eq_true (by kernel_rfl)) k0 bel lt0) (trodAll_cons_mk (shut_int Try.underlying3 w1) (trodAll_cons_mk (Below.trod laidOut (by kernel_rfl) (of_decide_eq_true (by kernel_rfl)) k2 bel lt2) (trodAll_cons_mk (shut_int Try.underlying34 w3) (trodAll_cons_mk (shut_int Try.underlying3 w4) trodAll_mk0))))), rfl, bel.frame _, fun h => by cases h⟩

theorem over : Rows.chainFiltersRow.holds Try.pinned (OpenSpec.ofChange Rows.chainFiltersSpec) :=
  OpenClaim.holds_of_wide 13 Try.f13 rfl rfl rfl rfl rfl rfl rfl ⟨rfl, rfl, rfl, rfl, rfl⟩ rfl rfl rfl rfl rfl (by kernel_rfl) Try.func13 (by kernel_rfl)
    (of_decide_eq_true (by kernel_rfl)) (by unfold Func.isWrapper; first | (rw [if_pos (by decide +kernel)]; kernel_rfl) | (rw [if_neg (by decide +kernel)]; exact ⟨rfl, rfl⟩))
    (fun os started H enc _ => lifted os started H enc)

/-- THE STATEMENT -/
theorem proved : Rows.ChainFiltersSaid := over
#print axioms proved
end Go.Proofs.Ytiibjaommelkkaa.chainFiltersDone
