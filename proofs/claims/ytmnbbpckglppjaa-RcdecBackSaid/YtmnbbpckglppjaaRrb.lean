/- Coding bits: the document's coder: scale, and a bit. -/
import Derived.Test.YtmnbbpckglppjaaEng19
import Derived.Test.YtmnbbpckglppjaaEng26
import Derived.Test.YtmnbbpckglppjaaRra
set_option linter.unusedVariables false
set_option linter.unusedSimpArgs false
set_option maxRecDepth 100000
namespace Go.Proofs.Ytmnbbpckglppjaa
open Go Go.Eng

def rclE : Nat → RS → RS
  | 0, s => s
  | f + 1, s => if 16777216 ≤ s.rng.toNat then s else rclE f ⟨s.low ++ [0#8], s.rng <<< 8⟩
theorem rclE_len : ∀ (f : Nat) (s : RS), s.low.length ≤ (rclE f s).low.length ∧ (rclE f s).low.length ≤ s.low.length + f
  | 0, s => ⟨Nat.le_refl _, Nat.le_refl _⟩
  | f + 1, s => by
    rw [rclE]
    split
    · omega
    · have h := rclE_len f ⟨s.low ++ [0#8], s.rng <<< 8⟩
      simp only [List.length_append, List.length_singleton] at h
      omega
def memR (x : AV × Mem × Nat) (y : RS) : Option (Nat × List Value) → Mem × Nat
  | none => ((0, rEO x.1 y) :: x.2.1, x.2.2)
  | some (cap, sp) => ([(0, rEO (.sl 2 0 y.low.length cap) y), (2, rowO y.low sp)], 3)
def memRQ (s y : RS) : Option (Nat × List Value) → Prop
  | none => y.low = s.low
  | some (cap, sp) => y.low.length + sp.length = cap ∧ cap ≤ maxI
set_option maxHeartbeats 1000000 in
theorem rclOk (s : RS) (hl : 1 ≤ s.low.length ∧ s.low.length + 3 ≤ 1000000) (hr : 1 ≤ s.rng.toNat) : rET.Ok Try.prog 81 [] (.tup []) s (rclE 3 s) := by
  intro x hx
  have hx0 := hx
  rcases hx with ⟨ho, rfl⟩ | ⟨cap, sp, rfl, c1, c2⟩
  · have ho : s.low = [] := ho
    rw [ho] at hl; exact absurd hl.1 (by decide)
  have c1 : s.low.length + sp.length = cap := c1
  refine fn_okG Try.func81 rfl (by show 1 ≤ _; decide) ?_
  simp (config := { maxSteps := 1000000, implicitDefEqProofs := false }) only [-List.reduceReplicate, Nat.reduceBEq, renA, renL, renM, renO, evx, evs, evp, Eng.look, cst, cst1, putd, dstOk, params, loadx, partx, loI, hiI, bltx, mmI, boxx, srcx, calx, nilx, upd, del, resv, fillA, setMany, Nat.reduceLT, Nat.reduceLeDiff, Nat.reduceEqDiff, Nat.reduceAdd, Nat.reduceMul, Nat.reduceSub, reduceIte, reduceCtorEq, if_true, if_false, ite_true, ite_false, eq_self, forall_const, implies_true, Int.reduceLT, Int.reduceLE, Int.reduceToNat, Int.reduceAdd, Int.reduceSub, Int.reduceNeg, ne_eq, Int.reduceEq, Int.reduceNe, Int.reduceBEq, Int.reduceBNe, beq_self_eq_true, bne_self_eq_false, BitVec.reduceBEq, BitVec.reduceBNe, BitVec.reduceOfInt, BitVec.reduceSetWidth, wrD, engS0, engS1, engS2, engS3, engS4, engS5, engS6, engS7, engS8, engS9, engT0, engT1, engT2, Fx.t1, Fx.t4, Fx.t5, Fx.t22, Fx.t23, Fx.t67, Fx.t125, Fx.t126, Try.results81, Try.ntmps81, rET_obj, rET_out]
  refine LoopOk.upX (fun i (z : RS × Option (Nat × List Value)) => memRQ s z.1 z.2 ∧ rclE (3 - i) z.1 = rclE 3 s ∧ 16777216 ≤ z.1.rng.toNat * 256 ^ (3 - i) ∧ z.1.low.length = s.low.length + i) 3
    (fun i z => ([(0, .ptr 0 0)], memR (.sl 1 0 s.low.length cap, [(1, rowO s.low sp)], 2) z.1 z.2)) (s, none) ⟨rfl, rfl, by show 16777216 ≤ s.rng.toNat * 16777216; omega, rfl⟩ (Le.sameT (by show 2 ≤ 2; decide) ⟨rfl, trivial⟩ ⟨rfl, rfl, trivial⟩ (by simp [memR])) ?_
  rintro i ⟨y, z⟩ ⟨hi, q0, h1, h3, q4⟩
  dsimp only at q0 h1 h3 q4
  have t0 : List.take 1 ((bvs .u8 (List.replicate 1 (0 : BitVec 8))).set 0 (AV.int .u8 0)) = bvs .u8 [0#8] := rfl
  rcases Nat.lt_or_ge y.rng.toNat 16777216 with h | h
  · have g1 : decide ((y.rng.toNat : Int) < 16777216) = true := by simp; omega
    have hr1 := r256 y.rng h
    have hi3 : i < 3 := by
      rcases Nat.lt_or_ge i 3 with g | g
      · exact g
      · rw [show 3 - i = 0 by omega] at h3; omega
    have hst : rclE (3 - (i + 1)) ⟨y.low ++ [0#8], y.rng <<< 8⟩ = rclE 3 s := by
      rw [← h1, show 3 - i = (3 - (i + 1)) + 1 by omega, rclE, if_neg (by omega)]
    have hr2 := shl8 y.rng h
    have hp : 256 ^ (3 - i) = 256 * 256 ^ (3 - (i + 1)) := by rw [show 3 - i = (3 - (i + 1)) + 1 by omega, Nat.pow_succ, Nat.mul_comm]
    have hQ : ∀ z', memRQ s ⟨y.low ++ [0#8], y.rng <<< 8⟩ z' → memRQ s ⟨y.low ++ [0#8], y.rng <<< 8⟩ z' ∧ rclE (3 - (i + 1)) ⟨y.low ++ [0#8], y.rng <<< 8⟩ = rclE 3 s ∧ 16777216 ≤ (y.rng <<< 8).toNat * 256 ^ (3 - (i + 1)) ∧ (y.low ++ [0#8]).length = s.low.length + (i + 1) :=
      fun z' hz => ⟨hz, hst, by rw [hr2, Nat.mul_assoc, ← hp]; exact h3, by rw [List.length_append, List.length_singleton]; omega⟩
    rcases z with _ | ⟨cp, s2⟩
    · have q0 : y.low = s.low := q0
      simp (config := { maxSteps := 1000000, implicitDefEqProofs := false }) only [-List.reduceReplicate, Nat.reduceBEq, renA, renL, renM, renO, evx, evs, evp, Eng.look, cst, cst1, putd, dstOk, params, loadx, partx, loI, hiI, bltx, mmI, boxx, srcx, calx, nilx, upd, del, resv, fillA, setMany, Nat.reduceLT, Nat.reduceLeDiff, Nat.reduceEqDiff, Nat.reduceAdd, Nat.reduceMul, Nat.reduceSub, reduceIte, reduceCtorEq, if_true, if_false, ite_true, ite_false, eq_self, forall_const, implies_true, Int.reduceLT, Int.reduceLE, Int.reduceToNat, Int.reduceAdd, Int.reduceSub, Int.reduceNeg, ne_eq, Int.reduceEq, Int.reduceNe, Int.reduceBEq, Int.reduceBNe, beq_self_eq_true, bne_self_eq_false, BitVec.reduceBEq, BitVec.reduceBNe, BitVec.reduceOfInt, BitVec.reduceSetWidth, wrD, engS0, engS1, engS2, engS3, engS4, engS5, engS6, engS7, engS8, engS9, engT0, engT1, engT2, Fx.t1, Fx.t4, Fx.t5, Fx.t22, Fx.t23, Fx.t67, Fx.t125, Fx.t126, memR, rEO, rowO, g1, hr1]
      refine ⟨.inl trivial, by rw [takeA', bvs_length], by rw [takeA']; exact one1_bvs _ _, ?_⟩
      rw [takeA']
      refine appk_bvs (k := .u8) (x := ([] : List (BitVec 8))) (y := s.low) (sp := []) rfl rfl rfl (by decide) (by decide) (by simp; omega) ?_
      rw [List.nil_append]
      intro cap1 sp1 d1 d2
      simp (config := { maxSteps := 1000000, implicitDefEqProofs := false }) only [-List.reduceReplicate, Nat.reduceBEq, renA, renL, renM, renO, evx, evs, evp, Eng.look, cst, cst1, putd, dstOk, params, loadx, partx, loI, hiI, bltx, mmI, boxx, srcx, calx, nilx, upd, del, resv, fillA, setMany, Nat.reduceLT, Nat.reduceLeDiff, Nat.reduceEqDiff, Nat.reduceAdd, Nat.reduceMul, Nat.reduceSub, reduceIte, reduceCtorEq, if_true, if_false, ite_true, ite_false, eq_self, forall_const, implies_true, Int.reduceLT, Int.reduceLE, Int.reduceToNat, Int.reduceAdd, Int.reduceSub, Int.reduceNeg, ne_eq, Int.reduceEq, Int.reduceNe, Int.reduceBEq, Int.reduceBNe, beq_self_eq_true, bne_self_eq_false, BitVec.reduceBEq, BitVec.reduceBNe, BitVec.reduceOfInt, BitVec.reduceSetWidth, wrD, engS0, engS1, engS2, engS3, engS4, engS5, engS6, engS7, engS8, engS9, engT0, engT1, engT2, Fx.t1, Fx.t4, Fx.t5, Fx.t22, Fx.t23, Fx.t67, Fx.t125, Fx.t126]
      refine ⟨.inr trivial, rfl, rfl, ?_⟩
      rw [t0]
      refine appk_bvs (k := .u8) (x := s.low) (y := [0#8]) (sp := sp1) rfl rfl d1 d2 (by decide) (by rw [List.length_singleton]; omega) ?_
      intro cap2 sp2 f1 f2
      simp (config := { maxSteps := 1000000, implicitDefEqProofs := false }) only [-List.reduceReplicate, Nat.reduceBEq, renA, renL, renM, renO, evx, evs, evp, Eng.look, cst, cst1, putd, dstOk, params, loadx, partx, loI, hiI, bltx, mmI, boxx, srcx, calx, nilx, upd, del, resv, fillA, setMany, Nat.reduceLT, Nat.reduceLeDiff, Nat.reduceEqDiff, Nat.reduceAdd, Nat.reduceMul, Nat.reduceSub, reduceIte, reduceCtorEq, if_true, if_false, ite_true, ite_false, eq_self, forall_const, implies_true, Int.reduceLT, Int.reduceLE, Int.reduceToNat, Int.reduceAdd, Int.reduceSub, Int.reduceNeg, ne_eq, Int.reduceEq, Int.reduceNe, Int.reduceBEq, Int.reduceBNe, beq_self_eq_true, bne_self_eq_false, BitVec.reduceBEq, BitVec.reduceBNe, BitVec.reduceOfInt, BitVec.reduceSetWidth, wrD, engS0, engS1, engS2, engS3, engS4, engS5, engS6, engS7, engS8, engS9, engT0, engT1, engT2, Fx.t1, Fx.t4, Fx.t5, Fx.t22, Fx.t23, Fx.t67, Fx.t125, Fx.t126]
      refine UpX_normal hi3 (⟨y.low ++ [0#8], y.rng <<< 8⟩, some (cap2, sp2)) (hQ _ ⟨by rw [q0]; exact f1, f2⟩) ?_
      dsimp only [memR]; rw [q0]
      exact ⟨[(2, 5)], rfl, (by show 2 ≤ 3; decide), ⟨rfl, trivial⟩, ⟨by simp only [List.length_append, List.length_cons, List.length_nil]; rfl, rfl, by simp only [renO, renL_vals']; rfl, rfl, trivial⟩, by simp [injOn, rf, Eng.look, memR], (fun n e => by cases e), fun _ _ => rfl⟩
    · simp (config := { maxSteps := 1000000, implicitDefEqProofs := false }) only [-List.reduceReplicate, Nat.reduceBEq, renA, renL, renM, renO, evx, evs, evp, Eng.look, cst, cst1, putd, dstOk, params, loadx, partx, loI, hiI, bltx, mmI, boxx, srcx, calx, nilx, upd, del, resv, fillA, setMany, Nat.reduceLT, Nat.reduceLeDiff, Nat.reduceEqDiff, Nat.reduceAdd, Nat.reduceMul, Nat.reduceSub, reduceIte, reduceCtorEq, if_true, if_false, ite_true, ite_false, eq_self, forall_const, implies_true, Int.reduceLT, Int.reduceLE, Int.reduceToNat, Int.reduceAdd, Int.reduceSub, Int.reduceNeg, ne_eq, Int.reduceEq, Int.reduceNe, Int.reduceBEq, Int.reduceBNe, beq_self_eq_true, bne_self_eq_false, BitVec.reduceBEq, BitVec.reduceBNe, BitVec.reduceOfInt, BitVec.reduceSetWidth, wrD, engS0, engS1, engS2, engS3, engS4, engS5, engS6, engS7, engS8, engS9, engT0, engT1, engT2, Fx.t1, Fx.t4, Fx.t5, Fx.t22, Fx.t23, Fx.t67, Fx.t125, Fx.t126, memR, rEO, rowO, g1, hr1]
      refine ⟨.inl trivial, by rw [takeA', bvs_length], by rw [takeA']; exact one1_bvs _ _, ?_⟩
      rw [takeA']
      refine appk_bvs (k := .u8) (x := ([] : List (BitVec 8))) (y := y.low) (sp := []) rfl rfl rfl (by decide) (by decide) (by simp; omega) ?_
      rw [List.nil_append]
      intro cap1 sp1 d1 d2
      simp (config := { maxSteps := 1000000, implicitDefEqProofs := false }) only [-List.reduceReplicate, Nat.reduceBEq, renA, renL, renM, renO, evx, evs, evp, Eng.look, cst, cst1, putd, dstOk, params, loadx, partx, loI, hiI, bltx, mmI, boxx, srcx, calx, nilx, upd, del, resv, fillA, setMany, Nat.reduceLT, Nat.reduceLeDiff, Nat.reduceEqDiff, Nat.reduceAdd, Nat.reduceMul, Nat.reduceSub, reduceIte, reduceCtorEq, if_true, if_false, ite_true, ite_false, eq_self, forall_const, implies_true, Int.reduceLT, Int.reduceLE, Int.reduceToNat, Int.reduceAdd, Int.reduceSub, Int.reduceNeg, ne_eq, Int.reduceEq, Int.reduceNe, Int.reduceBEq, Int.reduceBNe, beq_self_eq_true, bne_self_eq_false, BitVec.reduceBEq, BitVec.reduceBNe, BitVec.reduceOfInt, BitVec.reduceSetWidth, wrD, engS0, engS1, engS2, engS3, engS4, engS5, engS6, engS7, engS8, engS9, engT0, engT1, engT2, Fx.t1, Fx.t4, Fx.t5, Fx.t22, Fx.t23, Fx.t67, Fx.t125, Fx.t126]
      refine ⟨.inr trivial, rfl, rfl, ?_⟩
      rw [t0]
      refine appk_bvs (k := .u8) (x := y.low) (y := [0#8]) (sp := sp1) rfl rfl d1 d2 (by decide) (by rw [List.length_singleton]; omega) ?_
      intro cap2 sp2 f1 f2
      simp (config := { maxSteps := 1000000, implicitDefEqProofs := false }) only [-List.reduceReplicate, Nat.reduceBEq, renA, renL, renM, renO, evx, evs, evp, Eng.look, cst, cst1, putd, dstOk, params, loadx, partx, loI, hiI, bltx, mmI, boxx, srcx, calx, nilx, upd, del, resv, fillA, setMany, Nat.reduceLT, Nat.reduceLeDiff, Nat.reduceEqDiff, Nat.reduceAdd, Nat.reduceMul, Nat.reduceSub, reduceIte, reduceCtorEq, if_true, if_false, ite_true, ite_false, eq_self, forall_const, implies_true, Int.reduceLT, Int.reduceLE, Int.reduceToNat, Int.reduceAdd, Int.reduceSub, Int.reduceNeg, ne_eq, Int.reduceEq, Int.reduceNe, Int.reduceBEq, Int.reduceBNe, beq_self_eq_true, bne_self_eq_false, BitVec.reduceBEq, BitVec.reduceBNe, BitVec.reduceOfInt, BitVec.reduceSetWidth, wrD, engS0, engS1, engS2, engS3, engS4, engS5, engS6, engS7, engS8, engS9, engT0, engT1, engT2, Fx.t1, Fx.t4, Fx.t5, Fx.t22, Fx.t23, Fx.t67, Fx.t125, Fx.t126]
      refine UpX_normal hi3 (⟨y.low ++ [0#8], y.rng <<< 8⟩, some (cap2, sp2)) (hQ _ ⟨f1, f2⟩) ?_
      skip
      exact ⟨[(2, 6)], rfl, (by show 2 ≤ 3; decide), ⟨rfl, trivial⟩, ⟨by simp only [List.length_append, List.length_cons, List.length_nil]; rfl, rfl, by simp only [renO, renL_vals']; rfl, rfl, trivial⟩, by simp [injOn, rf, Eng.look, memR], (fun n e => by cases e), fun _ _ => rfl⟩
  · have g1 : decide ((y.rng.toNat : Int) < 16777216) = false := by simp; omega
    have hst : y = rclE 3 s := by
      rw [← h1]
      cases hc : 3 - i with
      | zero => rfl
      | succ f => rw [rclE, if_pos (by omega)]
    rcases z with _ | ⟨cp, s2⟩
    · simp (config := { maxSteps := 1000000, implicitDefEqProofs := false }) only [-List.reduceReplicate, Nat.reduceBEq, renA, renL, renM, renO, evx, evs, evp, Eng.look, cst, cst1, putd, dstOk, params, loadx, partx, loI, hiI, bltx, mmI, boxx, srcx, calx, nilx, upd, del, resv, fillA, setMany, Nat.reduceLT, Nat.reduceLeDiff, Nat.reduceEqDiff, Nat.reduceAdd, Nat.reduceMul, Nat.reduceSub, reduceIte, reduceCtorEq, if_true, if_false, ite_true, ite_false, eq_self, forall_const, implies_true, Int.reduceLT, Int.reduceLE, Int.reduceToNat, Int.reduceAdd, Int.reduceSub, Int.reduceNeg, ne_eq, Int.reduceEq, Int.reduceNe, Int.reduceBEq, Int.reduceBNe, beq_self_eq_true, bne_self_eq_false, BitVec.reduceBEq, BitVec.reduceBNe, BitVec.reduceOfInt, BitVec.reduceSetWidth, wrD, engS0, engS1, engS2, engS3, engS4, engS5, engS6, engS7, engS8, engS9, engT0, engT1, engT2, Fx.t1, Fx.t4, Fx.t5, Fx.t22, Fx.t23, Fx.t67, Fx.t125, Fx.t126, memR, rEO, g1]
      rw [← hst]
      exact SlT.finU' hx0 q0 (fun _ => rfl) rfl (SlT.looks hx0 _)
    · simp (config := { maxSteps := 1000000, implicitDefEqProofs := false }) only [-List.reduceReplicate, Nat.reduceBEq, renA, renL, renM, renO, evx, evs, evp, Eng.look, cst, cst1, putd, dstOk, params, loadx, partx, loI, hiI, bltx, mmI, boxx, srcx, calx, nilx, upd, del, resv, fillA, setMany, Nat.reduceLT, Nat.reduceLeDiff, Nat.reduceEqDiff, Nat.reduceAdd, Nat.reduceMul, Nat.reduceSub, reduceIte, reduceCtorEq, if_true, if_false, ite_true, ite_false, eq_self, forall_const, implies_true, Int.reduceLT, Int.reduceLE, Int.reduceToNat, Int.reduceAdd, Int.reduceSub, Int.reduceNeg, ne_eq, Int.reduceEq, Int.reduceNe, Int.reduceBEq, Int.reduceBNe, beq_self_eq_true, bne_self_eq_false, BitVec.reduceBEq, BitVec.reduceBNe, BitVec.reduceOfInt, BitVec.reduceSetWidth, wrD, engS0, engS1, engS2, engS3, engS4, engS5, engS6, engS7, engS8, engS9, engT0, engT1, engT2, Fx.t1, Fx.t4, Fx.t5, Fx.t22, Fx.t23, Fx.t67, Fx.t125, Fx.t126, memR, rEO, g1]
      rw [← hst]
      exact SlT.finC (x := (.sl 1 0 s.low.length cap, [(1, rowO s.low sp)], 2)) hx0 (fun _ => rfl) (n := 2) (by decide) rfl rfl q0.1 q0.2
end Go.Proofs.Ytmnbbpckglppjaa
