/- Numbers of a variable length: the laws. -/
import Derived.Test.YtmnbbpckglppjaaEng19
import Derived.Test.YtmnbbpckglppjaaEng26
import Derived.Test.YtmnbbpckglppjaaVlh
import Derived.Test.YtmnbbpckglppjaaEng32
set_option linter.unusedVariables false
set_option linter.unusedSimpArgs false
set_option maxRecDepth 100000
namespace Go.Proofs.Ytmnbbpckglppjaa
open Go Go.Eng

theorem gRet_ren (r : BitVec 64 × Int × Int) (f : Nat → Nat) : renA f (gRet r) = gRet r := rfl
theorem knows04 : CallG false Try.prog 14 [] (fun _ => true) [] 0 fun v m nx => v = .bool true ∧ m = [] ∧ nx = 0 := by
  refine fn_okG Try.func14 rfl (Nat.zero_le _) ?_
  have hs : (⟨(List.map (fun v : BitVec 8 => UInt8.ofNat v.toNat) (putX 300#64)).toArray⟩ : ByteArray) = ⟨#[172, 2]⟩ := by kernel_rfl
  have hP := vputOk 300#64 (by decide)
  have hG := vgetOk [] (by decide)
  rw [show gRes [] 9 0 = (0#64, 0, 2) from by kernel_rfl] at hG
  simp (config := { maxSteps := 1000000, implicitDefEqProofs := false }) only [-List.reduceReplicate, Nat.reduceBEq, renA, renL, renM, renO, evx, evs, evp, Eng.look, cst, cst1, putd, dstOk, params, loadx, partx, loI, hiI, bltx, mmI, boxx, srcx, calx, nilx, upd, del, resv, fillA, setMany, Nat.reduceLT, Nat.reduceLeDiff, Nat.reduceEqDiff, Nat.reduceAdd, Nat.reduceMul, Nat.reduceSub, reduceIte, reduceCtorEq, if_true, if_false, ite_true, ite_false, eq_self, forall_const, implies_true, Int.reduceLT, Int.reduceLE, Int.reduceToNat, Int.reduceAdd, Int.reduceSub, Int.reduceNeg, ne_eq, Int.reduceEq, Int.reduceNe, Int.reduceBEq, Int.reduceBNe, beq_self_eq_true, bne_self_eq_false, BitVec.reduceBEq, BitVec.reduceBNe, BitVec.reduceOfInt, BitVec.reduceSetWidth, wrD, engS0, engS1, engS2, engS3, engS4, engS5, engS6, engS7, engS8, engS9, engU0, engT0, engT1, engT2, Fx.t1, Fx.t2, Fx.t3, Fx.t4, Fx.t5, Fx.t9, Fx.t22, Fx.t23, Fx.t25, Fx.en15, Fx.en16, Try.results14, Try.ntmps14]
  refine hP.newE rfl ?_
  rintro v m' nx' ⟨cap, sp, c1, c2, rfl, rfl, rfl⟩
  simp only [renM, rowO_ren, renA, renL]
  generalize putX 300#64 = X at *
  simp (config := { maxSteps := 1000000, implicitDefEqProofs := false }) only [-List.reduceReplicate, Nat.reduceBEq, renA, renL, renM, renO, evx, evs, evp, Eng.look, cst, cst1, putd, dstOk, params, loadx, partx, loI, hiI, bltx, mmI, boxx, srcx, calx, nilx, upd, del, resv, fillA, setMany, Nat.reduceLT, Nat.reduceLeDiff, Nat.reduceEqDiff, Nat.reduceAdd, Nat.reduceMul, Nat.reduceSub, reduceIte, reduceCtorEq, if_true, if_false, ite_true, ite_false, eq_self, forall_const, implies_true, Int.reduceLT, Int.reduceLE, Int.reduceToNat, Int.reduceAdd, Int.reduceSub, Int.reduceNeg, ne_eq, Int.reduceEq, Int.reduceNe, Int.reduceBEq, Int.reduceBNe, beq_self_eq_true, bne_self_eq_false, BitVec.reduceBEq, BitVec.reduceBNe, BitVec.reduceOfInt, BitVec.reduceSetWidth, wrD, engS0, engS1, engS2, engS3, engS4, engS5, engS6, engS7, engS8, engS9, engU0, engT0, engT1, engT2, Fx.t1, Fx.t2, Fx.t3, Fx.t4, Fx.t5, Fx.t9, Fx.t22, Fx.t23, Fx.t25, Fx.en15, Fx.en16]
  refine hG.flat0 ⟨⟨rfl, rfl⟩, trivial⟩ (gRet_ren _) rfl ?_
  simp (config := { maxSteps := 1000000, implicitDefEqProofs := false }) only [-List.reduceReplicate, Nat.reduceBEq, renA, renL, renM, renO, evx, evs, evp, Eng.look, cst, cst1, putd, dstOk, params, loadx, partx, loI, hiI, bltx, mmI, boxx, srcx, calx, nilx, upd, del, resv, fillA, setMany, Nat.reduceLT, Nat.reduceLeDiff, Nat.reduceEqDiff, Nat.reduceAdd, Nat.reduceMul, Nat.reduceSub, reduceIte, reduceCtorEq, if_true, if_false, ite_true, ite_false, eq_self, forall_const, implies_true, Int.reduceLT, Int.reduceLE, Int.reduceToNat, Int.reduceAdd, Int.reduceSub, Int.reduceNeg, ne_eq, Int.reduceEq, Int.reduceNe, Int.reduceBEq, Int.reduceBNe, beq_self_eq_true, bne_self_eq_false, BitVec.reduceBEq, BitVec.reduceBNe, BitVec.reduceOfInt, BitVec.reduceSetWidth, wrD, engS0, engS1, engS2, engS3, engS4, engS5, engS6, engS7, engS8, engS9, engU0, engT0, engT1, engT2, Fx.t1, Fx.t2, Fx.t3, Fx.t4, Fx.t5, Fx.t9, Fx.t22, Fx.t23, Fx.t25, Fx.en15, Fx.en16, gRet, rowO, List.drop_zero, u8T, hs, beq_self_eq_true]
  refine ⟨Nat.le_add_right _ _, ?_⟩
  exact Fin.flatv (fun _ => rfl) (fun f => rfl) ⟨rfl, rfl, rfl⟩
theorem kn04 {fz : Bool} {wr : Nat → Bool} {m : Mem} {nx : Nat} {K : Kv} (h : K (.bool true) m nx) : CallG fz Try.prog 14 [] wr m nx K := knows04.flat0 trivial (fun _ => rfl) rfl h
end Go.Proofs.Ytmnbbpckglppjaa
