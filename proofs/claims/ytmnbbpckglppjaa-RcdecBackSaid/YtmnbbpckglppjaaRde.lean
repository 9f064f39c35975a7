/- Reading bits: a new reader. -/
import Derived.Test.YtmnbbpckglppjaaEng19
import Derived.Test.YtmnbbpckglppjaaEng26
import Derived.Test.YtmnbbpckglppjaaRdd
set_option linter.unusedVariables false
set_option linter.unusedSimpArgs false
set_option maxRecDepth 100000
namespace Go.Proofs.Ytmnbbpckglppjaa
open Go Go.Eng

def code0 (b : List (BitVec 8)) : BitVec 32 := (((b.getD 1 0).setWidth 32 <<< 24 ||| (b.getD 2 0).setWidth 32 <<< 16) ||| (b.getD 3 0).setWidth 32 <<< 8) ||| (b.getD 4 0).setWidth 32
def start (b : List (BitVec 8)) : DS := ⟨0, code0 b, 4294967295#32, false⟩
def cdN (b : List (BitVec 8)) : Nat → BitVec 64
  | 0 => 0#64
  | j + 1 => 256#64 * cdN b j + (b.getD (j + 1) 0).setWidth 64
theorem cdN_code (b : List (BitVec 8)) : (cdN b 4).toNat = (code0 b).toNat := by
  have h1 := (b.getD 1 0).isLt
  have h2 := (b.getD 2 0).isLt
  have h3 := (b.getD 3 0).isLt
  have h4 := (b.getD 4 0).isLt
  have e : code0 b = ((((b.getD 1 0).setWidth 32 <<< 8 ||| (b.getD 2 0).setWidth 32) <<< 8 ||| (b.getD 3 0).setWidth 32) <<< 8 ||| (b.getD 4 0).setWidth 32) := by
    simp only [code0, BitVec.shiftLeft_or_distrib, ← BitVec.shiftLeft_add, Nat.reduceAdd]
  have w : ((b.getD 1 0).setWidth 32).toNat = (b.getD 1 0).toNat := by rw [BitVec.toNat_setWidth]; omega
  rw [e, or8, or8, or8, w]
  show (256#64 * (256#64 * (256#64 * (256#64 * 0#64 + (b.getD 1 0).setWidth 64) + (b.getD 2 0).setWidth 64) + (b.getD 3 0).setWidth 64) + (b.getD 4 0).setWidth 64).toNat = _
  simp only [BitVec.toNat_add, BitVec.toNat_mul, b64, show (256#64).toNat = 256 from rfl, show (0#64).toNat = 0 from rfl]
  omega
def newE (b : List (BitVec 8)) : Int := if b.length < 5 then 2 else if b.getD 0 0 ≠ 0#8 then 6 else 0
def NewK (b : List (BitVec 8)) : Kv := fun v m nx => if newE b = 0 then ∃ (cap : Nat) (sp : List Value), (b.drop 5).length + sp.length = cap ∧ v = .tup [.ptr 0 0, .int .i64 0] ∧ m = dM (b.drop 5) sp cap (start b) ∧ nx = 2 else v = .tup [.nilp, .int .i64 (newE b)] ∧ m = [] ∧ nx = 0
set_option maxHeartbeats 400000 in
theorem newOk (b : List (BitVec 8)) (hb : b.length ≤ 1000000) :
    CallOk Try.prog 26 [.ro b.length (bvs .u8 b)] (fun _ => true) [] 0 (NewK b) := by
  refine fn_ok Try.func26 rfl (by show 1 ≤ _; decide) ?_
  rcases Nat.lt_or_ge b.length 5 with h | h
  · have e1 : decide ((b.length : Int) < 5) = true := by simp; omega
    have hE : newE b = 2 := by rw [newE, if_pos h]
    simp (config := { maxSteps := 1000000, implicitDefEqProofs := false }) only [-List.reduceReplicate, Nat.reduceBEq, renA, renL, renM, renO, evx, evs, evp, Eng.look, cst, cst1, putd, dstOk, params, loadx, partx, loI, hiI, bltx, mmI, boxx, srcx, calx, nilx, upd, del, resv, fillA, setMany, Nat.reduceLT, Nat.reduceLeDiff, Nat.reduceEqDiff, Nat.reduceAdd, Nat.reduceMul, Nat.reduceSub, reduceIte, reduceCtorEq, if_true, if_false, ite_true, ite_false, eq_self, forall_const, implies_true, Int.reduceLT, Int.reduceLE, Int.reduceToNat, Int.reduceAdd, Int.reduceSub, Int.reduceNeg, ne_eq, Int.reduceEq, Int.reduceNe, Int.reduceBEq, Int.reduceBNe, beq_self_eq_true, bne_self_eq_false, BitVec.reduceBEq, BitVec.reduceBNe, BitVec.reduceOfInt, BitVec.reduceSetWidth, wrD, engS0, engS1, engS2, engS3, engS4, engS5, engS6, engS7, engS8, engS9, engT0, engT1, engT2, Fx.t3, Fx.t4, Fx.t5, Fx.t23, Fx.t25, Fx.t46, Fx.t53, Fx.t118, Fx.t119, Try.results26, Try.ntmps26, e1]
    exact Fin.flatv (fun _ => rfl) (fun f => rfl) (by rw [NewK, hE, if_neg (by decide)]; exact ⟨rfl, rfl, rfl⟩)
  have e1 : decide ((b.length : Int) < 5) = false := by simp; omega
  have h0 : 0 < b.length := by omega
  rcases Decidable.em (b.getD 0 0 = 0#8) with hz | hz
  · have hE : newE b = 0 := by rw [newE, if_neg (by omega), if_neg (fun e => e hz)]
    have e2 : (b.getD 0 0 != 0#8) = false := by rw [hz]; rfl
    simp (config := { maxSteps := 1000000, implicitDefEqProofs := false }) only [-List.reduceReplicate, Nat.reduceBEq, renA, renL, renM, renO, evx, evs, evp, Eng.look, cst, cst1, putd, dstOk, params, loadx, partx, loI, hiI, bltx, mmI, boxx, srcx, calx, nilx, upd, del, resv, fillA, setMany, Nat.reduceLT, Nat.reduceLeDiff, Nat.reduceEqDiff, Nat.reduceAdd, Nat.reduceMul, Nat.reduceSub, reduceIte, reduceCtorEq, if_true, if_false, ite_true, ite_false, eq_self, forall_const, implies_true, Int.reduceLT, Int.reduceLE, Int.reduceToNat, Int.reduceAdd, Int.reduceSub, Int.reduceNeg, ne_eq, Int.reduceEq, Int.reduceNe, Int.reduceBEq, Int.reduceBNe, beq_self_eq_true, bne_self_eq_false, BitVec.reduceBEq, BitVec.reduceBNe, BitVec.reduceOfInt, BitVec.reduceSetWidth, wrD, engS0, engS1, engS2, engS3, engS4, engS5, engS6, engS7, engS8, engS9, engT0, engT1, engT2, Fx.t3, Fx.t4, Fx.t5, Fx.t23, Fx.t25, Fx.t46, Fx.t53, Fx.t118, Fx.t119, Try.results26, Try.ntmps26, e1, e2]
    refine ⟨by omega, h0, h0, ?_⟩
    refine ⟨Fx.mixed, .inl ⟨[(0, false), (1, false), (2, false), (3, false), (4, false), (5, false), (6, false), (7, false), (8, false), (9, false), (10, false), (11, false), (12, false), (13, false), (14, false), (15, false), (16, false), (17, false), (18, false), (19, false), (20, false), (21, false), (22, false)], [], by kernel_rfl, (fun n hn => by cases hn), ?_⟩⟩
    simp (config := { maxSteps := 1000000, implicitDefEqProofs := false }) only [-List.reduceReplicate, Nat.reduceBEq, renA, renL, renM, renO, evx, evs, evp, Eng.look, cst, cst1, putd, dstOk, params, loadx, partx, loI, hiI, bltx, mmI, boxx, srcx, calx, nilx, upd, del, resv, fillA, setMany, Nat.reduceLT, Nat.reduceLeDiff, Nat.reduceEqDiff, Nat.reduceAdd, Nat.reduceMul, Nat.reduceSub, reduceIte, reduceCtorEq, if_true, if_false, ite_true, ite_false, eq_self, forall_const, implies_true, Int.reduceLT, Int.reduceLE, Int.reduceToNat, Int.reduceAdd, Int.reduceSub, Int.reduceNeg, ne_eq, Int.reduceEq, Int.reduceNe, Int.reduceBEq, Int.reduceBNe, beq_self_eq_true, bne_self_eq_false, BitVec.reduceBEq, BitVec.reduceBNe, BitVec.reduceOfInt, BitVec.reduceSetWidth, wrD, engS0, engS1, engS2, engS3, engS4, engS5, engS6, engS7, engS8, engS9, engT0, engT1, engT2, Fx.t3, Fx.t4, Fx.t5, Fx.t23, Fx.t25, Fx.t46, Fx.t53, Fx.t118, Fx.t119]
    repeat (refine And.intro (by first | omega | (simp only [List.length_drop]; omega)) ?_)
    have hdl : (b.drop 5).length = b.length - 5 := List.length_drop ..
    have htk : List.take (b.length - 5) (List.take (b.length - 5) (List.drop 5 b)) = b.drop 5 := by
      rw [List.take_take, Nat.min_self, List.take_of_length_le (by omega)]
    refine ⟨.inl trivial, ⟨by omega, by omega⟩, by rw [htk, hdl], ?_⟩
    rw [htk, ← hdl]
    refine appk_bvs (x := ([] : List (BitVec 8))) (sp := []) rfl rfl rfl (by decide) (by decide) (by simp; omega) fun cap1 sp1 g1 g2 => ?_
    simp (config := { maxSteps := 1000000, implicitDefEqProofs := false }) only [-List.reduceReplicate, Nat.reduceBEq, renA, renL, renM, renO, evx, evs, evp, Eng.look, cst, cst1, putd, dstOk, params, loadx, partx, loI, hiI, bltx, mmI, boxx, srcx, calx, nilx, upd, del, resv, fillA, setMany, Nat.reduceLT, Nat.reduceLeDiff, Nat.reduceEqDiff, Nat.reduceAdd, Nat.reduceMul, Nat.reduceSub, reduceIte, reduceCtorEq, if_true, if_false, ite_true, ite_false, eq_self, forall_const, implies_true, Int.reduceLT, Int.reduceLE, Int.reduceToNat, Int.reduceAdd, Int.reduceSub, Int.reduceNeg, ne_eq, Int.reduceEq, Int.reduceNe, Int.reduceBEq, Int.reduceBNe, beq_self_eq_true, bne_self_eq_false, BitVec.reduceBEq, BitVec.reduceBNe, BitVec.reduceOfInt, BitVec.reduceSetWidth, wrD, engS0, engS1, engS2, engS3, engS4, engS5, engS6, engS7, engS8, engS9, engT0, engT1, engT2, Fx.t3, Fx.t4, Fx.t5, Fx.t23, Fx.t25, Fx.t46, Fx.t53, Fx.t118, Fx.t119]
    rw [List.nil_append] at g1
    refine ⟨[(0, 2), (1, 1)], .tup [.ptr 0 0, .int .i64 0], dM (b.drop 5) sp1 cap1 (start b), 2, ⟨rfl, by decide⟩, rfl, ⟨by simp only [renO, renL]; rfl, rfl, by simp only [renO, renL_vals']; rfl, rfl, trivial⟩, ?_, (fun n e => by cases e), ?_⟩
    · simp [injOn, dM, rf, Eng.look]
    · rw [NewK, hE, if_pos rfl]
      exact ⟨cap1, sp1, g1, rfl, rfl, rfl⟩
  · have hE : newE b = 6 := by rw [newE, if_neg (by omega), if_pos hz]
    have e2 : (b.getD 0 0 != 0#8) = true := by simpa using hz
    simp (config := { maxSteps := 1000000, implicitDefEqProofs := false }) only [-List.reduceReplicate, Nat.reduceBEq, renA, renL, renM, renO, evx, evs, evp, Eng.look, cst, cst1, putd, dstOk, params, loadx, partx, loI, hiI, bltx, mmI, boxx, srcx, calx, nilx, upd, del, resv, fillA, setMany, Nat.reduceLT, Nat.reduceLeDiff, Nat.reduceEqDiff, Nat.reduceAdd, Nat.reduceMul, Nat.reduceSub, reduceIte, reduceCtorEq, if_true, if_false, ite_true, ite_false, eq_self, forall_const, implies_true, Int.reduceLT, Int.reduceLE, Int.reduceToNat, Int.reduceAdd, Int.reduceSub, Int.reduceNeg, ne_eq, Int.reduceEq, Int.reduceNe, Int.reduceBEq, Int.reduceBNe, beq_self_eq_true, bne_self_eq_false, BitVec.reduceBEq, BitVec.reduceBNe, BitVec.reduceOfInt, BitVec.reduceSetWidth, wrD, engS0, engS1, engS2, engS3, engS4, engS5, engS6, engS7, engS8, engS9, engT0, engT1, engT2, Fx.t3, Fx.t4, Fx.t5, Fx.t23, Fx.t25, Fx.t46, Fx.t53, Fx.t118, Fx.t119, Try.results26, Try.ntmps26, e1, e2]
    refine ⟨by omega, h0, h0, ?_⟩
    exact Fin.flatv (fun _ => rfl) (fun f => rfl) (by rw [NewK, hE, if_neg (by decide)]; exact ⟨rfl, rfl, rfl⟩)
def RNewK (b : List (BitVec 8)) : Kv := fun v m nx => if newE b = 0 then v = .tup [.ptr 0 0, .int .i64 0] ∧ m = rM b (start b) ∧ nx = 1 else v = .tup [.nilp, .int .i64 (newE b)] ∧ m = [] ∧ nx = 0
set_option maxHeartbeats 400000 in
theorem rnewOk (b : List (BitVec 8)) (hb : b.length ≤ 1000000) :
    CallG false Try.prog 27 [.ro b.length (bvs .u8 b)] (fun _ => true) [] 0 (RNewK b) := by
  refine fn_okG Try.func27 rfl (by show 1 ≤ _; decide) ?_
  rcases Nat.lt_or_ge b.length 5 with h | h
  · have e1 : decide ((b.length : Int) < 5) = true := by simp; omega
    have hE : newE b = 2 := by rw [newE, if_pos h]
    simp (config := { maxSteps := 1000000, implicitDefEqProofs := false }) only [-List.reduceReplicate, Nat.reduceBEq, renA, renL, renM, renO, evx, evs, evp, Eng.look, cst, cst1, putd, dstOk, params, loadx, partx, loI, hiI, bltx, mmI, boxx, srcx, calx, nilx, upd, del, resv, fillA, setMany, Nat.reduceLT, Nat.reduceLeDiff, Nat.reduceEqDiff, Nat.reduceAdd, Nat.reduceMul, Nat.reduceSub, reduceIte, reduceCtorEq, if_true, if_false, ite_true, ite_false, eq_self, forall_const, implies_true, Int.reduceLT, Int.reduceLE, Int.reduceToNat, Int.reduceAdd, Int.reduceSub, Int.reduceNeg, ne_eq, Int.reduceEq, Int.reduceNe, Int.reduceBEq, Int.reduceBNe, beq_self_eq_true, bne_self_eq_false, BitVec.reduceBEq, BitVec.reduceBNe, BitVec.reduceOfInt, BitVec.reduceSetWidth, wrD, engS0, engS1, engS2, engS3, engS4, engS5, engS6, engS7, engS8, engS9, engT0, engT1, engT2, Fx.t2, Fx.t3, Fx.t4, Fx.t5, Fx.t22, Fx.t23, Fx.t49, Fx.t62, Fx.t63, Try.results27, Try.ntmps27, e1]
    exact Fin.flatv (fun _ => rfl) (fun f => rfl) (by rw [RNewK, hE, if_neg (by decide)]; exact ⟨rfl, rfl, rfl⟩)
  have e1 : decide ((b.length : Int) < 5) = false := by simp; omega
  have h0 : 0 < b.length := by omega
  rcases Decidable.em (b.getD 0 0 = 0#8) with hz | hz
  · have hE : newE b = 0 := by rw [newE, if_neg (by omega), if_neg (fun e => e hz)]
    have e2 : (b.getD 0 0 != 0#8) = false := by rw [hz]; rfl
    simp (config := { maxSteps := 1000000, implicitDefEqProofs := false }) only [-List.reduceReplicate, Nat.reduceBEq, renA, renL, renM, renO, evx, evs, evp, Eng.look, cst, cst1, putd, dstOk, params, loadx, partx, loI, hiI, bltx, mmI, boxx, srcx, calx, nilx, upd, del, resv, fillA, setMany, Nat.reduceLT, Nat.reduceLeDiff, Nat.reduceEqDiff, Nat.reduceAdd, Nat.reduceMul, Nat.reduceSub, reduceIte, reduceCtorEq, if_true, if_false, ite_true, ite_false, eq_self, forall_const, implies_true, Int.reduceLT, Int.reduceLE, Int.reduceToNat, Int.reduceAdd, Int.reduceSub, Int.reduceNeg, ne_eq, Int.reduceEq, Int.reduceNe, Int.reduceBEq, Int.reduceBNe, beq_self_eq_true, bne_self_eq_false, BitVec.reduceBEq, BitVec.reduceBNe, BitVec.reduceOfInt, BitVec.reduceSetWidth, wrD, engS0, engS1, engS2, engS3, engS4, engS5, engS6, engS7, engS8, engS9, engT0, engT1, engT2, Fx.t2, Fx.t3, Fx.t4, Fx.t5, Fx.t22, Fx.t23, Fx.t49, Fx.t62, Fx.t63, Try.results27, Try.ntmps27, e1, e2]
    refine ⟨by omega, h0, h0, ?_⟩
    refine LoopOk.up 4 (fun j => ([(5, .int .i64 (j + 1 : Nat)), (4, .ptr 0 0), (0, .ro b.length (bvs .u8 b))], [(0, .cells [.ro b.length (bvs .u8 b), .int .i64 5, .int .u64 ((cdN b j).toNat : Int), .int .u64 4294967295, .bool false] 63)], 1)) (Le.sameT (by decide) ⟨rfl, rfl, rfl, trivial⟩ ⟨rfl, trivial⟩ (by simp)) ?_
    intro j hj
    rcases Nat.lt_or_ge j 4 with h4 | h4
    · have g1 : decide (((j + 1 : Nat) : Int) < 5) = true := by simp; omega
      have wj : IntKind.i64.wrap (((j + 1 : Nat) : Int) + 1) = ((j + 1 + 1 : Nat) : Int) := by rw [wrap_i64] <;> omega
      simp (config := { maxSteps := 1000000, implicitDefEqProofs := false }) only [-List.reduceReplicate, Nat.reduceBEq, renA, renL, renM, renO, evx, evs, evp, Eng.look, cst, cst1, putd, dstOk, params, loadx, partx, loI, hiI, bltx, mmI, boxx, srcx, calx, nilx, upd, del, resv, fillA, setMany, Nat.reduceLT, Nat.reduceLeDiff, Nat.reduceEqDiff, Nat.reduceAdd, Nat.reduceMul, Nat.reduceSub, reduceIte, reduceCtorEq, if_true, if_false, ite_true, ite_false, eq_self, forall_const, implies_true, Int.reduceLT, Int.reduceLE, Int.reduceToNat, Int.reduceAdd, Int.reduceSub, Int.reduceNeg, ne_eq, Int.reduceEq, Int.reduceNe, Int.reduceBEq, Int.reduceBNe, beq_self_eq_true, bne_self_eq_false, BitVec.reduceBEq, BitVec.reduceBNe, BitVec.reduceOfInt, BitVec.reduceSetWidth, wrD, engS0, engS1, engS2, engS3, engS4, engS5, engS6, engS7, engS8, engS9, engT0, engT1, engT2, Fx.t2, Fx.t3, Fx.t4, Fx.t5, Fx.t22, Fx.t23, Fx.t49, Fx.t62, Fx.t63, g1, wj]
      refine ⟨Fx.mixed, .inr (.inl ⟨[(0, false), (1, false), (2, false), (3, false), (4, false), (5, false), (6, false), (7, false), (8, false), (9, false), (10, false), (11, false), (12, false), (13, false), (14, true)], [0], [14], [4], by kernel_rfl, by kernel_rfl, (fun n hn => by cases List.mem_singleton.1 hn; exact ⟨rfl, rfl⟩), ?_⟩)⟩
      simp (config := { maxSteps := 1000000, implicitDefEqProofs := false }) only [-List.reduceReplicate, Nat.reduceBEq, renA, renL, renM, renO, evx, evs, evp, Eng.look, cst, cst1, putd, dstOk, params, loadx, partx, loI, hiI, bltx, mmI, boxx, srcx, calx, nilx, upd, del, resv, fillA, setMany, Nat.reduceLT, Nat.reduceLeDiff, Nat.reduceEqDiff, Nat.reduceAdd, Nat.reduceMul, Nat.reduceSub, reduceIte, reduceCtorEq, if_true, if_false, ite_true, ite_false, eq_self, forall_const, implies_true, Int.reduceLT, Int.reduceLE, Int.reduceToNat, Int.reduceAdd, Int.reduceSub, Int.reduceNeg, ne_eq, Int.reduceEq, Int.reduceNe, Int.reduceBEq, Int.reduceBNe, beq_self_eq_true, bne_self_eq_false, BitVec.reduceBEq, BitVec.reduceBNe, BitVec.reduceOfInt, BitVec.reduceSetWidth, wrD, engS0, engS1, engS2, engS3, engS4, engS5, engS6, engS7, engS8, engS9, engT0, engT1, engT2, Fx.t2, Fx.t3, Fx.t4, Fx.t5, Fx.t22, Fx.t23, Fx.t49, Fx.t62, Fx.t63, wj]
      refine ⟨by omega, by omega, by rw [List.length_drop]; omega, ?_⟩
      refine UpK_normal h4 (Le.sameT (by decide) ⟨rfl, rfl, rfl, trivial⟩ ⟨rfl, trivial⟩ (by simp))
    · have hj' : j = 4 := by omega
      subst hj'
      simp (config := { maxSteps := 1000000, implicitDefEqProofs := false }) only [-List.reduceReplicate, Nat.reduceBEq, renA, renL, renM, renO, evx, evs, evp, Eng.look, cst, cst1, putd, dstOk, params, loadx, partx, loI, hiI, bltx, mmI, boxx, srcx, calx, nilx, upd, del, resv, fillA, setMany, Nat.reduceLT, Nat.reduceLeDiff, Nat.reduceEqDiff, Nat.reduceAdd, Nat.reduceMul, Nat.reduceSub, reduceIte, reduceCtorEq, if_true, if_false, ite_true, ite_false, eq_self, forall_const, implies_true, Int.reduceLT, Int.reduceLE, Int.reduceToNat, Int.reduceAdd, Int.reduceSub, Int.reduceNeg, ne_eq, Int.reduceEq, Int.reduceNe, Int.reduceBEq, Int.reduceBNe, beq_self_eq_true, bne_self_eq_false, BitVec.reduceBEq, BitVec.reduceBNe, BitVec.reduceOfInt, BitVec.reduceSetWidth, wrD, engS0, engS1, engS2, engS3, engS4, engS5, engS6, engS7, engS8, engS9, engT0, engT1, engT2, Fx.t2, Fx.t3, Fx.t4, Fx.t5, Fx.t22, Fx.t23, Fx.t49, Fx.t62, Fx.t63]
      have e3 : ((cdN b 4).toNat : Int) = ((code0 b).toNat : Int) := by rw [cdN_code]
      rw [e3]
      exact Fin.keep (m0 := rM b (start b)) (by decide) ⟨rfl, trivial⟩ (by simp [rM]) (by rw [RNewK, hE, if_pos rfl]; exact ⟨rfl, rfl, rfl⟩)
  · have hE : newE b = 6 := by rw [newE, if_neg (by omega), if_pos hz]
    have e2 : (b.getD 0 0 != 0#8) = true := by simpa using hz
    simp (config := { maxSteps := 1000000, implicitDefEqProofs := false }) only [-List.reduceReplicate, Nat.reduceBEq, renA, renL, renM, renO, evx, evs, evp, Eng.look, cst, cst1, putd, dstOk, params, loadx, partx, loI, hiI, bltx, mmI, boxx, srcx, calx, nilx, upd, del, resv, fillA, setMany, Nat.reduceLT, Nat.reduceLeDiff, Nat.reduceEqDiff, Nat.reduceAdd, Nat.reduceMul, Nat.reduceSub, reduceIte, reduceCtorEq, if_true, if_false, ite_true, ite_false, eq_self, forall_const, implies_true, Int.reduceLT, Int.reduceLE, Int.reduceToNat, Int.reduceAdd, Int.reduceSub, Int.reduceNeg, ne_eq, Int.reduceEq, Int.reduceNe, Int.reduceBEq, Int.reduceBNe, beq_self_eq_true, bne_self_eq_false, BitVec.reduceBEq, BitVec.reduceBNe, BitVec.reduceOfInt, BitVec.reduceSetWidth, wrD, engS0, engS1, engS2, engS3, engS4, engS5, engS6, engS7, engS8, engS9, engT0, engT1, engT2, Fx.t2, Fx.t3, Fx.t4, Fx.t5, Fx.t22, Fx.t23, Fx.t49, Fx.t62, Fx.t63, Try.results27, Try.ntmps27, e1, e2]
    refine ⟨by omega, h0, h0, ?_⟩
    exact Fin.flatv (fun _ => rfl) (fun f => rfl) (by rw [RNewK, hE, if_neg (by decide)]; exact ⟨rfl, rfl, rfl⟩)
end Go.Proofs.Ytmnbbpckglppjaa
