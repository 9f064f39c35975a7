/- Numbers of a variable length: Get. -/
import Derived.Test.YtmnbbpckglppjaaEng19
import Derived.Test.YtmnbbpckglppjaaEng26
import Derived.Test.YtmnbbpckglppjaaVle
import Derived.Test.YtmnbbpckglppjaaEng32
set_option linter.unusedVariables false
set_option linter.unusedSimpArgs false
set_option maxRecDepth 100000
namespace Go.Proofs.Ytmnbbpckglppjaa
open Go Go.Eng

/-- what has been got of the first i bytes -/
def gN (b : List (BitVec 8)) : Nat → BitVec 64
  | 0 => 0#64
  | i + 1 => gN b i ||| ((b.getD i 0 % 128#8).setWidth 64 <<< (7 * i))
/-- the answer, from byte i on, f more at most -/
def gRes (b : List (BitVec 8)) : Nat → Nat → BitVec 64 × Int × Int
  | 0, i => (0#64, 0, 6)
  | f + 1, i => if b.length ≤ i then (0#64, 0, 2) else if (b.getD i 0).toNat < 128 ∧ (0 < (b.getD i 0).toNat ∨ i = 0) then (gN b (i + 1), (i : Int) + 1, 0)
    else if (b.getD i 0).toNat < 128 ∨ i = 8 then (0#64, 0, 6) else gRes b f (i + 1)
def gRet (r : BitVec 64 × Int × Int) : AV := .tup [.int .u64 (r.1.toNat : Int), .int .i64 r.2.1, .int .i64 r.2.2]
set_option maxHeartbeats 1000000 in
theorem vgetOk (b : List (BitVec 8)) (hb : b.length ≤ 1000000) : CallG false Try.prog 16 [.ro b.length (bvs .u8 b)] (fun _ => true) [] 0 fun v m nx => v = gRet (gRes b 9 0) ∧ m = [] ∧ nx = 0 := by
  refine fn_okG Try.func16 rfl (by show 1 ≤ _; decide) ?_
  simp (config := { maxSteps := 1000000, implicitDefEqProofs := false }) only [-List.reduceReplicate, Nat.reduceBEq, renA, renL, renM, renO, evx, evs, evp, Eng.look, cst, cst1, putd, dstOk, params, loadx, partx, loI, hiI, bltx, mmI, boxx, srcx, calx, nilx, upd, del, resv, fillA, setMany, Nat.reduceLT, Nat.reduceLeDiff, Nat.reduceEqDiff, Nat.reduceAdd, Nat.reduceMul, Nat.reduceSub, reduceIte, reduceCtorEq, if_true, if_false, ite_true, ite_false, eq_self, forall_const, implies_true, Int.reduceLT, Int.reduceLE, Int.reduceToNat, Int.reduceAdd, Int.reduceSub, Int.reduceNeg, ne_eq, Int.reduceEq, Int.reduceNe, Int.reduceBEq, Int.reduceBNe, beq_self_eq_true, bne_self_eq_false, BitVec.reduceBEq, BitVec.reduceBNe, BitVec.reduceOfInt, BitVec.reduceSetWidth, wrD, engS0, engS1, engS2, engS3, engS4, engS5, engS6, engS7, engS8, engS9, engU0, engT0, engT1, engT2, Fx.t3, Fx.t4, Fx.t5, Fx.t22, Fx.t23, Fx.t25, Try.results16, Try.ntmps16]
  have fin : ∀ {m : Mem} {nx : Nat} {r : BitVec 64 × Int × Int}, r = gRes b 9 0 → Eng.Fin 0 (fun _ => true) m nx (fun v m nx => v = gRet (gRes b 9 0) ∧ m = [] ∧ nx = 0) (gRet r) := fun e => Fin.flatv (fun _ => rfl) (fun _ => rfl) ⟨by rw [e], rfl, rfl⟩
  refine LoopOk.upX (fun i (_ : Unit) => i ≤ b.length ∧ i ≤ 8 ∧ gRes b (9 - i) i = gRes b 9 0) 9 (fun i _ => ([(10, .int .i64 i), (9, .int .i64 b.length), (8, .ro b.length (bvs .u8 b)), (5, .int .u64 ((gN b i).toNat : Int))], [], 0)) () ⟨Nat.zero_le _, by decide, rfl⟩ ?_ ?_
  · exact Le.sameT (by decide) ⟨rfl, rfl, rfl, rfl, trivial⟩ trivial (by show ([] : List Nat).Nodup; exact List.nodup_nil)
  rintro i _ ⟨hi, hl, h8, hg⟩
  rcases Nat.lt_or_ge i b.length with h | h
  · have g1 : decide ((i : Int) < (b.length : Int)) = true := by simp; omega
    have w7 : IntKind.i64.wrap (7 * (i : Int)) = ((7 * i : Nat) : Int) := by rw [wrap_i64] <;> omega
    have wi : IntKind.i64.wrap ((i : Int) + 1) = ((i + 1 : Nat) : Int) := by rw [wrap_i64] <;> omega
    have hst : gRes b (9 - i) i = if (b.getD i 0).toNat < 128 ∧ (0 < (b.getD i 0).toNat ∨ i = 0) then (gN b (i + 1), (i : Int) + 1, 0) else if (b.getD i 0).toNat < 128 ∨ i = 8 then (0#64, 0, 6) else gRes b (8 - i) (i + 1) := by
      rw [show 9 - i = (8 - i) + 1 by omega, gRes, if_neg (by omega)]
    have hgn : gN b (i + 1) = gN b i ||| ((b.getD i 0 % 128#8).setWidth 64 <<< (7 * i)) := rfl
    rw [hst] at hg
    rcases Nat.lt_or_ge (b.getD i 0).toNat 128 with hx | hx
    · have f1 : decide (((b.getD i 0).toNat : Int) < 128) = true := decide_eq_true (by omega)
      rcases Nat.eq_zero_or_pos (b.getD i 0).toNat with h0 | h0
      · have f2 : decide (((b.getD i 0).toNat : Int) > 0) = false := decide_eq_false (by omega)
        rcases Nat.eq_zero_or_pos i with hi0 | hi0
        · have f3 : ((i : Int) == 0) = true := by simp; omega
          rw [if_pos ⟨hx, .inr hi0⟩] at hg
          simp (config := { maxSteps := 1000000, implicitDefEqProofs := false }) only [-List.reduceReplicate, Nat.reduceBEq, renA, renL, renM, renO, evx, evs, evp, Eng.look, cst, cst1, putd, dstOk, params, loadx, partx, loI, hiI, bltx, mmI, boxx, srcx, calx, nilx, upd, del, resv, fillA, setMany, Nat.reduceLT, Nat.reduceLeDiff, Nat.reduceEqDiff, Nat.reduceAdd, Nat.reduceMul, Nat.reduceSub, reduceIte, reduceCtorEq, if_true, if_false, ite_true, ite_false, eq_self, forall_const, implies_true, Int.reduceLT, Int.reduceLE, Int.reduceToNat, Int.reduceAdd, Int.reduceSub, Int.reduceNeg, ne_eq, Int.reduceEq, Int.reduceNe, Int.reduceBEq, Int.reduceBNe, beq_self_eq_true, bne_self_eq_false, BitVec.reduceBEq, BitVec.reduceBNe, BitVec.reduceOfInt, BitVec.reduceSetWidth, wrD, engS0, engS1, engS2, engS3, engS4, engS5, engS6, engS7, engS8, engS9, engU0, engT0, engT1, engT2, Fx.t3, Fx.t4, Fx.t5, Fx.t22, Fx.t23, Fx.t25, g1, f1, f2, f3, w7, wi]
          refine ⟨by omega, h, by rw [List.length_drop]; omega, ?_⟩
          exact fin (r := (gN b (i + 1), ((i + 1 : Nat) : Int), 0)) hg
        · have f3 : ((i : Int) == 0) = false := by simp; omega
          rw [if_neg (by omega), if_pos (.inl hx)] at hg
          simp (config := { maxSteps := 1000000, implicitDefEqProofs := false }) only [-List.reduceReplicate, Nat.reduceBEq, renA, renL, renM, renO, evx, evs, evp, Eng.look, cst, cst1, putd, dstOk, params, loadx, partx, loI, hiI, bltx, mmI, boxx, srcx, calx, nilx, upd, del, resv, fillA, setMany, Nat.reduceLT, Nat.reduceLeDiff, Nat.reduceEqDiff, Nat.reduceAdd, Nat.reduceMul, Nat.reduceSub, reduceIte, reduceCtorEq, if_true, if_false, ite_true, ite_false, eq_self, forall_const, implies_true, Int.reduceLT, Int.reduceLE, Int.reduceToNat, Int.reduceAdd, Int.reduceSub, Int.reduceNeg, ne_eq, Int.reduceEq, Int.reduceNe, Int.reduceBEq, Int.reduceBNe, beq_self_eq_true, bne_self_eq_false, BitVec.reduceBEq, BitVec.reduceBNe, BitVec.reduceOfInt, BitVec.reduceSetWidth, wrD, engS0, engS1, engS2, engS3, engS4, engS5, engS6, engS7, engS8, engS9, engU0, engT0, engT1, engT2, Fx.t3, Fx.t4, Fx.t5, Fx.t22, Fx.t23, Fx.t25, g1, f1, f2, f3, w7, wi]
          refine ⟨by omega, h, by rw [List.length_drop]; omega, ?_⟩
          exact fin (r := (0#64, 0, 6)) hg
      · have f2 : decide (((b.getD i 0).toNat : Int) > 0) = true := decide_eq_true (by omega)
        rw [if_pos ⟨hx, .inl h0⟩] at hg
        simp (config := { maxSteps := 1000000, implicitDefEqProofs := false }) only [-List.reduceReplicate, Nat.reduceBEq, renA, renL, renM, renO, evx, evs, evp, Eng.look, cst, cst1, putd, dstOk, params, loadx, partx, loI, hiI, bltx, mmI, boxx, srcx, calx, nilx, upd, del, resv, fillA, setMany, Nat.reduceLT, Nat.reduceLeDiff, Nat.reduceEqDiff, Nat.reduceAdd, Nat.reduceMul, Nat.reduceSub, reduceIte, reduceCtorEq, if_true, if_false, ite_true, ite_false, eq_self, forall_const, implies_true, Int.reduceLT, Int.reduceLE, Int.reduceToNat, Int.reduceAdd, Int.reduceSub, Int.reduceNeg, ne_eq, Int.reduceEq, Int.reduceNe, Int.reduceBEq, Int.reduceBNe, beq_self_eq_true, bne_self_eq_false, BitVec.reduceBEq, BitVec.reduceBNe, BitVec.reduceOfInt, BitVec.reduceSetWidth, wrD, engS0, engS1, engS2, engS3, engS4, engS5, engS6, engS7, engS8, engS9, engU0, engT0, engT1, engT2, Fx.t3, Fx.t4, Fx.t5, Fx.t22, Fx.t23, Fx.t25, g1, f1, f2, w7, wi]
        refine ⟨by omega, h, by rw [List.length_drop]; omega, ?_⟩
        exact fin (r := (gN b (i + 1), ((i + 1 : Nat) : Int), 0)) hg
    · have f1 : decide (((b.getD i 0).toNat : Int) < 128) = false := decide_eq_false (by omega)
      rcases Nat.lt_or_ge i 8 with h9 | h9
      · have f4 : (((i + 1 : Nat) : Int) == 9) = false := by simp; omega
        rw [if_neg (by omega), if_neg (by omega)] at hg
        simp (config := { maxSteps := 1000000, implicitDefEqProofs := false }) only [-List.reduceReplicate, Nat.reduceBEq, renA, renL, renM, renO, evx, evs, evp, Eng.look, cst, cst1, putd, dstOk, params, loadx, partx, loI, hiI, bltx, mmI, boxx, srcx, calx, nilx, upd, del, resv, fillA, setMany, Nat.reduceLT, Nat.reduceLeDiff, Nat.reduceEqDiff, Nat.reduceAdd, Nat.reduceMul, Nat.reduceSub, reduceIte, reduceCtorEq, if_true, if_false, ite_true, ite_false, eq_self, forall_const, implies_true, Int.reduceLT, Int.reduceLE, Int.reduceToNat, Int.reduceAdd, Int.reduceSub, Int.reduceNeg, ne_eq, Int.reduceEq, Int.reduceNe, Int.reduceBEq, Int.reduceBNe, beq_self_eq_true, bne_self_eq_false, BitVec.reduceBEq, BitVec.reduceBNe, BitVec.reduceOfInt, BitVec.reduceSetWidth, wrD, engS0, engS1, engS2, engS3, engS4, engS5, engS6, engS7, engS8, engS9, engU0, engT0, engT1, engT2, Fx.t3, Fx.t4, Fx.t5, Fx.t22, Fx.t23, Fx.t25, g1, f1, f4, w7, wi]
        refine ⟨by omega, h, by rw [List.length_drop]; omega, ?_⟩
        refine UpX_normal (by omega) () ⟨by omega, by omega, by rw [show 9 - (i + 1) = 8 - i by omega]; exact hg⟩ ?_
        exact Le.sameT (by decide) ⟨rfl, rfl, rfl, rfl, trivial⟩ trivial (by show ([] : List Nat).Nodup; exact List.nodup_nil)
      · have f4 : (((i + 1 : Nat) : Int) == 9) = true := by simp; omega
        rw [if_neg (by omega), if_pos (.inr (by omega))] at hg
        simp (config := { maxSteps := 1000000, implicitDefEqProofs := false }) only [-List.reduceReplicate, Nat.reduceBEq, renA, renL, renM, renO, evx, evs, evp, Eng.look, cst, cst1, putd, dstOk, params, loadx, partx, loI, hiI, bltx, mmI, boxx, srcx, calx, nilx, upd, del, resv, fillA, setMany, Nat.reduceLT, Nat.reduceLeDiff, Nat.reduceEqDiff, Nat.reduceAdd, Nat.reduceMul, Nat.reduceSub, reduceIte, reduceCtorEq, if_true, if_false, ite_true, ite_false, eq_self, forall_const, implies_true, Int.reduceLT, Int.reduceLE, Int.reduceToNat, Int.reduceAdd, Int.reduceSub, Int.reduceNeg, ne_eq, Int.reduceEq, Int.reduceNe, Int.reduceBEq, Int.reduceBNe, beq_self_eq_true, bne_self_eq_false, BitVec.reduceBEq, BitVec.reduceBNe, BitVec.reduceOfInt, BitVec.reduceSetWidth, wrD, engS0, engS1, engS2, engS3, engS4, engS5, engS6, engS7, engS8, engS9, engU0, engT0, engT1, engT2, Fx.t3, Fx.t4, Fx.t5, Fx.t22, Fx.t23, Fx.t25, g1, f1, f4, w7, wi]
        refine ⟨by omega, h, by rw [List.length_drop]; omega, ?_⟩
        exact fin (r := (0#64, 0, 6)) hg
  · have g1 : decide ((i : Int) < (b.length : Int)) = false := by simp; omega
    have hr : gRes b (9 - i) i = (0#64, 0, 2) := by rw [show 9 - i = (8 - i) + 1 by omega, gRes, if_pos h]
    simp (config := { maxSteps := 1000000, implicitDefEqProofs := false }) only [-List.reduceReplicate, Nat.reduceBEq, renA, renL, renM, renO, evx, evs, evp, Eng.look, cst, cst1, putd, dstOk, params, loadx, partx, loI, hiI, bltx, mmI, boxx, srcx, calx, nilx, upd, del, resv, fillA, setMany, Nat.reduceLT, Nat.reduceLeDiff, Nat.reduceEqDiff, Nat.reduceAdd, Nat.reduceMul, Nat.reduceSub, reduceIte, reduceCtorEq, if_true, if_false, ite_true, ite_false, eq_self, forall_const, implies_true, Int.reduceLT, Int.reduceLE, Int.reduceToNat, Int.reduceAdd, Int.reduceSub, Int.reduceNeg, ne_eq, Int.reduceEq, Int.reduceNe, Int.reduceBEq, Int.reduceBNe, beq_self_eq_true, bne_self_eq_false, BitVec.reduceBEq, BitVec.reduceBNe, BitVec.reduceOfInt, BitVec.reduceSetWidth, wrD, engS0, engS1, engS2, engS3, engS4, engS5, engS6, engS7, engS8, engS9, engU0, engT0, engT1, engT2, Fx.t3, Fx.t4, Fx.t5, Fx.t22, Fx.t23, Fx.t25, g1]
    exact fin (r := (0#64, 0, 2)) (hr.symm.trans hg)
end Go.Proofs.Ytmnbbpckglppjaa
