/- Numbers of a variable length: the document's Get. -/
import Derived.Test.YtmnbbpckglppjaaEng19
import Derived.Test.YtmnbbpckglppjaaEng26
import Derived.Test.YtmnbbpckglppjaaVlf
set_option linter.unusedVariables false
set_option linter.unusedSimpArgs false
set_option maxRecDepth 100000
namespace Go.Proofs.Ytmnbbpckglppjaa
open Go Go.Eng

def pW : Nat → BitVec 64
  | 0 => 1#64
  | i + 1 => pW i * 128#64
theorem pW_nat : ∀ i, i ≤ 9 → (pW i).toNat = 128 ^ i
  | 0, _ => rfl
  | i + 1, h => by
    have ih := pW_nat i (by omega)
    have : 128 ^ i * 128 < 2 ^ 64 := by
      have : (128 : Nat) ^ (i + 1) ≤ 128 ^ 9 := Nat.pow_le_pow_right (by decide) h
      rw [Nat.pow_succ] at this
      exact Nat.lt_of_le_of_lt this (by decide)
    rw [pW, BitVec.toNat_mul, ih, show (128#64).toNat = 128 from rfl, Nat.mod_eq_of_lt this, Nat.pow_succ]
theorem gN_nat (b : List (BitVec 8)) : ∀ i, i ≤ 9 → (gN b i).toNat < 128 ^ i ∧ (i ≤ 8 → (gN b (i + 1)).toNat = (gN b i).toNat + (b.getD i 0).toNat % 128 * 128 ^ i)
  | i, hi => by
    have hlt : (gN b i).toNat < 128 ^ i := by
      cases i with
      | zero => show 0 < 1; decide
      | succ j =>
        obtain ⟨h1, h2⟩ := gN_nat b j (by omega)
        have h3 := h2 (by omega)
        have h4 : (b.getD j 0).toNat % 128 ≤ 127 := by omega
        have h5 := Nat.mul_le_mul_right (128 ^ j) h4
        rw [h3, Nat.pow_succ]
        omega
    refine ⟨hlt, fun h8 => ?_⟩
    have hp : (128 : Nat) ^ i = 2 ^ (7 * i) := by rw [Nat.pow_mul]
    have hx : ((b.getD i 0 % 128#8).setWidth 64).toNat = (b.getD i 0).toNat % 128 := by
      rw [BitVec.toNat_setWidth, BitVec.toNat_umod]; show (b.getD i 0).toNat % 128 % 2 ^ 64 = _; omega
    have hs : ((b.getD i 0 % 128#8).setWidth 64 <<< (7 * i)).toNat = 2 ^ (7 * i) * ((b.getD i 0).toNat % 128) := by
      rw [BitVec.toNat_shiftLeft, hx, Nat.shiftLeft_eq, Nat.mul_comm]
      refine Nat.mod_eq_of_lt ?_
      have h1 : 2 ^ (7 * i) ≤ 2 ^ 56 := Nat.pow_le_pow_right (by decide) (by omega)
      have h2 : (b.getD i 0).toNat % 128 ≤ 127 := by omega
      have h3 := Nat.mul_le_mul h1 h2
      exact Nat.lt_of_le_of_lt h3 (by decide)
    rw [gN, BitVec.toNat_or, hs, Nat.or_comm, ← Nat.two_pow_add_eq_or_of_lt (by rw [← hp]; exact hlt), hp, Nat.mul_comm]
    omega
theorem gN_add (b : List (BitVec 8)) (i : Nat) (hi : i ≤ 8) : gN b i + (b.getD i 0 % 128#8).setWidth 64 * pW i = gN b (i + 1) := by
  refine BitVec.eq_of_toNat_eq ?_
  obtain ⟨h1, h2⟩ := gN_nat b i (by omega)
  have h3 := (gN b (i + 1)).isLt
  rw [h2 hi] at h3 ⊢
  have hx : ((b.getD i 0 % 128#8).setWidth 64).toNat = (b.getD i 0).toNat % 128 := by
    rw [BitVec.toNat_setWidth, BitVec.toNat_umod]; show (b.getD i 0).toNat % 128 % 2 ^ 64 = _; omega
  rw [BitVec.toNat_add, BitVec.toNat_mul, hx, pW_nat i (by omega)]
  rw [Nat.mod_eq_of_lt (a := (b.getD i 0).toNat % 128 * 128 ^ i) (by omega), Nat.mod_eq_of_lt h3]
set_option maxHeartbeats 1000000 in
theorem rgetOk (b : List (BitVec 8)) (hb : b.length ≤ 1000000) : CallG false Try.prog 18 [.ro b.length (bvs .u8 b)] (fun _ => true) [] 0 fun v m nx => v = gRet (gRes b 9 0) ∧ m = [] ∧ nx = 0 := by
  refine fn_okG Try.func18 rfl (by show 1 ≤ _; decide) ?_
  simp (config := { maxSteps := 1000000, implicitDefEqProofs := false }) only [-List.reduceReplicate, Nat.reduceBEq, renA, renL, renM, renO, evx, evs, evp, Eng.look, cst, cst1, putd, dstOk, params, loadx, partx, loI, hiI, bltx, mmI, boxx, srcx, calx, nilx, upd, del, resv, fillA, setMany, Nat.reduceLT, Nat.reduceLeDiff, Nat.reduceEqDiff, Nat.reduceAdd, Nat.reduceMul, Nat.reduceSub, reduceIte, reduceCtorEq, if_true, if_false, ite_true, ite_false, eq_self, forall_const, implies_true, Int.reduceLT, Int.reduceLE, Int.reduceToNat, Int.reduceAdd, Int.reduceSub, Int.reduceNeg, ne_eq, Int.reduceEq, Int.reduceNe, Int.reduceBEq, Int.reduceBNe, beq_self_eq_true, bne_self_eq_false, BitVec.reduceBEq, BitVec.reduceBNe, BitVec.reduceOfInt, BitVec.reduceSetWidth, wrD, engS0, engS1, engS2, engS3, engS4, engS5, engS6, engS7, engS8, engS9, engU0, engT0, engT1, engT2, Fx.t3, Fx.t4, Fx.t5, Fx.t22, Fx.t23, Try.results18, Try.ntmps18]
  have fin : ∀ {m : Mem} {nx : Nat} {r : BitVec 64 × Int × Int}, r = gRes b 9 0 → Eng.Fin 0 (fun _ => true) m nx (fun v m nx => v = gRet (gRes b 9 0) ∧ m = [] ∧ nx = 0) (gRet r) := fun e => Fin.flatv (fun _ => rfl) (fun _ => rfl) ⟨by rw [e], rfl, rfl⟩
  refine LoopOk.upX (fun i (_ : Unit) => i ≤ b.length ∧ gRes b (9 - i) i = gRes b 9 0) 9 (fun i _ => ([(7, .int .i64 i), (6, .int .u64 ((pW i).toNat : Int)), (5, .int .u64 ((gN b i).toNat : Int)), (0, .ro b.length (bvs .u8 b))], [], 0)) () ⟨Nat.zero_le _, rfl⟩ ?_ ?_
  · exact Le.sameT (by decide) ⟨rfl, rfl, rfl, rfl, trivial⟩ trivial (by show ([] : List Nat).Nodup; exact List.nodup_nil)
  rintro i _ ⟨hi, hl, hg⟩
  rcases Nat.lt_or_ge i 9 with h9 | h9
  · have g1 : decide ((i : Int) < 9) = true := by simp; omega
    rcases Nat.lt_or_ge i b.length with h | h
    · have g2 : decide ((i : Int) ≥ (b.length : Int)) = false := by simp; omega
      have hadd := gN_add b i (by omega)
      have wi : IntKind.i64.wrap ((i : Int) + 1) = ((i + 1 : Nat) : Int) := by rw [wrap_i64] <;> omega
      have hst : gRes b (9 - i) i = if (b.getD i 0).toNat < 128 ∧ (0 < (b.getD i 0).toNat ∨ i = 0) then (gN b (i + 1), (i : Int) + 1, 0) else if (b.getD i 0).toNat < 128 ∨ i = 8 then (0#64, 0, 6) else gRes b (8 - i) (i + 1) := by
        rw [show 9 - i = (8 - i) + 1 by omega, gRes, if_neg (by omega)]
      rw [hst] at hg
      rcases Nat.lt_or_ge (b.getD i 0).toNat 128 with hx | hx
      · have f1 : decide (((b.getD i 0).toNat : Int) ≥ 128) = false := decide_eq_false (by omega)
        rcases Decidable.em (b.getD i 0 = 0#8) with h0 | h0
        · have f2 : (b.getD i 0 == 0#8) = true := by rw [h0]; rfl
          have h0n : (b.getD i 0).toNat = 0 := by rw [h0]; rfl
          rcases Nat.eq_zero_or_pos i with hi0 | hi0
          · have f3 : decide ((i : Int) > 0) = false := decide_eq_false (by omega)
            rw [if_pos ⟨hx, .inr hi0⟩] at hg
            simp (config := { maxSteps := 1000000, implicitDefEqProofs := false }) only [-List.reduceReplicate, Nat.reduceBEq, renA, renL, renM, renO, evx, evs, evp, Eng.look, cst, cst1, putd, dstOk, params, loadx, partx, loI, hiI, bltx, mmI, boxx, srcx, calx, nilx, upd, del, resv, fillA, setMany, Nat.reduceLT, Nat.reduceLeDiff, Nat.reduceEqDiff, Nat.reduceAdd, Nat.reduceMul, Nat.reduceSub, reduceIte, reduceCtorEq, if_true, if_false, ite_true, ite_false, eq_self, forall_const, implies_true, Int.reduceLT, Int.reduceLE, Int.reduceToNat, Int.reduceAdd, Int.reduceSub, Int.reduceNeg, ne_eq, Int.reduceEq, Int.reduceNe, Int.reduceBEq, Int.reduceBNe, beq_self_eq_true, bne_self_eq_false, BitVec.reduceBEq, BitVec.reduceBNe, BitVec.reduceOfInt, BitVec.reduceSetWidth, wrD, engS0, engS1, engS2, engS3, engS4, engS5, engS6, engS7, engS8, engS9, engU0, engT0, engT1, engT2, Fx.t3, Fx.t4, Fx.t5, Fx.t22, Fx.t23, g1, g2, hadd, f1, f2, f3, wi]
            refine ⟨by omega, h, by rw [List.length_drop]; omega, by omega, h, by rw [List.length_drop]; omega, ?_⟩
            repeat (refine And.intro (by first | omega | (rw [List.length_drop]; omega)) ?_)
            exact fin (r := (gN b (i + 1), ((i + 1 : Nat) : Int), 0)) hg
          · have f3 : decide ((i : Int) > 0) = true := decide_eq_true (by omega)
            rw [if_neg (by omega), if_pos (.inl hx)] at hg
            simp (config := { maxSteps := 1000000, implicitDefEqProofs := false }) only [-List.reduceReplicate, Nat.reduceBEq, renA, renL, renM, renO, evx, evs, evp, Eng.look, cst, cst1, putd, dstOk, params, loadx, partx, loI, hiI, bltx, mmI, boxx, srcx, calx, nilx, upd, del, resv, fillA, setMany, Nat.reduceLT, Nat.reduceLeDiff, Nat.reduceEqDiff, Nat.reduceAdd, Nat.reduceMul, Nat.reduceSub, reduceIte, reduceCtorEq, if_true, if_false, ite_true, ite_false, eq_self, forall_const, implies_true, Int.reduceLT, Int.reduceLE, Int.reduceToNat, Int.reduceAdd, Int.reduceSub, Int.reduceNeg, ne_eq, Int.reduceEq, Int.reduceNe, Int.reduceBEq, Int.reduceBNe, beq_self_eq_true, bne_self_eq_false, BitVec.reduceBEq, BitVec.reduceBNe, BitVec.reduceOfInt, BitVec.reduceSetWidth, wrD, engS0, engS1, engS2, engS3, engS4, engS5, engS6, engS7, engS8, engS9, engU0, engT0, engT1, engT2, Fx.t3, Fx.t4, Fx.t5, Fx.t22, Fx.t23, g1, g2, hadd, f1, f2, f3, wi]
            refine ⟨by omega, h, by rw [List.length_drop]; omega, by omega, h, by rw [List.length_drop]; omega, ?_⟩
            repeat (refine And.intro (by first | omega | (rw [List.length_drop]; omega)) ?_)
            exact fin (r := (0#64, 0, 6)) hg
        · have f2 : (b.getD i 0 == 0#8) = false := by simpa using h0
          have h0n : 0 < (b.getD i 0).toNat := by
            rcases Nat.eq_zero_or_pos (b.getD i 0).toNat with h | h
            · exact absurd (BitVec.eq_of_toNat_eq h) h0
            · exact h
          rw [if_pos ⟨hx, .inl h0n⟩] at hg
          simp (config := { maxSteps := 1000000, implicitDefEqProofs := false }) only [-List.reduceReplicate, Nat.reduceBEq, renA, renL, renM, renO, evx, evs, evp, Eng.look, cst, cst1, putd, dstOk, params, loadx, partx, loI, hiI, bltx, mmI, boxx, srcx, calx, nilx, upd, del, resv, fillA, setMany, Nat.reduceLT, Nat.reduceLeDiff, Nat.reduceEqDiff, Nat.reduceAdd, Nat.reduceMul, Nat.reduceSub, reduceIte, reduceCtorEq, if_true, if_false, ite_true, ite_false, eq_self, forall_const, implies_true, Int.reduceLT, Int.reduceLE, Int.reduceToNat, Int.reduceAdd, Int.reduceSub, Int.reduceNeg, ne_eq, Int.reduceEq, Int.reduceNe, Int.reduceBEq, Int.reduceBNe, beq_self_eq_true, bne_self_eq_false, BitVec.reduceBEq, BitVec.reduceBNe, BitVec.reduceOfInt, BitVec.reduceSetWidth, wrD, engS0, engS1, engS2, engS3, engS4, engS5, engS6, engS7, engS8, engS9, engU0, engT0, engT1, engT2, Fx.t3, Fx.t4, Fx.t5, Fx.t22, Fx.t23, g1, g2, hadd, f1, f2, wi]
          refine ⟨by omega, h, by rw [List.length_drop]; omega, by omega, h, by rw [List.length_drop]; omega, ?_⟩
          repeat (refine And.intro (by first | omega | (rw [List.length_drop]; omega)) ?_)
          exact fin (r := (gN b (i + 1), ((i + 1 : Nat) : Int), 0)) hg
      · have f1 : decide (((b.getD i 0).toNat : Int) ≥ 128) = true := decide_eq_true (by omega)
        have hg2 : gRes b (9 - (i + 1)) (i + 1) = gRes b 9 0 := by
          rw [show 9 - (i + 1) = 8 - i by omega]
          rw [if_neg (by omega)] at hg
          rcases Nat.lt_or_ge i 8 with h8 | h8
          · rw [if_neg (by omega)] at hg; exact hg
          · rw [if_pos (.inr (by omega))] at hg
            rw [show 8 - i = 0 by omega]; exact hg
        have hp : pW i * 128#64 = pW (i + 1) := rfl
        simp (config := { maxSteps := 1000000, implicitDefEqProofs := false }) only [-List.reduceReplicate, Nat.reduceBEq, renA, renL, renM, renO, evx, evs, evp, Eng.look, cst, cst1, putd, dstOk, params, loadx, partx, loI, hiI, bltx, mmI, boxx, srcx, calx, nilx, upd, del, resv, fillA, setMany, Nat.reduceLT, Nat.reduceLeDiff, Nat.reduceEqDiff, Nat.reduceAdd, Nat.reduceMul, Nat.reduceSub, reduceIte, reduceCtorEq, if_true, if_false, ite_true, ite_false, eq_self, forall_const, implies_true, Int.reduceLT, Int.reduceLE, Int.reduceToNat, Int.reduceAdd, Int.reduceSub, Int.reduceNeg, ne_eq, Int.reduceEq, Int.reduceNe, Int.reduceBEq, Int.reduceBNe, beq_self_eq_true, bne_self_eq_false, BitVec.reduceBEq, BitVec.reduceBNe, BitVec.reduceOfInt, BitVec.reduceSetWidth, wrD, engS0, engS1, engS2, engS3, engS4, engS5, engS6, engS7, engS8, engS9, engU0, engT0, engT1, engT2, Fx.t3, Fx.t4, Fx.t5, Fx.t22, Fx.t23, g1, g2, hadd, f1, wi, hp]
        refine ⟨by omega, h, by rw [List.length_drop]; omega, by omega, h, by rw [List.length_drop]; omega, ?_⟩
        refine UpX_normal (by omega) () ⟨by omega, hg2⟩ ?_
        exact Le.sameT (by decide) ⟨rfl, rfl, rfl, rfl, trivial⟩ trivial (by show ([] : List Nat).Nodup; exact List.nodup_nil)
    · have g2 : decide ((i : Int) ≥ (b.length : Int)) = true := by simp; omega
      have hr : gRes b (9 - i) i = (0#64, 0, 2) := by rw [show 9 - i = (8 - i) + 1 by omega, gRes, if_pos h]
      simp (config := { maxSteps := 1000000, implicitDefEqProofs := false }) only [-List.reduceReplicate, Nat.reduceBEq, renA, renL, renM, renO, evx, evs, evp, Eng.look, cst, cst1, putd, dstOk, params, loadx, partx, loI, hiI, bltx, mmI, boxx, srcx, calx, nilx, upd, del, resv, fillA, setMany, Nat.reduceLT, Nat.reduceLeDiff, Nat.reduceEqDiff, Nat.reduceAdd, Nat.reduceMul, Nat.reduceSub, reduceIte, reduceCtorEq, if_true, if_false, ite_true, ite_false, eq_self, forall_const, implies_true, Int.reduceLT, Int.reduceLE, Int.reduceToNat, Int.reduceAdd, Int.reduceSub, Int.reduceNeg, ne_eq, Int.reduceEq, Int.reduceNe, Int.reduceBEq, Int.reduceBNe, beq_self_eq_true, bne_self_eq_false, BitVec.reduceBEq, BitVec.reduceBNe, BitVec.reduceOfInt, BitVec.reduceSetWidth, wrD, engS0, engS1, engS2, engS3, engS4, engS5, engS6, engS7, engS8, engS9, engU0, engT0, engT1, engT2, Fx.t3, Fx.t4, Fx.t5, Fx.t22, Fx.t23, g1, g2]
      exact fin (r := (0#64, 0, 2)) (hr.symm.trans hg)
  · have h9' : i = 9 := by omega
    have g1 : decide ((i : Int) < 9) = false := by simp; omega
    have hr : gRes b (9 - i) i = (0#64, 0, 6) := by rw [h9']; rfl
    simp (config := { maxSteps := 1000000, implicitDefEqProofs := false }) only [-List.reduceReplicate, Nat.reduceBEq, renA, renL, renM, renO, evx, evs, evp, Eng.look, cst, cst1, putd, dstOk, params, loadx, partx, loI, hiI, bltx, mmI, boxx, srcx, calx, nilx, upd, del, resv, fillA, setMany, Nat.reduceLT, Nat.reduceLeDiff, Nat.reduceEqDiff, Nat.reduceAdd, Nat.reduceMul, Nat.reduceSub, reduceIte, reduceCtorEq, if_true, if_false, ite_true, ite_false, eq_self, forall_const, implies_true, Int.reduceLT, Int.reduceLE, Int.reduceToNat, Int.reduceAdd, Int.reduceSub, Int.reduceNeg, ne_eq, Int.reduceEq, Int.reduceNe, Int.reduceBEq, Int.reduceBNe, beq_self_eq_true, bne_self_eq_false, BitVec.reduceBEq, BitVec.reduceBNe, BitVec.reduceOfInt, BitVec.reduceSetWidth, wrD, engS0, engS1, engS2, engS3, engS4, engS5, engS6, engS7, engS8, engS9, engU0, engT0, engT1, engT2, Fx.t3, Fx.t4, Fx.t5, Fx.t22, Fx.t23, g1]
    exact fin (r := (0#64, 0, 6)) (hr.symm.trans hg)
end Go.Proofs.Ytmnbbpckglppjaa
