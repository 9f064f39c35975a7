/- Numbers of a variable length: the document's Put, and what can't be put. -/
import Derived.Test.YtmnbbpckglppjaaEng19
import Derived.Test.YtmnbbpckglppjaaEng26
import Derived.Test.YtmnbbpckglppjaaVld
import Derived.Test.YtmnbbpckglppjaaEng32
set_option linter.unusedVariables false
set_option linter.unusedSimpArgs false
set_option maxRecDepth 100000
namespace Go.Proofs.Ytmnbbpckglppjaa
open Go Go.Eng

theorem vputBig (m : BitVec 64) (hm : 9223372036854775808 ≤ m.toNat) : CallG false Try.prog 15 [.int .u64 (m.toNat : Int)] (fun _ => true) [] 0 fun v m' nx => v = .tup [.nils, .int .i64 1] ∧ m' = [] ∧ nx = 0 := by
  refine fn_okG Try.func15 rfl (by show 1 ≤ _; decide) ?_
  have e1 : decide ((m.toNat : Int) > 9223372036854775807) = true := by simp; omega
  simp (config := { maxSteps := 1000000, implicitDefEqProofs := false }) only [-List.reduceReplicate, Nat.reduceBEq, renA, renL, renM, renO, evx, evs, evp, Eng.look, cst, cst1, putd, dstOk, params, loadx, partx, loI, hiI, bltx, mmI, boxx, srcx, calx, nilx, upd, del, resv, fillA, setMany, Nat.reduceLT, Nat.reduceLeDiff, Nat.reduceEqDiff, Nat.reduceAdd, Nat.reduceMul, Nat.reduceSub, reduceIte, reduceCtorEq, if_true, if_false, ite_true, ite_false, eq_self, forall_const, implies_true, Int.reduceLT, Int.reduceLE, Int.reduceToNat, Int.reduceAdd, Int.reduceSub, Int.reduceNeg, ne_eq, Int.reduceEq, Int.reduceNe, Int.reduceBEq, Int.reduceBNe, beq_self_eq_true, bne_self_eq_false, BitVec.reduceBEq, BitVec.reduceBNe, BitVec.reduceOfInt, BitVec.reduceSetWidth, wrD, engS0, engS1, engS2, engS3, engS4, engS5, engS6, engS7, engS8, engS9, engU0, engT0, engT1, engT2, Fx.t1, Fx.t3, Fx.t4, Fx.t5, Fx.t22, Fx.t23, Fx.t25, Fx.t106, Fx.t107, Fx.en67, Try.results15, Try.ntmps15, e1]
  exact Fin.flatv (fun _ => rfl) (fun f => rfl) ⟨rfl, rfl, rfl⟩
def rput : Nat → BitVec 64 → List (BitVec 8)
  | 0, m => []
  | f + 1, m => if m.toNat < 128 then [m.setWidth 8] else (m % 128#64 + 128#64).setWidth 8 :: rput f (m / 128#64)
theorem rput_len : ∀ (f : Nat) (m : BitVec 64), (rput f m).length ≤ f
  | 0, m => Nat.le_refl _
  | f + 1, m => by
    rw [rput]
    split
    · simp
    · have := rput_len f (m / 128#64); simp only [List.length_cons]; omega
theorem rput_eq : ∀ (f : Nat) (m : BitVec 64), rput f m = (digs f m).map byD
  | 0, m => rfl
  | f + 1, m => by
    rw [rput, digs]
    rcases Nat.lt_or_ge m.toNat 128 with h | h
    · rw [if_pos h, if_neg (by omega)]; rfl
    · rw [if_neg (by omega), if_pos h, List.map_cons, ← rput_eq f (m >>> 7)]
      have e1 : m / 128#64 = m >>> 7 := by
        refine BitVec.eq_of_toNat_eq ?_
        rw [BitVec.toNat_udiv, BitVec.toNat_ushiftRight, Nat.shiftRight_eq_div_pow]; rfl
      have e2 : (m % 128#64 + 128#64).setWidth 8 = byD ((m % 128#64).setWidth 8, true) := by
        show _ = (m % 128#64).setWidth 8 ||| 128#8
        refine BitVec.eq_of_toNat_eq ?_
        have hlt : ((m % 128#64).setWidth 8).toNat < 2 ^ 7 := by
          rw [BitVec.toNat_setWidth, BitVec.toNat_umod]; show m.toNat % 128 % 256 < 128; omega
        rw [BitVec.toNat_or, Nat.or_comm, show (128#8).toNat = 2 ^ 7 * 1 from rfl, ← Nat.two_pow_add_eq_or_of_lt hlt, BitVec.toNat_setWidth, BitVec.toNat_add, BitVec.toNat_umod, BitVec.toNat_setWidth, BitVec.toNat_umod]
        show (m.toNat % 128 + 128) % 2 ^ 64 % 256 = 2 ^ 7 * 1 + m.toNat % 128 % 256
        omega
      rw [e1, e2]
def RputK (X : List (BitVec 8)) : Kv := fun v m' nx => ∃ (cap : Nat) (sp : List Value), X.length + sp.length = cap ∧ cap ≤ maxI ∧ v = .sl 0 0 X.length cap ∧ m' = [(0, rowO X sp)] ∧ nx = 1
set_option maxHeartbeats 1000000 in
theorem rputOk : ∀ (f : Nat) (m : BitVec 64), f ≤ 20 → 1 ≤ f → m.toNat < 128 ^ f → CallG false Try.prog 17 [.int .u64 (m.toNat : Int)] (fun _ => true) [] 0 (RputK (rput f m))
  | 0, m, _, h, _ => by omega
  | f + 1, m, hf, _, hm => by
    refine fn_okG Try.func17 rfl (by show 1 ≤ _; decide) ?_
    rcases Nat.lt_or_ge m.toNat 128 with h | h
    · have e1 : decide ((m.toNat : Int) < 128) = true := by simp; omega
      have hr : rput (f + 1) m = [m.setWidth 8] := by rw [rput, if_pos h]
      simp (config := { maxSteps := 1000000, implicitDefEqProofs := false }) only [-List.reduceReplicate, Nat.reduceBEq, renA, renL, renM, renO, evx, evs, evp, Eng.look, cst, cst1, putd, dstOk, params, loadx, partx, loI, hiI, bltx, mmI, boxx, srcx, calx, nilx, upd, del, resv, fillA, setMany, Nat.reduceLT, Nat.reduceLeDiff, Nat.reduceEqDiff, Nat.reduceAdd, Nat.reduceMul, Nat.reduceSub, reduceIte, reduceCtorEq, if_true, if_false, ite_true, ite_false, eq_self, forall_const, implies_true, Int.reduceLT, Int.reduceLE, Int.reduceToNat, Int.reduceAdd, Int.reduceSub, Int.reduceNeg, ne_eq, Int.reduceEq, Int.reduceNe, Int.reduceBEq, Int.reduceBNe, beq_self_eq_true, bne_self_eq_false, BitVec.reduceBEq, BitVec.reduceBNe, BitVec.reduceOfInt, BitVec.reduceSetWidth, wrD, engS0, engS1, engS2, engS3, engS4, engS5, engS6, engS7, engS8, engS9, engU0, engT0, engT1, engT2, Fx.t1, Fx.t4, Fx.t5, Fx.t22, Fx.t23, Fx.en17, Try.results17, Try.ntmps17, e1]
      refine ⟨.inr trivial, ?_⟩
      rw [hr]
      exact Fin.keep (m0 := [(0, rowO [m.setWidth 8] [])]) (by decide) ⟨rfl, trivial⟩ (by simp) ⟨1, [], rfl, by decide, rfl, rfl, rfl⟩
    · have e1 : decide ((m.toNat : Int) < 128) = false := by simp; omega
      have hr : rput (f + 1) m = (m % 128#64 + 128#64).setWidth 8 :: rput f (m / 128#64) := by rw [rput, if_neg (by omega)]
      simp (config := { maxSteps := 1000000, implicitDefEqProofs := false }) only [-List.reduceReplicate, Nat.reduceBEq, renA, renL, renM, renO, evx, evs, evp, Eng.look, cst, cst1, putd, dstOk, params, loadx, partx, loI, hiI, bltx, mmI, boxx, srcx, calx, nilx, upd, del, resv, fillA, setMany, Nat.reduceLT, Nat.reduceLeDiff, Nat.reduceEqDiff, Nat.reduceAdd, Nat.reduceMul, Nat.reduceSub, reduceIte, reduceCtorEq, if_true, if_false, ite_true, ite_false, eq_self, forall_const, implies_true, Int.reduceLT, Int.reduceLE, Int.reduceToNat, Int.reduceAdd, Int.reduceSub, Int.reduceNeg, ne_eq, Int.reduceEq, Int.reduceNe, Int.reduceBEq, Int.reduceBNe, beq_self_eq_true, bne_self_eq_false, BitVec.reduceBEq, BitVec.reduceBNe, BitVec.reduceOfInt, BitVec.reduceSetWidth, wrD, engS0, engS1, engS2, engS3, engS4, engS5, engS6, engS7, engS8, engS9, engU0, engT0, engT1, engT2, Fx.t1, Fx.t4, Fx.t5, Fx.t22, Fx.t23, Fx.en17, Try.results17, Try.ntmps17, e1]
      have hf1 : 1 ≤ f := by
        rcases Nat.eq_zero_or_pos f with h0 | h0
        · subst h0; omega
        · exact h0
      have hlt : (m / 128#64).toNat < 128 ^ f := by
        rw [BitVec.toNat_udiv]
        rw [Nat.pow_succ] at hm
        exact Nat.div_lt_of_lt_mul (by rw [Nat.mul_comm]; exact hm)
      have hl := rput_len f (m / 128#64)
      refine ⟨.inr trivial, ?_⟩
      refine (rputOk f (m / 128#64) (by omega) hf1 hlt).newE rfl ?_
      rintro v m' nx' ⟨cap, sp, c1, c2, rfl, rfl, rfl⟩
      simp only [renM, rowO_ren, renA]
      rw [hr]
      generalize rput f (m / 128#64) = X at *
      simp (config := { maxSteps := 1000000, implicitDefEqProofs := false }) only [-List.reduceReplicate, Nat.reduceBEq, renA, renL, renM, renO, evx, evs, evp, Eng.look, cst, cst1, putd, dstOk, params, loadx, partx, loI, hiI, bltx, mmI, boxx, srcx, calx, nilx, upd, del, resv, fillA, setMany, Nat.reduceLT, Nat.reduceLeDiff, Nat.reduceEqDiff, Nat.reduceAdd, Nat.reduceMul, Nat.reduceSub, reduceIte, reduceCtorEq, if_true, if_false, ite_true, ite_false, eq_self, forall_const, implies_true, Int.reduceLT, Int.reduceLE, Int.reduceToNat, Int.reduceAdd, Int.reduceSub, Int.reduceNeg, ne_eq, Int.reduceEq, Int.reduceNe, Int.reduceBEq, Int.reduceBNe, beq_self_eq_true, bne_self_eq_false, BitVec.reduceBEq, BitVec.reduceBNe, BitVec.reduceOfInt, BitVec.reduceSetWidth, wrD, engS0, engS1, engS2, engS3, engS4, engS5, engS6, engS7, engS8, engS9, engU0, engT0, engT1, engT2, Fx.t1, Fx.t4, Fx.t5, Fx.t22, Fx.t23, Fx.en17, rowO]
      refine ⟨by rw [takeA', bvs_length], by rw [takeA']; exact one1_bvs _ _, ?_⟩
      rw [takeA']
      refine appk_bvs (k := .u8) (x := [(m % 128#64 + 128#64).setWidth 8]) (y := X) (sp := []) (cap := 1) rfl rfl rfl (by decide) (by decide) (by rw [List.length_singleton]; omega) ?_
      intro cap1 sp1 d1 d2
      simp (config := { maxSteps := 1000000, implicitDefEqProofs := false }) only [-List.reduceReplicate, Nat.reduceBEq, renA, renL, renM, renO, evx, evs, evp, Eng.look, cst, cst1, putd, dstOk, params, loadx, partx, loI, hiI, bltx, mmI, boxx, srcx, calx, nilx, upd, del, resv, fillA, setMany, Nat.reduceLT, Nat.reduceLeDiff, Nat.reduceEqDiff, Nat.reduceAdd, Nat.reduceMul, Nat.reduceSub, reduceIte, reduceCtorEq, if_true, if_false, ite_true, ite_false, eq_self, forall_const, implies_true, Int.reduceLT, Int.reduceLE, Int.reduceToNat, Int.reduceAdd, Int.reduceSub, Int.reduceNeg, ne_eq, Int.reduceEq, Int.reduceNe, Int.reduceBEq, Int.reduceBNe, beq_self_eq_true, bne_self_eq_false, BitVec.reduceBEq, BitVec.reduceBNe, BitVec.reduceOfInt, BitVec.reduceSetWidth, wrD, engS0, engS1, engS2, engS3, engS4, engS5, engS6, engS7, engS8, engS9, engU0, engT0, engT1, engT2, Fx.t1, Fx.t4, Fx.t5, Fx.t22, Fx.t23, Fx.en17]
      exact ⟨[(0, 2)], .sl 0 0 ((m % 128#64 + 128#64).setWidth 8 :: X).length cap1, [(0, rowO ((m % 128#64 + 128#64).setWidth 8 :: X) sp1)], 1, ⟨rfl, by decide⟩, rfl, ⟨by rw [rowO_ren]; rfl, rfl, trivial⟩, by simp [injOn], (fun n e => by cases e), cap1, sp1, d1, d2, rfl, rfl, rfl⟩
end Go.Proofs.Ytmnbbpckglppjaa
