/- The document's branch filters: a four's number, a number's four; and all bytes. -/
import Derived.Test.YtiibjaommelkkaaEng19
import Derived.Test.YtiibjaommelkkaaEng26
import Derived.Test.YtiibjaommelkkaaBrang
set_option linter.unusedVariables false
set_option linter.unusedSimpArgs false
set_option maxRecDepth 100000
namespace Go.Proofs.Ytiibjaommelkkaa
open Go Go.Eng

def numN (high : Bool) (q : List (BitVec 8)) : Nat → Nat
  | 0 => 0
  | n + 1 => 256 * numN high q n + (q.getD (if high then n else 3 - n) 0).toNat
theorem numN_lt (high : Bool) (q : List (BitVec 8)) (n : Nat) : numN high q n < 256 ^ n := by
  induction n with
  | zero => simp [numN]
  | succ n ih =>
    have := (q.getD (if high then n else 3 - n) 0).isLt
    rw [numN, Nat.pow_succ]
    omega
theorem numberOk (high : Bool) (q : List (BitVec 8)) (hq : q.length = 4) : CallOk Try.prog 66 [.ro 4 (bvs .u8 q), .bool high] (fun _ => true) [] 0 fun v m nx => v = .int .i64 (numN high q 4 : Nat) ∧ m = [] ∧ nx = 0 := by
  refine fn_ok Try.func66 rfl (by show 2 ≤ _; decide) ?_
  simp (config := { maxSteps := 1000000, implicitDefEqProofs := false }) only [-List.reduceReplicate, Nat.reduceBEq, renA, renL, renM, renO, evx, evs, evp, Eng.look, cst, cst1, putd, dstOk, params, loadx, partx, loI, hiI, bltx, mmI, boxx, srcx, calx, nilx, upd, del, resv, fillA, setMany, Nat.reduceLT, Nat.reduceLeDiff, Nat.reduceEqDiff, Nat.reduceAdd, Nat.reduceMul, Nat.reduceSub, reduceIte, reduceCtorEq, if_true, if_false, ite_true, ite_false, eq_self, forall_const, implies_true, Int.reduceLT, Int.reduceLE, Int.reduceToNat, Int.reduceAdd, Int.reduceSub, Int.reduceNeg, ne_eq, Int.reduceEq, Int.reduceNe, Int.reduceBEq, Int.reduceBNe, beq_self_eq_true, bne_self_eq_false, BitVec.reduceBEq, BitVec.reduceBNe, BitVec.reduceOfInt, BitVec.reduceSetWidth, wrD, engS0, engS1, engS2, engS3, engS4, engS5, engS6, engS7, engS8, engS9, engT0, engT1, engT2, Fx.t3, Fx.t4, Fx.t5, Fx.t22, Try.results66, Try.ntmps66]
  refine LoopOk.up 4 (fun n => ([(6, .int .i64 n), (5, .int .i64 (numN high q n : Nat)), (0, .ro 4 (bvs .u8 q)), (1, .bool high)], [], 0)) (Le.sameT (by decide) (by simp only [-List.reduceReplicate, slotsSame, Eng.look, Nat.reduceEqDiff, numN, reduceIte, reduceCtorEq, if_true, if_false, eq_self, true_and, and_true, Option.some.injEq, AV.int.injEq]; (try simp (disch := omega) only [wrap_i64]); (try simp [-List.reduceReplicate]); (try omega)) (by simp only [-List.reduceReplicate, memSame, Eng.look, Nat.reduceEqDiff, numN, reduceIte, reduceCtorEq, if_true, if_false, eq_self, true_and, and_true, Option.some.injEq, AObj.cells.injEq, bvs_rep8, bvs_rep16, bvs_rep32, bvs_rep64, bvs_flat_rep, Nat.reduceMul, bvs_append, List.replicate_append_replicate, Nat.reduceAdd, bvs_inj]; try simp [-List.reduceReplicate]) (by simp [-List.reduceReplicate])) ?_
  intro n hn
  have hlt := numN_lt high q n
  have hp : 256 ^ n ≤ 256 ^ 4 := Nat.pow_le_pow_right (by decide) hn
  have hp4 : 256 ^ 4 = 4294967296 := rfl
  simp (config := { maxSteps := 1000000, implicitDefEqProofs := false }) only [-List.reduceReplicate, Nat.reduceBEq, renA, renL, renM, renO, evx, evs, evp, Eng.look, cst, cst1, putd, dstOk, params, loadx, partx, loI, hiI, bltx, mmI, boxx, srcx, calx, nilx, upd, del, resv, fillA, setMany, Nat.reduceLT, Nat.reduceLeDiff, Nat.reduceEqDiff, Nat.reduceAdd, Nat.reduceMul, Nat.reduceSub, reduceIte, reduceCtorEq, if_true, if_false, ite_true, ite_false, eq_self, forall_const, implies_true, Int.reduceLT, Int.reduceLE, Int.reduceToNat, Int.reduceAdd, Int.reduceSub, Int.reduceNeg, ne_eq, Int.reduceEq, Int.reduceNe, Int.reduceBEq, Int.reduceBNe, beq_self_eq_true, bne_self_eq_false, BitVec.reduceBEq, BitVec.reduceBNe, BitVec.reduceOfInt, BitVec.reduceSetWidth, wrD, engS0, engS1, engS2, engS3, engS4, engS5, engS6, engS7, engS8, engS9, engT0, engT1, engT2, Fx.t3, Fx.t4, Fx.t5, Fx.t22]
  refine cndv_split (fun h => ?_) (fun h => ?_)
  · have h' : n < 4 := by have := of_decide_eq_true h; omega
    have wn : IntKind.i64.wrap ((n : Int) + 1) = ((n + 1 : Nat) : Int) := by rw [wrap_i64] <;> omega
    have w1 : IntKind.i64.wrap (256 * (numN high q n : Int)) = 256 * (numN high q n : Int) := by rw [wrap_i64] <;> omega
    cases high with
    | true =>
      have hx := (q.getD n 0).isLt
      have w2 : IntKind.i64.wrap ((q.getD n 0).toNat : Int) = ((q.getD n 0).toNat : Int) := by rw [wrap_i64] <;> omega
      have w3 : IntKind.i64.wrap (256 * (numN true q n : Int) + ((q.getD n 0).toNat : Int)) = ((numN true q (n + 1) : Nat) : Int) := by
        rw [numN, if_pos rfl, wrap_i64] <;> omega
      simp (config := { maxSteps := 1000000, implicitDefEqProofs := false }) only [-List.reduceReplicate, Nat.reduceBEq, renA, renL, renM, renO, evx, evs, evp, Eng.look, cst, cst1, putd, dstOk, params, loadx, partx, loI, hiI, bltx, mmI, boxx, srcx, calx, nilx, upd, del, resv, fillA, setMany, Nat.reduceLT, Nat.reduceLeDiff, Nat.reduceEqDiff, Nat.reduceAdd, Nat.reduceMul, Nat.reduceSub, reduceIte, reduceCtorEq, if_true, if_false, ite_true, ite_false, eq_self, forall_const, implies_true, Int.reduceLT, Int.reduceLE, Int.reduceToNat, Int.reduceAdd, Int.reduceSub, Int.reduceNeg, ne_eq, Int.reduceEq, Int.reduceNe, Int.reduceBEq, Int.reduceBNe, beq_self_eq_true, bne_self_eq_false, BitVec.reduceBEq, BitVec.reduceBNe, BitVec.reduceOfInt, BitVec.reduceSetWidth, wrD, engS0, engS1, engS2, engS3, engS4, engS5, engS6, engS7, engS8, engS9, engT0, engT1, engT2, Fx.t3, Fx.t4, Fx.t5, Fx.t22, wn, w1, w2, w3]
      refine ⟨by omega, by omega, by rw [List.length_drop]; omega, UpK_normal h' (Le.sameT (by decide) (by simp only [-List.reduceReplicate, slotsSame, Eng.look, Nat.reduceEqDiff, reduceIte, reduceCtorEq, if_true, if_false, eq_self, true_and, and_true, Option.some.injEq, AV.int.injEq]; (try simp (disch := omega) only [wrap_i64]); (try simp [-List.reduceReplicate]); (try omega)) (by simp only [-List.reduceReplicate, memSame, Eng.look, Nat.reduceEqDiff, reduceIte, reduceCtorEq, if_true, if_false, eq_self, true_and, and_true, Option.some.injEq, AObj.cells.injEq, bvs_rep8, bvs_rep16, bvs_rep32, bvs_rep64, bvs_flat_rep, Nat.reduceMul, bvs_append, List.replicate_append_replicate, Nat.reduceAdd, bvs_inj]; try simp [-List.reduceReplicate]) (by simp [-List.reduceReplicate]))⟩
    | false =>
      have hx := (q.getD (3 - n) 0).isLt
      have w0 : IntKind.i64.wrap (3 - (n : Int)) = ((3 - n : Nat) : Int) := by rw [wrap_i64] <;> omega
      have w2 : IntKind.i64.wrap ((q.getD (3 - n) 0).toNat : Int) = ((q.getD (3 - n) 0).toNat : Int) := by rw [wrap_i64] <;> omega
      have w3 : IntKind.i64.wrap (256 * (numN false q n : Int) + ((q.getD (3 - n) 0).toNat : Int)) = ((numN false q (n + 1) : Nat) : Int) := by
        rw [numN, if_neg (by decide), wrap_i64] <;> omega
      simp (config := { maxSteps := 1000000, implicitDefEqProofs := false }) only [-List.reduceReplicate, Nat.reduceBEq, renA, renL, renM, renO, evx, evs, evp, Eng.look, cst, cst1, putd, dstOk, params, loadx, partx, loI, hiI, bltx, mmI, boxx, srcx, calx, nilx, upd, del, resv, fillA, setMany, Nat.reduceLT, Nat.reduceLeDiff, Nat.reduceEqDiff, Nat.reduceAdd, Nat.reduceMul, Nat.reduceSub, reduceIte, reduceCtorEq, if_true, if_false, ite_true, ite_false, eq_self, forall_const, implies_true, Int.reduceLT, Int.reduceLE, Int.reduceToNat, Int.reduceAdd, Int.reduceSub, Int.reduceNeg, ne_eq, Int.reduceEq, Int.reduceNe, Int.reduceBEq, Int.reduceBNe, beq_self_eq_true, bne_self_eq_false, BitVec.reduceBEq, BitVec.reduceBNe, BitVec.reduceOfInt, BitVec.reduceSetWidth, wrD, engS0, engS1, engS2, engS3, engS4, engS5, engS6, engS7, engS8, engS9, engT0, engT1, engT2, Fx.t3, Fx.t4, Fx.t5, Fx.t22, wn, w0, w1, w2, w3]
      refine ⟨by omega, by omega, by rw [List.length_drop]; omega, UpK_normal h' (Le.sameT (by decide) (by simp only [-List.reduceReplicate, slotsSame, Eng.look, Nat.reduceEqDiff, reduceIte, reduceCtorEq, if_true, if_false, eq_self, true_and, and_true, Option.some.injEq, AV.int.injEq]; (try simp (disch := omega) only [wrap_i64]); (try simp [-List.reduceReplicate]); (try omega)) (by simp only [-List.reduceReplicate, memSame, Eng.look, Nat.reduceEqDiff, reduceIte, reduceCtorEq, if_true, if_false, eq_self, true_and, and_true, Option.some.injEq, AObj.cells.injEq, bvs_rep8, bvs_rep16, bvs_rep32, bvs_rep64, bvs_flat_rep, Nat.reduceMul, bvs_append, List.replicate_append_replicate, Nat.reduceAdd, bvs_inj]; try simp [-List.reduceReplicate]) (by simp [-List.reduceReplicate]))⟩
  · have h' : n = 4 := by have := of_decide_eq_false h; omega
    subst h'
    simp (config := { maxSteps := 1000000, implicitDefEqProofs := false }) only [-List.reduceReplicate, Nat.reduceBEq, renA, renL, renM, renO, evx, evs, evp, Eng.look, cst, cst1, putd, dstOk, params, loadx, partx, loI, hiI, bltx, mmI, boxx, srcx, calx, nilx, upd, del, resv, fillA, setMany, Nat.reduceLT, Nat.reduceLeDiff, Nat.reduceEqDiff, Nat.reduceAdd, Nat.reduceMul, Nat.reduceSub, reduceIte, reduceCtorEq, if_true, if_false, ite_true, ite_false, eq_self, forall_const, implies_true, Int.reduceLT, Int.reduceLE, Int.reduceToNat, Int.reduceAdd, Int.reduceSub, Int.reduceNeg, ne_eq, Int.reduceEq, Int.reduceNe, Int.reduceBEq, Int.reduceBNe, beq_self_eq_true, bne_self_eq_false, BitVec.reduceBEq, BitVec.reduceBNe, BitVec.reduceOfInt, BitVec.reduceSetWidth, wrD, engS0, engS1, engS2, engS3, engS4, engS5, engS6, engS7, engS8, engS9, engT0, engT1, engT2, Fx.t3, Fx.t4, Fx.t5, Fx.t22]
    exact Fin.flatv (fun _ => rfl) (fun f => rfl) ⟨rfl, rfl, rfl⟩
def fourL (high : Bool) (n : Nat) : List (BitVec 8) :=
  if high then [BitVec.ofNat 8 (n / 16777216), BitVec.ofNat 8 (n / 65536), BitVec.ofNat 8 (n / 256), BitVec.ofNat 8 n] else [BitVec.ofNat 8 n, BitVec.ofNat 8 (n / 256), BitVec.ofNat 8 (n / 65536), BitVec.ofNat 8 (n / 16777216)]
theorem fourL_len (high : Bool) (n : Nat) : (fourL high n).length = 4 := by cases high <;> rfl
theorem u8nat (n : Nat) : IntKind.u8.wrap (n : Int) = ((BitVec.ofNat 8 n).toNat : Int) := by rw [wrapbv8]; rfl
def idF (s : AV) : AV := s
theorem fourOk (high : Bool) (n : Nat) (hn : n < 4294967296) : CallOk Try.prog 64 [.int .i64 n, .bool high] (fun _ => true) [] 0 (Rets idF .u8 (fourL high n) 5) := by
  refine fn_ok Try.func64 rfl (by show 2 ≤ _; decide) ?_
  have a1 : IntKind.i64.wrap ((n : Int).tdiv 16777216) = ((n / 16777216 : Nat) : Int) := by rw [qd _ _ (by omega) (by omega) (by decide)]; omega
  have a2 : IntKind.i64.wrap ((n : Int).tdiv 65536) = ((n / 65536 : Nat) : Int) := by rw [qd _ _ (by omega) (by omega) (by decide)]; omega
  have a3 : IntKind.i64.wrap ((n : Int).tdiv 256) = ((n / 256 : Nat) : Int) := by rw [qd _ _ (by omega) (by omega) (by decide)]; omega
  have hL : ((((List.replicate 4 (0 : BitVec 8)).set 0 (BitVec.ofNat 8 (n / 16777216))).set 1 (BitVec.ofNat 8 (n / 65536))).set 2 (BitVec.ofNat 8 (n / 256))).set 3 (BitVec.ofNat 8 n) = fourL true n := rfl
  cases high with
  | true =>
    simp (config := { maxSteps := 1000000, implicitDefEqProofs := false }) only [-List.reduceReplicate, Nat.reduceBEq, renA, renL, renM, renO, evx, evs, evp, Eng.look, cst, cst1, putd, dstOk, params, loadx, partx, loI, hiI, bltx, mmI, boxx, srcx, calx, nilx, upd, del, resv, fillA, setMany, Nat.reduceLT, Nat.reduceLeDiff, Nat.reduceEqDiff, Nat.reduceAdd, Nat.reduceMul, Nat.reduceSub, reduceIte, reduceCtorEq, if_true, if_false, ite_true, ite_false, eq_self, forall_const, implies_true, Int.reduceLT, Int.reduceLE, Int.reduceToNat, Int.reduceAdd, Int.reduceSub, Int.reduceNeg, ne_eq, Int.reduceEq, Int.reduceNe, Int.reduceBEq, Int.reduceBNe, beq_self_eq_true, bne_self_eq_false, BitVec.reduceBEq, BitVec.reduceBNe, BitVec.reduceOfInt, BitVec.reduceSetWidth, wrD, engS0, engS1, engS2, engS3, engS4, engS5, engS6, engS7, engS8, engS9, engT0, engT1, engT2, Fx.t3, Fx.t4, Fx.t5, Fx.t22, Try.results64, Try.ntmps64, a1, a2, a3, u8nat, hL]
    refine ⟨.inr trivial, ?_⟩
    refine ⟨[(0, 0)], .sl 0 0 4 4, [(0, .cells (bvs .u8 (fourL true n)) 5)], 1, ⟨rfl, by decide⟩, rfl, ⟨by simp only [renO, bvs_ren]; rfl, rfl, trivial⟩, by simp [injOn], (fun n e => by cases e), .inr ⟨4, [], rfl, by rw [List.map_nil, List.append_nil], rfl⟩⟩
  | false =>
    simp (config := { maxSteps := 1000000, implicitDefEqProofs := false }) only [-List.reduceReplicate, Nat.reduceBEq, renA, renL, renM, renO, evx, evs, evp, Eng.look, cst, cst1, putd, dstOk, params, loadx, partx, loI, hiI, bltx, mmI, boxx, srcx, calx, nilx, upd, del, resv, fillA, setMany, Nat.reduceLT, Nat.reduceLeDiff, Nat.reduceEqDiff, Nat.reduceAdd, Nat.reduceMul, Nat.reduceSub, reduceIte, reduceCtorEq, if_true, if_false, ite_true, ite_false, eq_self, forall_const, implies_true, Int.reduceLT, Int.reduceLE, Int.reduceToNat, Int.reduceAdd, Int.reduceSub, Int.reduceNeg, ne_eq, Int.reduceEq, Int.reduceNe, Int.reduceBEq, Int.reduceBNe, beq_self_eq_true, bne_self_eq_false, BitVec.reduceBEq, BitVec.reduceBNe, BitVec.reduceOfInt, BitVec.reduceSetWidth, wrD, engS0, engS1, engS2, engS3, engS4, engS5, engS6, engS7, engS8, engS9, engT0, engT1, engT2, Fx.t3, Fx.t4, Fx.t5, Fx.t22, Try.results64, Try.ntmps64, a1, a2, a3, u8nat, hL]
    refine ⟨.inr trivial, ?_⟩
    have g0 : (fourL true n).getD 0 0 = BitVec.ofNat 8 (n / 16777216) := rfl
    have g1 : (fourL true n).getD 1 0 = BitVec.ofNat 8 (n / 65536) := rfl
    have g2 : (fourL true n).getD 2 0 = BitVec.ofNat 8 (n / 256) := rfl
    have g3 : (fourL true n).getD 3 0 = BitVec.ofNat 8 n := rfl
    have hL2 : ((((List.replicate 4 (0 : BitVec 8)).set 0 (BitVec.ofNat 8 n)).set 1 (BitVec.ofNat 8 (n / 256))).set 2 (BitVec.ofNat 8 (n / 65536))).set 3 (BitVec.ofNat 8 (n / 16777216)) = fourL false n := rfl
    refine ⟨Fx.mixed, .inl ⟨[(0, false), (1, false), (2, false), (3, false), (4, false), (5, false), (6, false), (7, false), (8, false), (9, false), (10, false), (11, false), (12, true), (13, false)], [], by kernel_rfl, (fun n hn => by cases hn), ?_⟩⟩
    simp (config := { maxSteps := 1000000, implicitDefEqProofs := false }) only [-List.reduceReplicate, Nat.reduceBEq, renA, renL, renM, renO, evx, evs, evp, Eng.look, cst, cst1, putd, dstOk, params, loadx, partx, loI, hiI, bltx, mmI, boxx, srcx, calx, nilx, upd, del, resv, fillA, setMany, Nat.reduceLT, Nat.reduceLeDiff, Nat.reduceEqDiff, Nat.reduceAdd, Nat.reduceMul, Nat.reduceSub, reduceIte, reduceCtorEq, if_true, if_false, ite_true, ite_false, eq_self, forall_const, implies_true, Int.reduceLT, Int.reduceLE, Int.reduceToNat, Int.reduceAdd, Int.reduceSub, Int.reduceNeg, ne_eq, Int.reduceEq, Int.reduceNe, Int.reduceBEq, Int.reduceBNe, beq_self_eq_true, bne_self_eq_false, BitVec.reduceBEq, BitVec.reduceBNe, BitVec.reduceOfInt, BitVec.reduceSetWidth, wrD, engS0, engS1, engS2, engS3, engS4, engS5, engS6, engS7, engS8, engS9, engT0, engT1, engT2, Fx.t3, Fx.t4, Fx.t5, Fx.t22, fourL_len, g0, g1, g2, g3, hL2]
    refine ⟨.inr trivial, ?_⟩
    refine ⟨[(0, 1)], .sl 0 0 4 4, [(0, .cells (bvs .u8 (fourL false n)) 5)], 1, ⟨rfl, by decide⟩, rfl, ⟨by simp only [renO, bvs_ren]; rfl, rfl, trivial⟩, by simp [injOn], (fun n e => by cases e), .inr ⟨4, [], rfl, by rw [List.map_nil, List.append_nil], rfl⟩⟩
end Go.Proofs.Ytiibjaommelkkaa
