/- The document's way back of delta: each byte plus the one told a distance back. -/
import Derived.Test.YtiibjaommelkkaaEng19
import Derived.Test.YtiibjaommelkkaaEng26
import Derived.Test.YtiibjaommelkkaaDeltb
set_option linter.unusedVariables false
set_option linter.unusedSimpArgs false
set_option maxRecDepth 100000
namespace Go.Proofs.Ytiibjaommelkkaa
open Go Go.Eng

def decE (b : List (BitVec 8)) (d : Nat) (i : Nat) : BitVec 8 := ot decS b d i
theorem decE_lt {b : List (BitVec 8)} {d i : Nat} (h : i < d) : decE b d i = b.getD i 0 := by
  rw [decE, ot, old, if_neg (by omega)]
  simp [decS]
theorem decE_ge {b : List (BitVec 8)} {d i : Nat} (h1 : 1 ≤ d) (h : d ≤ i) : decE b d i = b.getD i 0 + decE b d (i - d) := by
  rw [decE, ot, old, if_pos (by omega), kp_eq]
  rfl
set_option maxHeartbeats 400000 in
theorem rdecOk (b : List (BitVec 8)) (hb : b.length ≤ 1000000) (d : Nat) (hd1 : 1 ≤ d) (hd2 : d ≤ 256) :
    CallOk Try.prog 19 [.ro b.length (bvs .u8 b), .int .i64 d] (fun _ => true) [] 0 (ApR (decE b d) b.length) := by
  refine fn_ok Try.func19 rfl (by show 2 ≤ _; decide) ?_
  simp (config := { maxSteps := 1000000, implicitDefEqProofs := false }) only [-List.reduceReplicate, Nat.reduceBEq, renA, renL, renM, renO, evx, evs, evp, Eng.look, cst, cst1, putd, dstOk, params, loadx, partx, loI, hiI, bltx, mmI, boxx, srcx, calx, nilx, upd, del, resv, fillA, setMany, Nat.reduceLT, Nat.reduceLeDiff, Nat.reduceEqDiff, Nat.reduceAdd, Nat.reduceMul, Nat.reduceSub, reduceIte, reduceCtorEq, if_true, if_false, ite_true, ite_false, eq_self, forall_const, implies_true, Int.reduceLT, Int.reduceLE, Int.reduceToNat, Int.reduceAdd, Int.reduceSub, Int.reduceNeg, ne_eq, Int.reduceEq, Int.reduceNe, Int.reduceBEq, Int.reduceBNe, beq_self_eq_true, bne_self_eq_false, BitVec.reduceBEq, BitVec.reduceBNe, BitVec.reduceOfInt, BitVec.reduceSetWidth, wrD, engS0, engS1, engS2, engS3, engS4, engS5, engS6, engS7, engS8, engS9, engT0, engT1, engT2, Fx.t1, Fx.t3, Fx.t4, Fx.t5, Fx.t22, Try.results19, Try.ntmps19]
  refine LoopOk.upX apQ b.length (apS 5 (decE b d) fun n => [(6, .int .i64 n), (0, .ro b.length (bvs .u8 b)), (1, .int .i64 d)]) (0, []) (fun h => by omega) (by simp only [apS_0]; exact (Le.sameT (by decide) (by simp only [-List.reduceReplicate, slotsSame, Eng.look, Nat.reduceEqDiff, reduceIte, reduceCtorEq, if_true, if_false, eq_self, true_and, and_true, Option.some.injEq, AV.int.injEq]; (try simp (disch := omega) only [wrap_i64]); (try simp [-List.reduceReplicate]); (try omega)) (by simp only [-List.reduceReplicate, memSame, Eng.look, Nat.reduceEqDiff, reduceIte, reduceCtorEq, if_true, if_false, eq_self, true_and, and_true, Option.some.injEq, AObj.cells.injEq, bvs_rep8, bvs_rep16, bvs_rep32, bvs_rep64, bvs_flat_rep, Nat.reduceMul, bvs_append, List.replicate_append_replicate, Nat.reduceAdd, bvs_inj]; try simp [-List.reduceReplicate]) (by simp [-List.reduceReplicate]))) ?_
  intro n x ⟨hn, hq⟩
  generalize hS : (apS 5 (decE b d) fun n => [(6, .int .i64 n), (0, .ro b.length (bvs .u8 b)), (1, .int .i64 d)]) = S
  rcases Nat.lt_or_ge n b.length with h' | h'
  · have f1 : decide ((n : Int) < (b.length : Int)) = true := by simp; omega
    have wn : IntKind.i64.wrap ((n : Int) + 1) = ((n + 1 : Nat) : Int) := by rw [wrap_i64] <;> omega
    rcases Nat.lt_or_ge n d with g | g
    · have f2 : decide ((n : Int) ≥ (d : Int)) = false := by simp; omega
      have fe : decE b d n = b.getD n 0 := decE_lt g
      rcases n with _ | n
      · have f1' : decide ((0 : Int) < (b.length : Int)) = true := by simp; omega
        have f2' : decide ((0 : Int) ≥ (d : Int)) = false := by simp; omega
        rw [← hS, apS_0, hS]
        simp (config := { maxSteps := 1000000, implicitDefEqProofs := false }) only [-List.reduceReplicate, Nat.reduceBEq, renA, renL, renM, renO, evx, evs, evp, Eng.look, cst, cst1, putd, dstOk, params, loadx, partx, loI, hiI, bltx, mmI, boxx, srcx, calx, nilx, upd, del, resv, fillA, setMany, Nat.reduceLT, Nat.reduceLeDiff, Nat.reduceEqDiff, Nat.reduceAdd, Nat.reduceMul, Nat.reduceSub, reduceIte, reduceCtorEq, if_true, if_false, ite_true, ite_false, eq_self, forall_const, implies_true, Int.reduceLT, Int.reduceLE, Int.reduceToNat, Int.reduceAdd, Int.reduceSub, Int.reduceNeg, ne_eq, Int.reduceEq, Int.reduceNe, Int.reduceBEq, Int.reduceBNe, beq_self_eq_true, bne_self_eq_false, BitVec.reduceBEq, BitVec.reduceBNe, BitVec.reduceOfInt, BitVec.reduceSetWidth, wrD, engS0, engS1, engS2, engS3, engS4, engS5, engS6, engS7, engS8, engS9, engT0, engT1, engT2, Fx.t1, Fx.t3, Fx.t4, Fx.t5, Fx.t22, f1', f2', List.length_drop]
        refine ⟨by omega, by omega, by omega, .inr trivial, rfl, ?_⟩
        refine appk_nils (y := [b.getD 0 0]) (by decide) (by simp) (fun h => by cases h) fun _ cap' sp' c1 c2 => ?_
        simp (config := { maxSteps := 1000000, implicitDefEqProofs := false }) only [-List.reduceReplicate, Nat.reduceBEq, renA, renL, renM, renO, evx, evs, evp, Eng.look, cst, cst1, putd, dstOk, params, loadx, partx, loI, hiI, bltx, mmI, boxx, srcx, calx, nilx, upd, del, resv, fillA, setMany, Nat.reduceLT, Nat.reduceLeDiff, Nat.reduceEqDiff, Nat.reduceAdd, Nat.reduceMul, Nat.reduceSub, reduceIte, reduceCtorEq, if_true, if_false, ite_true, ite_false, eq_self, forall_const, implies_true, Int.reduceLT, Int.reduceLE, Int.reduceToNat, Int.reduceAdd, Int.reduceSub, Int.reduceNeg, ne_eq, Int.reduceEq, Int.reduceNe, Int.reduceBEq, Int.reduceBNe, beq_self_eq_true, bne_self_eq_false, BitVec.reduceBEq, BitVec.reduceBNe, BitVec.reduceOfInt, BitVec.reduceSetWidth, wrD, engS0, engS1, engS2, engS3, engS4, engS5, engS6, engS7, engS8, engS9, engT0, engT1, engT2, Fx.t1, Fx.t3, Fx.t4, Fx.t5, Fx.t22]
        refine UpX_normal h' (cap', sp') (fun _ => ⟨by simpa [Nat.add_comm] using c1, c2⟩) ?_
        rw [← hS, apS_succ, ← Lst_succ, fe]
        exact (Le.one (n' := 1) (by simp only [-List.reduceReplicate, slotsLe, Eng.look, renA, renL, rf_one, bvs_ren, Lst, List.range_zero, List.map_nil, List.nil_append, bvs_cons, bvs_nil, renL_append, renL, renA, renL_vals, List.cons_append, Nat.reduceEqDiff, reduceIte, reduceCtorEq, if_true, if_false, eq_self, true_and, and_true, Option.some.injEq, AV.int.injEq]; (try simp (disch := omega) only [wrap_i64]); (try simp [-List.reduceReplicate]); (try omega)) (by simp only [Eng.look, Nat.reduceEqDiff, reduceIte, if_true, if_false, reduceCtorEq, renO, renL_vals', Lst, List.range_zero, List.map_nil, List.nil_append, bvs_cons, bvs_nil, renL_append, renL, renA, renL_vals, List.cons_append]))
      · have hc := hq (by omega)
        rw [← hS, apS_succ, hS]
        simp (config := { maxSteps := 1000000, implicitDefEqProofs := false }) only [-List.reduceReplicate, Nat.reduceBEq, renA, renL, renM, renO, evx, evs, evp, Eng.look, cst, cst1, putd, dstOk, params, loadx, partx, loI, hiI, bltx, mmI, boxx, srcx, calx, nilx, upd, del, resv, fillA, setMany, Nat.reduceLT, Nat.reduceLeDiff, Nat.reduceEqDiff, Nat.reduceAdd, Nat.reduceMul, Nat.reduceSub, reduceIte, reduceCtorEq, if_true, if_false, ite_true, ite_false, eq_self, forall_const, implies_true, Int.reduceLT, Int.reduceLE, Int.reduceToNat, Int.reduceAdd, Int.reduceSub, Int.reduceNeg, ne_eq, Int.reduceEq, Int.reduceNe, Int.reduceBEq, Int.reduceBNe, beq_self_eq_true, bne_self_eq_false, BitVec.reduceBEq, BitVec.reduceBNe, BitVec.reduceOfInt, BitVec.reduceSetWidth, wrD, engS0, engS1, engS2, engS3, engS4, engS5, engS6, engS7, engS8, engS9, engT0, engT1, engT2, Fx.t1, Fx.t3, Fx.t4, Fx.t5, Fx.t22, f1, f2, List.length_drop]
        refine ⟨by omega, by omega, by omega, .inr trivial, rfl, ?_⟩
        have hx : n + 1 = (Lst (decE b d) (n + 1)).length := (Lst_len _ _).symm
        have ap := fun {K : Kv} (hK) => appk_bvs (wr := fun _ => true) (m := [(1, AObj.cells (bvs .u8 ((List.replicate 1 (0 : BitVec 8)).set 0 (b.getD (n + 1) 0))) 5), (0, AObj.cells (bvs .u8 (Lst (decE b d) (n + 1)) ++ x.2.map AV.val) 5)]) (nx := 2) (K := K) (k := .u8) (x := Lst (decE b d) (n + 1)) (y := [b.getD (n + 1) 0]) (sp := x.2) (n := 0) (cap := x.1) (e := 5) (bt := 1) rfl rfl (by rw [Lst_len]; exact hc.1) hc.2 (by decide) (by rw [Lst_len]; simp; omega) hK
        rw [Lst_len] at ap
        refine ap fun cap' sp' c1 c2 => ?_
        rw [← fe, Lst_succ, Lst_len]
        rw [← fe, Lst_succ, Lst_len] at c1
        simp (config := { maxSteps := 1000000, implicitDefEqProofs := false }) only [-List.reduceReplicate, Nat.reduceBEq, renA, renL, renM, renO, evx, evs, evp, Eng.look, cst, cst1, putd, dstOk, params, loadx, partx, loI, hiI, bltx, mmI, boxx, srcx, calx, nilx, upd, del, resv, fillA, setMany, Nat.reduceLT, Nat.reduceLeDiff, Nat.reduceEqDiff, Nat.reduceAdd, Nat.reduceMul, Nat.reduceSub, reduceIte, reduceCtorEq, if_true, if_false, ite_true, ite_false, eq_self, forall_const, implies_true, Int.reduceLT, Int.reduceLE, Int.reduceToNat, Int.reduceAdd, Int.reduceSub, Int.reduceNeg, ne_eq, Int.reduceEq, Int.reduceNe, Int.reduceBEq, Int.reduceBNe, beq_self_eq_true, bne_self_eq_false, BitVec.reduceBEq, BitVec.reduceBNe, BitVec.reduceOfInt, BitVec.reduceSetWidth, wrD, engS0, engS1, engS2, engS3, engS4, engS5, engS6, engS7, engS8, engS9, engT0, engT1, engT2, Fx.t1, Fx.t3, Fx.t4, Fx.t5, Fx.t22]
        refine UpX_normal h' (cap', sp') (fun _ => ⟨c1, c2⟩) ?_
        rw [← hS, apS_succ]
        exact (Le.one (n' := 2) (by simp only [-List.reduceReplicate, slotsLe, Eng.look, renA, renL, rf_one, bvs_ren, bvs_cons, bvs_nil, Nat.reduceEqDiff, reduceIte, reduceCtorEq, if_true, if_false, eq_self, true_and, and_true, Option.some.injEq, AV.int.injEq]; (try simp (disch := omega) only [wrap_i64]); (try simp [-List.reduceReplicate]); (try omega)) (by simp only [Eng.look, Nat.reduceEqDiff, reduceIte, if_true, if_false, reduceCtorEq, renO, renL_vals', bvs_cons, bvs_nil]))
    · have f2 : decide ((n : Int) ≥ (d : Int)) = true := by simp; omega
      have fe : decE b d n = b.getD n 0 + decE b d (n - d) := decE_ge hd1 g
      rcases n with _ | n
      · omega
      · have hc := hq (by omega)
        have wi' : IntKind.i64.wrap (((n + 1 : Nat) : Int) - (d : Int)) = ((n + 1 - d : Nat) : Int) := by rw [wrap_i64] <;> omega
        have hget : (bvs .u8 (Lst (decE b d) (n + 1)) ++ x.2.map AV.val).getD (n + 1 - d) (.int .u8 0) = .int .u8 ((decE b d (n + 1 - d)).toNat : Int) := by
          rw [List.getD_eq_getElem?_getD, List.getElem?_append_left (by rw [bvs_length, Lst_len]; omega), ← List.getD_eq_getElem?_getD, bvs_getD]
          congr 3
          rw [List.getD_eq_getElem?_getD, List.getElem?_eq_getElem (by rw [Lst_len]; omega)]
          simp [Lst]
        rw [← hS, apS_succ, hS]
        simp (config := { maxSteps := 1000000, implicitDefEqProofs := false }) only [-List.reduceReplicate, Nat.reduceBEq, renA, renL, renM, renO, evx, evs, evp, Eng.look, cst, cst1, putd, dstOk, params, loadx, partx, loI, hiI, bltx, mmI, boxx, srcx, calx, nilx, upd, del, resv, fillA, setMany, Nat.reduceLT, Nat.reduceLeDiff, Nat.reduceEqDiff, Nat.reduceAdd, Nat.reduceMul, Nat.reduceSub, reduceIte, reduceCtorEq, if_true, if_false, ite_true, ite_false, eq_self, forall_const, implies_true, Int.reduceLT, Int.reduceLE, Int.reduceToNat, Int.reduceAdd, Int.reduceSub, Int.reduceNeg, ne_eq, Int.reduceEq, Int.reduceNe, Int.reduceBEq, Int.reduceBNe, beq_self_eq_true, bne_self_eq_false, BitVec.reduceBEq, BitVec.reduceBNe, BitVec.reduceOfInt, BitVec.reduceSetWidth, wrD, engS0, engS1, engS2, engS3, engS4, engS5, engS6, engS7, engS8, engS9, engT0, engT1, engT2, Fx.t1, Fx.t3, Fx.t4, Fx.t5, Fx.t22, f1, f2, wi', List.length_drop, hget, List.length_append, Lst_len]
        refine ⟨by omega, by omega, by omega, by omega, by omega, .inr trivial, rfl, ?_⟩
        have ap := fun {K : Kv} (hK) => appk_bvs (wr := fun _ => true) (m := [(1, AObj.cells (bvs .u8 ((List.replicate 1 (0 : BitVec 8)).set 0 (b.getD (n + 1) 0 + decE b d (n + 1 - d)))) 5), (0, AObj.cells (bvs .u8 (Lst (decE b d) (n + 1)) ++ x.2.map AV.val) 5)]) (nx := 2) (K := K) (k := .u8) (x := Lst (decE b d) (n + 1)) (y := [b.getD (n + 1) 0 + decE b d (n + 1 - d)]) (sp := x.2) (n := 0) (cap := x.1) (e := 5) (bt := 1) rfl rfl (by rw [Lst_len]; exact hc.1) hc.2 (by decide) (by rw [Lst_len]; simp; omega) hK
        rw [Lst_len] at ap
        refine ap fun cap' sp' c1 c2 => ?_
        rw [← fe, Lst_succ, Lst_len]
        rw [← fe, Lst_succ, Lst_len] at c1
        simp (config := { maxSteps := 1000000, implicitDefEqProofs := false }) only [-List.reduceReplicate, Nat.reduceBEq, renA, renL, renM, renO, evx, evs, evp, Eng.look, cst, cst1, putd, dstOk, params, loadx, partx, loI, hiI, bltx, mmI, boxx, srcx, calx, nilx, upd, del, resv, fillA, setMany, Nat.reduceLT, Nat.reduceLeDiff, Nat.reduceEqDiff, Nat.reduceAdd, Nat.reduceMul, Nat.reduceSub, reduceIte, reduceCtorEq, if_true, if_false, ite_true, ite_false, eq_self, forall_const, implies_true, Int.reduceLT, Int.reduceLE, Int.reduceToNat, Int.reduceAdd, Int.reduceSub, Int.reduceNeg, ne_eq, Int.reduceEq, Int.reduceNe, Int.reduceBEq, Int.reduceBNe, beq_self_eq_true, bne_self_eq_false, BitVec.reduceBEq, BitVec.reduceBNe, BitVec.reduceOfInt, BitVec.reduceSetWidth, wrD, engS0, engS1, engS2, engS3, engS4, engS5, engS6, engS7, engS8, engS9, engT0, engT1, engT2, Fx.t1, Fx.t3, Fx.t4, Fx.t5, Fx.t22]
        refine UpX_normal h' (cap', sp') (fun _ => ⟨c1, c2⟩) ?_
        rw [← hS, apS_succ]
        exact (Le.one (n' := 2) (by simp only [-List.reduceReplicate, slotsLe, Eng.look, renA, renL, rf_one, bvs_ren, bvs_cons, bvs_nil, Nat.reduceEqDiff, reduceIte, reduceCtorEq, if_true, if_false, eq_self, true_and, and_true, Option.some.injEq, AV.int.injEq]; (try simp (disch := omega) only [wrap_i64]); (try simp [-List.reduceReplicate]); (try omega)) (by simp only [Eng.look, Nat.reduceEqDiff, reduceIte, if_true, if_false, reduceCtorEq, renO, renL_vals', bvs_cons, bvs_nil]))
  · have hnb : n = b.length := by omega
    have f1 : decide ((n : Int) < (b.length : Int)) = false := by simp; omega
    rcases n with _ | n
    · have f1' : decide ((0 : Int) < (b.length : Int)) = false := decide_eq_false (by omega)
      rw [← hS, apS_0, hS]
      simp (config := { maxSteps := 1000000, implicitDefEqProofs := false }) only [-List.reduceReplicate, Nat.reduceBEq, renA, renL, renM, renO, evx, evs, evp, Eng.look, cst, cst1, putd, dstOk, params, loadx, partx, loI, hiI, bltx, mmI, boxx, srcx, calx, nilx, upd, del, resv, fillA, setMany, Nat.reduceLT, Nat.reduceLeDiff, Nat.reduceEqDiff, Nat.reduceAdd, Nat.reduceMul, Nat.reduceSub, reduceIte, reduceCtorEq, if_true, if_false, ite_true, ite_false, eq_self, forall_const, implies_true, Int.reduceLT, Int.reduceLE, Int.reduceToNat, Int.reduceAdd, Int.reduceSub, Int.reduceNeg, ne_eq, Int.reduceEq, Int.reduceNe, Int.reduceBEq, Int.reduceBNe, beq_self_eq_true, bne_self_eq_false, BitVec.reduceBEq, BitVec.reduceBNe, BitVec.reduceOfInt, BitVec.reduceSetWidth, wrD, engS0, engS1, engS2, engS3, engS4, engS5, engS6, engS7, engS8, engS9, engT0, engT1, engT2, Fx.t1, Fx.t3, Fx.t4, Fx.t5, Fx.t22, f1']
      refine Fin.flatv (fun _ => rfl) (fun f => rfl) ?_
      rw [ApR, if_pos hnb.symm]
      exact ⟨rfl, rfl, rfl⟩
    · rw [← hS, apS_succ, hS]
      simp (config := { maxSteps := 1000000, implicitDefEqProofs := false }) only [-List.reduceReplicate, Nat.reduceBEq, renA, renL, renM, renO, evx, evs, evp, Eng.look, cst, cst1, putd, dstOk, params, loadx, partx, loI, hiI, bltx, mmI, boxx, srcx, calx, nilx, upd, del, resv, fillA, setMany, Nat.reduceLT, Nat.reduceLeDiff, Nat.reduceEqDiff, Nat.reduceAdd, Nat.reduceMul, Nat.reduceSub, reduceIte, reduceCtorEq, if_true, if_false, ite_true, ite_false, eq_self, forall_const, implies_true, Int.reduceLT, Int.reduceLE, Int.reduceToNat, Int.reduceAdd, Int.reduceSub, Int.reduceNeg, ne_eq, Int.reduceEq, Int.reduceNe, Int.reduceBEq, Int.reduceBNe, beq_self_eq_true, bne_self_eq_false, BitVec.reduceBEq, BitVec.reduceBNe, BitVec.reduceOfInt, BitVec.reduceSetWidth, wrD, engS0, engS1, engS2, engS3, engS4, engS5, engS6, engS7, engS8, engS9, engT0, engT1, engT2, Fx.t1, Fx.t3, Fx.t4, Fx.t5, Fx.t22, f1]
      refine ⟨[(0, 0)], .sl 0 0 (n + 1) x.1, [(0, .cells (bvs .u8 (Lst (decE b d) (n + 1)) ++ x.2.map AV.val) 5)], 1, ⟨rfl, by decide⟩, rfl, ⟨by simp only [renO, renL_vals']; rfl, rfl, trivial⟩, by simp [injOn], (fun n e => by cases e), ?_⟩
      rw [ApR, if_neg (by omega), ← hnb]
      exact ⟨_, _, rfl, rfl, rfl⟩

theorem outs_enc (b : List (BitVec 8)) (d : Nat) (hd : 1 ≤ d) : outs encS b d b.length = Lst (encE b d) b.length := by
  unfold outs Lst
  refine List.map_congr_left fun i hi => ?_
  rw [if_pos (List.mem_range.1 hi), ot, old, encE]
  by_cases h : d ≤ i
  · rw [if_pos ⟨by omega, h⟩, if_pos h, kp_eq]
    rfl
  · rw [if_neg (by omega), if_neg h]
    simp [encS]
theorem outs_dec (b : List (BitVec 8)) (d : Nat) : outs decS b d b.length = Lst (decE b d) b.length := by
  unfold outs Lst
  refine List.map_congr_left fun i hi => ?_
  rw [if_pos (List.mem_range.1 hi), decE]
theorem Lst_getD (e : Nat → BitVec 8) (n i : Nat) (h : i < n) : (Lst e n).getD i 0 = e i := by
  rw [List.getD_eq_getElem?_getD, List.getElem?_eq_getElem (by rw [Lst_len]; exact h)]
  simp [Lst]
theorem Lst_of (b : List (BitVec 8)) (e : Nat → BitVec 8) (h : ∀ i, i < b.length → e i = b.getD i 0) : Lst e b.length = b := by
  apply List.ext_getElem
  · rw [Lst_len]
  · intro i h1 h2
    have := h i h2
    rw [List.getD_eq_getElem?_getD, List.getElem?_eq_getElem h2] at this
    simpa [Lst] using this
theorem dec_enc (b : List (BitVec 8)) (d : Nat) (hd : 1 ≤ d) : Lst (decE (Lst (encE b d) b.length) d) b.length = b := by
  refine Lst_of b _ fun i => ?_
  induction i using Nat.strongRecOn with
  | _ i ih =>
    intro hi
    rcases Nat.lt_or_ge i d with g | g
    · rw [decE_lt g, Lst_getD _ _ _ hi, encE, if_neg (by omega)]
    · rw [decE_ge hd g, Lst_getD _ _ _ hi, encE, if_pos g, ih (i - d) (by omega) (by omega), BitVec.sub_add_cancel]
theorem enc_dec (b : List (BitVec 8)) (d : Nat) (hd : 1 ≤ d) : Lst (encE (Lst (decE b d) b.length) d) b.length = b := by
  refine Lst_of b _ fun i hi => ?_
  rcases Nat.lt_or_ge i d with g | g
  · rw [encE, if_neg (by omega), Lst_getD _ _ _ hi, decE_lt g]
  · rw [encE, if_pos g, Lst_getD _ _ _ hi, Lst_getD _ _ _ (by omega), decE_ge hd g, BitVec.add_sub_cancel]
end Go.Proofs.Ytiibjaommelkkaa
