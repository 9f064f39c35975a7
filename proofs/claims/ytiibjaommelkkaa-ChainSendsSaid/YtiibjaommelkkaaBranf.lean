/- The branch coder: each four of bytes turned in its place. -/
import Derived.Test.YtiibjaommelkkaaEng19
import Derived.Test.YtiibjaommelkkaaEng26
import Derived.Test.YtiibjaommelkkaaBrane
set_option linter.unusedVariables false
set_option linter.unusedSimpArgs false
set_option maxRecDepth 100000
namespace Go.Proofs.Ytiibjaommelkkaa
open Go Go.Eng

abbrev Turn := BitVec 32 → BitVec 32 → Bool → BitVec 32
/-- what a turn's function does -/
def TurnOk (g : FuncId) (T : Turn) : Prop := ∀ w p back, CallOk Try.prog g [.int .u32 (w.toNat : Int), .int .u32 (p.toNat : Int), .bool back] (fun _ => true) [] 0 fun v m nx => v = .int .u32 ((T w p back).toNat : Int) ∧ m = [] ∧ nx = 0
/-- bytes of which so many fours are turned -/
def coded (high : Bool) (T : Turn) (st : BitVec 32) (back : Bool) (b : List (BitVec 8)) : Nat → List (BitVec 8)
  | 0 => b
  | k + 1 => putN high (T (wordN high ((coded high T st back b k).drop (4 * k)) 4) (st + BitVec.ofNat 32 (4 * k)) back) (coded high T st back b k) (4 * k) 4
theorem coded_len (high : Bool) (T : Turn) (st : BitVec 32) (back : Bool) (b : List (BitVec 8)) (k : Nat) : (coded high T st back b k).length = b.length := by
  induction k with
  | zero => rfl
  | succ k ih => rw [coded, putN_len, ih]
def okE (s : AV) : AV := .tup [s, .int .i64 0]
set_option maxHeartbeats 400000 in
theorem bcodeOk (id : Int) (high : Bool) (g : FuncId) (T : Turn) (hen : enters Try.prog g = true) (hT : TurnOk g T) (hfind : mfind id [5, 7, 9, 10] filtL = some (.agg [.bool high, fnA g]))
    (st : BitVec 32) (hst : (st % 4#32 != 0#32) = false) (b : List (BitVec 8)) (hb : b.length ≤ 1000000) (back : Bool) :
    CallOk Try.prog 63 [.int .i64 id, .int .u32 (st.toNat : Int), .ro b.length (bvs .u8 b), .bool back] (fun _ => true) [] 0 (Rets okE .u8 (coded high T st back b (b.length / 4)) 5) := by
  refine fn_ok Try.func63 rfl (by show 4 ≤ _; decide) ?_
  simp (config := { maxSteps := 1000000, implicitDefEqProofs := false }) only [-List.reduceReplicate, Nat.reduceBEq, renA, renL, renM, renO, evx, evs, evp, Eng.look, cst, cst1, putd, dstOk, params, loadx, partx, loI, hiI, bltx, mmI, boxx, srcx, calx, nilx, upd, del, resv, fillA, setMany, Nat.reduceLT, Nat.reduceLeDiff, Nat.reduceEqDiff, Nat.reduceAdd, Nat.reduceMul, Nat.reduceSub, reduceIte, reduceCtorEq, if_true, if_false, ite_true, ite_false, eq_self, forall_const, implies_true, Int.reduceLT, Int.reduceLE, Int.reduceToNat, Int.reduceAdd, Int.reduceSub, Int.reduceNeg, ne_eq, Int.reduceEq, Int.reduceNe, Int.reduceBEq, Int.reduceBNe, beq_self_eq_true, bne_self_eq_false, BitVec.reduceBEq, BitVec.reduceBNe, BitVec.reduceOfInt, BitVec.reduceSetWidth, wrD, engS0, engS1, engS2, engS3, engS4, engS5, engS6, engS7, engS8, engS9, engT0, engT1, engT2, Fx.t1, Fx.t3, Fx.t4, Fx.t5, Fx.t22, Fx.t24, Fx.t34, Fx.t100, Fx.t101, Fx.t102, Fx.t103, Fx.t105, Fx.t108, Fx.en78, Try.results63, Try.ntmps63]
  refine filtersOk.more trivial ?_
  rintro v m' nx' ⟨rfl, rfl, rfl⟩
  refine ⟨rfl, rfl, ?_⟩
  have hrf : renL (fun n => n + 1) filtL = filtL := rfl
  have hsp : spl [AV.bool false, AV.nilf] 0 [AV.bool high, fnA g] = [AV.bool high, fnA g] := rfl
  simp (config := { maxSteps := 1000000, implicitDefEqProofs := false }) only [-List.reduceReplicate, Nat.reduceBEq, renA, renL, renM, renO, evx, evs, evp, Eng.look, cst, cst1, putd, dstOk, params, loadx, partx, loI, hiI, bltx, mmI, boxx, srcx, calx, nilx, upd, del, resv, fillA, setMany, Nat.reduceLT, Nat.reduceLeDiff, Nat.reduceEqDiff, Nat.reduceAdd, Nat.reduceMul, Nat.reduceSub, reduceIte, reduceCtorEq, if_true, if_false, ite_true, ite_false, eq_self, forall_const, implies_true, Int.reduceLT, Int.reduceLE, Int.reduceToNat, Int.reduceAdd, Int.reduceSub, Int.reduceNeg, ne_eq, Int.reduceEq, Int.reduceNe, Int.reduceBEq, Int.reduceBNe, beq_self_eq_true, bne_self_eq_false, BitVec.reduceBEq, BitVec.reduceBNe, BitVec.reduceOfInt, BitVec.reduceSetWidth, wrD, engS0, engS1, engS2, engS3, engS4, engS5, engS6, engS7, engS8, engS9, engT0, engT1, engT2, Fx.t1, Fx.t3, Fx.t4, Fx.t5, Fx.t22, Fx.t24, Fx.t34, Fx.t100, Fx.t101, Fx.t102, Fx.t103, Fx.t105, Fx.t108, Fx.en78, hrf, hfind, hst, hsp, List.take_length]
  refine ⟨rfl, .inl trivial, ?_⟩
  refine appk_bvs (x := ([] : List (BitVec 8))) (sp := []) rfl rfl rfl (by decide) (by decide) (by simp; omega) fun cap sp g1 g2 => ?_
  simp (config := { maxSteps := 1000000, implicitDefEqProofs := false }) only [-List.reduceReplicate, Nat.reduceBEq, renA, renL, renM, renO, evx, evs, evp, Eng.look, cst, cst1, putd, dstOk, params, loadx, partx, loI, hiI, bltx, mmI, boxx, srcx, calx, nilx, upd, del, resv, fillA, setMany, Nat.reduceLT, Nat.reduceLeDiff, Nat.reduceEqDiff, Nat.reduceAdd, Nat.reduceMul, Nat.reduceSub, reduceIte, reduceCtorEq, if_true, if_false, ite_true, ite_false, eq_self, forall_const, implies_true, Int.reduceLT, Int.reduceLE, Int.reduceToNat, Int.reduceAdd, Int.reduceSub, Int.reduceNeg, ne_eq, Int.reduceEq, Int.reduceNe, Int.reduceBEq, Int.reduceBNe, beq_self_eq_true, bne_self_eq_false, BitVec.reduceBEq, BitVec.reduceBNe, BitVec.reduceOfInt, BitVec.reduceSetWidth, wrD, engS0, engS1, engS2, engS3, engS4, engS5, engS6, engS7, engS8, engS9, engT0, engT1, engT2, Fx.t1, Fx.t3, Fx.t4, Fx.t5, Fx.t22, Fx.t24, Fx.t34, Fx.t100, Fx.t101, Fx.t102, Fx.t103, Fx.t105, Fx.t108, Fx.en78]
  simp only [List.nil_append] at g1
  refine LoopOk.up (b.length / 4) (fun k => ([(14, .int .i64 (4 * k : Nat)), (13, .fn (.func 79) [] [.ptr 2 0, .ptr 0 0]), (12, .sl 4 0 b.length cap), (1, .int .u32 (st.toNat : Int))], [(4, .cells (bvs .u8 (coded high T st back b k) ++ sp.map AV.val) 5), (2, .cells [.bool high, fnA g] 103), (0, .cells [.bool back] 4)], 5)) (Le.sameT (by decide) (by simp only [-List.reduceReplicate, slotsSame, Eng.look, Nat.reduceEqDiff, coded, reduceIte, reduceCtorEq, if_true, if_false, eq_self, true_and, and_true, Option.some.injEq, AV.int.injEq]; (try simp (disch := omega) only [wrap_i64]); (try simp [-List.reduceReplicate]); (try omega)) (by simp only [-List.reduceReplicate, memSame, Eng.look, Nat.reduceEqDiff, coded, reduceIte, reduceCtorEq, if_true, if_false, eq_self, true_and, and_true, Option.some.injEq, AObj.cells.injEq, bvs_rep8, bvs_rep16, bvs_rep32, bvs_rep64, bvs_flat_rep, Nat.reduceMul, bvs_append, List.replicate_append_replicate, Nat.reduceAdd, bvs_inj]; try simp [-List.reduceReplicate]) (by simp [-List.reduceReplicate])) ?_
  intro k hk
  have hcl := coded_len high T st back b k
  simp (config := { maxSteps := 1000000, implicitDefEqProofs := false }) only [-List.reduceReplicate, Nat.reduceBEq, renA, renL, renM, renO, evx, evs, evp, Eng.look, cst, cst1, putd, dstOk, params, loadx, partx, loI, hiI, bltx, mmI, boxx, srcx, calx, nilx, upd, del, resv, fillA, setMany, Nat.reduceLT, Nat.reduceLeDiff, Nat.reduceEqDiff, Nat.reduceAdd, Nat.reduceMul, Nat.reduceSub, reduceIte, reduceCtorEq, if_true, if_false, ite_true, ite_false, eq_self, forall_const, implies_true, Int.reduceLT, Int.reduceLE, Int.reduceToNat, Int.reduceAdd, Int.reduceSub, Int.reduceNeg, ne_eq, Int.reduceEq, Int.reduceNe, Int.reduceBEq, Int.reduceBNe, beq_self_eq_true, bne_self_eq_false, BitVec.reduceBEq, BitVec.reduceBNe, BitVec.reduceOfInt, BitVec.reduceSetWidth, wrD, engS0, engS1, engS2, engS3, engS4, engS5, engS6, engS7, engS8, engS9, engT0, engT1, engT2, Fx.t1, Fx.t3, Fx.t4, Fx.t5, Fx.t22, Fx.t24, Fx.t34, Fx.t100, Fx.t101, Fx.t102, Fx.t103, Fx.t105, Fx.t108, Fx.en78]
  have w4 : IntKind.i64.wrap ((4 * k : Nat) + 4) = ((4 * (k + 1) : Nat) : Int) := by rw [wrap_i64] <;> omega
  rcases Nat.lt_or_ge k (b.length / 4) with h' | h'
  · have f1 : decide (((4 * (k + 1) : Nat) : Int) ≤ (b.length : Int)) = true := by simp; omega
    have s1 : 4 * (k + 1) - 4 * k = 4 := by omega
    simp (config := { maxSteps := 1000000, implicitDefEqProofs := false }) only [-List.reduceReplicate, Nat.reduceBEq, renA, renL, renM, renO, evx, evs, evp, Eng.look, cst, cst1, putd, dstOk, params, loadx, partx, loI, hiI, bltx, mmI, boxx, srcx, calx, nilx, upd, del, resv, fillA, setMany, Nat.reduceLT, Nat.reduceLeDiff, Nat.reduceEqDiff, Nat.reduceAdd, Nat.reduceMul, Nat.reduceSub, reduceIte, reduceCtorEq, if_true, if_false, ite_true, ite_false, eq_self, forall_const, implies_true, Int.reduceLT, Int.reduceLE, Int.reduceToNat, Int.reduceAdd, Int.reduceSub, Int.reduceNeg, ne_eq, Int.reduceEq, Int.reduceNe, Int.reduceBEq, Int.reduceBNe, beq_self_eq_true, bne_self_eq_false, BitVec.reduceBEq, BitVec.reduceBNe, BitVec.reduceOfInt, BitVec.reduceSetWidth, wrD, engS0, engS1, engS2, engS3, engS4, engS5, engS6, engS7, engS8, engS9, engT0, engT1, engT2, Fx.t1, Fx.t3, Fx.t4, Fx.t5, Fx.t22, Fx.t24, Fx.t34, Fx.t100, Fx.t101, Fx.t102, Fx.t103, Fx.t105, Fx.t108, Fx.en78, w4, f1, s1]
    refine ⟨⟨by omega, by omega⟩, Fx.en79, ?_⟩
    refine (eachOk high g T hen hT (coded high T st back b k) (sp.map AV.val) (by omega) (4 * k) (cap - 4 * k) (by omega) (st + BitVec.ofNat 32 (4 * k)) back).use [(0, 4), (1, 2), (2, 0)] rfl ?_ (by simp [injOn, eachM]; decide) rfl (fun _ _ => rfl) (fun _ e => by cases e) ⟨rfl, rfl, rfl, rfl, trivial⟩ ?_
    · refine ⟨?_, fun _ => rfl, ?_, fun _ => rfl, ?_, fun _ => rfl, trivial⟩
      · simp only [renO, renL_vals']; rfl
      · rfl
      · rfl
    rintro v m' nx' ⟨rfl, rfl, rfl⟩
    refine ⟨rfl, by simp only [eachM, noRoM, noRoO, noRoL_vals', Bool.true_and]; rfl, Nat.le_refl _, ?_⟩
    rw [show putN high (T (wordN high ((coded high T st back b k).drop (4 * k)) 4) (st + BitVec.ofNat 32 (4 * k)) back) (coded high T st back b k) (4 * k) 4 = coded high T st back b (k + 1) from rfl]
    have hm : renM (rf [(0, 4), (1, 2), (2, 0)] 5 3) (eachM high back g (coded high T st back b (k + 1)) (sp.map AV.val)) ++ delAll [(4, AObj.cells (bvs IntKind.u8 (coded high T st back b k) ++ List.map AV.val sp) 5), (2, AObj.cells [AV.bool high, fnA g] 103), (0, AObj.cells [AV.bool back] 4)] (List.map (fun p => rf [(0, 4), (1, 2), (2, 0)] 5 3 p.fst) (eachM high back g (coded high T st back b k) (sp.map AV.val)))
        = [(4, .cells (bvs .u8 (coded high T st back b (k + 1)) ++ sp.map AV.val) 5), (2, .cells [.bool high, fnA g] 103), (0, .cells [.bool back] 4)] := by
      simp only [eachM, renM, renO, renL_vals']; rfl
    rw [hm]
    simp (config := { maxSteps := 1000000, implicitDefEqProofs := false }) only [-List.reduceReplicate, Nat.reduceBEq, renA, renL, renM, renO, evx, evs, evp, Eng.look, cst, cst1, putd, dstOk, params, loadx, partx, loI, hiI, bltx, mmI, boxx, srcx, calx, nilx, upd, del, resv, fillA, setMany, Nat.reduceLT, Nat.reduceLeDiff, Nat.reduceEqDiff, Nat.reduceAdd, Nat.reduceMul, Nat.reduceSub, reduceIte, reduceCtorEq, if_true, if_false, ite_true, ite_false, eq_self, forall_const, implies_true, Int.reduceLT, Int.reduceLE, Int.reduceToNat, Int.reduceAdd, Int.reduceSub, Int.reduceNeg, ne_eq, Int.reduceEq, Int.reduceNe, Int.reduceBEq, Int.reduceBNe, beq_self_eq_true, bne_self_eq_false, BitVec.reduceBEq, BitVec.reduceBNe, BitVec.reduceOfInt, BitVec.reduceSetWidth, wrD, engS0, engS1, engS2, engS3, engS4, engS5, engS6, engS7, engS8, engS9, engT0, engT1, engT2, Fx.t1, Fx.t3, Fx.t4, Fx.t5, Fx.t22, Fx.t24, Fx.t34, Fx.t100, Fx.t101, Fx.t102, Fx.t103, Fx.t105, Fx.t108, Fx.en78, w4]
    exact UpK_normal h' (Le.sameT (by decide) (by simp only [-List.reduceReplicate, slotsSame, Eng.look, Nat.reduceEqDiff, reduceIte, reduceCtorEq, if_true, if_false, eq_self, true_and, and_true, Option.some.injEq, AV.int.injEq]; (try simp (disch := omega) only [wrap_i64]); (try simp [-List.reduceReplicate]); (try omega)) (by simp only [-List.reduceReplicate, memSame, Eng.look, Nat.reduceEqDiff, reduceIte, reduceCtorEq, if_true, if_false, eq_self, true_and, and_true, Option.some.injEq, AObj.cells.injEq, bvs_rep8, bvs_rep16, bvs_rep32, bvs_rep64, bvs_flat_rep, Nat.reduceMul, bvs_append, List.replicate_append_replicate, Nat.reduceAdd, bvs_inj]; try simp [-List.reduceReplicate]) (by simp [-List.reduceReplicate]))
  · have f1 : decide (((4 * (k + 1) : Nat) : Int) ≤ (b.length : Int)) = false := by simp; omega
    have hkk : k = b.length / 4 := by omega
    subst hkk
    simp (config := { maxSteps := 1000000, implicitDefEqProofs := false }) only [-List.reduceReplicate, Nat.reduceBEq, renA, renL, renM, renO, evx, evs, evp, Eng.look, cst, cst1, putd, dstOk, params, loadx, partx, loI, hiI, bltx, mmI, boxx, srcx, calx, nilx, upd, del, resv, fillA, setMany, Nat.reduceLT, Nat.reduceLeDiff, Nat.reduceEqDiff, Nat.reduceAdd, Nat.reduceMul, Nat.reduceSub, reduceIte, reduceCtorEq, if_true, if_false, ite_true, ite_false, eq_self, forall_const, implies_true, Int.reduceLT, Int.reduceLE, Int.reduceToNat, Int.reduceAdd, Int.reduceSub, Int.reduceNeg, ne_eq, Int.reduceEq, Int.reduceNe, Int.reduceBEq, Int.reduceBNe, beq_self_eq_true, bne_self_eq_false, BitVec.reduceBEq, BitVec.reduceBNe, BitVec.reduceOfInt, BitVec.reduceSetWidth, wrD, engS0, engS1, engS2, engS3, engS4, engS5, engS6, engS7, engS8, engS9, engT0, engT1, engT2, Fx.t1, Fx.t3, Fx.t4, Fx.t5, Fx.t22, Fx.t24, Fx.t34, Fx.t100, Fx.t101, Fx.t102, Fx.t103, Fx.t105, Fx.t108, Fx.en78, w4, f1]
    refine ⟨[(0, 4)], okE (.sl 0 0 b.length cap), [(0, .cells (bvs .u8 (coded high T st back b (b.length / 4)) ++ sp.map AV.val) 5)], 1, ⟨rfl, by decide⟩, rfl, ⟨by simp only [renO, renL_vals']; rfl, rfl, trivial⟩, by simp [injOn], (fun n e => by cases e), ?_⟩
    exact .inr ⟨cap, sp, by rw [hcl], rfl, rfl⟩
end Go.Proofs.Ytiibjaommelkkaa
