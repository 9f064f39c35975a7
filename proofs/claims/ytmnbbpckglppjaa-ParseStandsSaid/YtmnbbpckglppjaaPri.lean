/- Parsing: a new coder of the document's; what symbols stand for. -/
import Derived.Test.YtmnbbpckglppjaaEng19
import Derived.Test.YtmnbbpckglppjaaEng26
import Derived.Test.YtmnbbpckglppjaaPrh
set_option linter.unusedVariables false
set_option linter.unusedSimpArgs false
set_option maxRecDepth 100000
namespace Go.Proofs.Ytmnbbpckglppjaa
open Go Go.Eng

def chRow (X : List (BitVec 16)) (sp : List Value) : AObj := .cells (bvs .u16 X ++ sp.map AV.val) 52
def chA (X : List (BitVec 16)) : Option (Nat × Nat × List Value) → AV
  | none => .nils
  | some (n, cap, _) => .sl n 0 X.length cap
def chM (X : List (BitVec 16)) : Option (Nat × Nat × List Value) → Mem
  | none => []
  | some (n, _, sp) => [(n, chRow X sp)]
def chQ (X : List (BitVec 16)) (hi : Nat) : Option (Nat × Nat × List Value) → Prop
  | none => X = []
  | some (n, cap, sp) => 2 ≤ n ∧ n < hi ∧ X.length + sp.length = cap ∧ cap ≤ maxI
def fresh07 (k : Nat) : List (BitVec 16) := List.replicate (2180 + 768 * 2 ^ k) 1024#16
def New07K (lc lp pb : Int) (k : Nat) : Kv := fun v m nx => ∃ o, chQ (fresh07 k) nx o ∧ v = .ptr 1 0 ∧ m = chM (fresh07 k) o ++ [(1, codO lc lp pb 0 (.sl 0 0 4 4) (chA (fresh07 k) o)), (0, repRow ⟨1, 1, 1, 1⟩ [])] ∧ 2 ≤ nx
def n7B (lc lp pb : Int) (X : List (BitVec 16)) (o : Option (Nat × Nat × List Value)) : Mem := [(1, codO lc lp pb 0 (.sl 0 0 4 4) (chA X o)), (0, repRow ⟨1, 1, 1, 1⟩ [])]
set_option maxHeartbeats 2000000 in
theorem new07Ok (lc lp pb : Int) (k : Nat) (hk : lc + lp = k) (hk4 : k ≤ 4) : CallG false Try.prog 47 [.int .i64 lc, .int .i64 lp, .int .i64 pb] (fun _ => true) [] 0 (New07K lc lp pb k) := by
  refine fn_okG Try.func47 rfl (by show 3 ≤ _; decide) ?_
  simp (config := { maxSteps := 1000000, implicitDefEqProofs := false }) only [-List.reduceReplicate, Nat.reduceBEq, renA, renL, renM, renO, evx, evs, evp, Eng.look, cst, cst1, putd, dstOk, params, loadx, partx, loI, hiI, bltx, mmI, boxx, srcx, calx, nilx, upd, del, resv, fillA, setMany, Nat.reduceLT, Nat.reduceLeDiff, Nat.reduceEqDiff, Nat.reduceAdd, Nat.reduceMul, Nat.reduceSub, reduceIte, reduceCtorEq, if_true, if_false, ite_true, ite_false, eq_self, forall_const, implies_true, Int.reduceLT, Int.reduceLE, Int.reduceToNat, Int.reduceAdd, Int.reduceSub, Int.reduceNeg, ne_eq, Int.reduceEq, Int.reduceNe, Int.reduceBEq, Int.reduceBNe, beq_self_eq_true, bne_self_eq_false, BitVec.reduceBEq, BitVec.reduceBNe, BitVec.reduceOfInt, BitVec.reduceSetWidth, wrD, engS0, engS1, engS2, engS3, engS4, engS5, engS6, engS7, engS8, engS9, engU0, engT0, engT1, engT2, Fx.t3, Fx.t4, Fx.t5, Fx.t52, Fx.t79, Fx.t91, Fx.t132, Fx.t133, Fx.t134, Fx.en84, Try.results47, Try.ntmps47]
  refine ⟨.inr trivial, ?_⟩
  have h2 : 2 ^ k ≤ 2 ^ 4 := Nat.pow_le_pow_right (by decide) hk4
  refine LoopOk.upX (fun i (g : Option (Nat × Nat × List Value) × Nat) => chQ (List.replicate i 1024#16) g.2 g.1 ∧ 2 ≤ g.2) (2180 + 768 * 2 ^ k)
    (fun i g => ([(8, .int .i64 (i : Nat)), (7, .ptr 1 0), (1, .int .i64 lp), (0, .int .i64 lc)], chM (List.replicate i 1024#16) g.1 ++ n7B lc lp pb (List.replicate i 1024#16) g.1, g.2)) (none, 2) ⟨rfl, Nat.le_refl _⟩ ?_ ?_
  · exact Le.sameT (Nat.zero_le _) ⟨rfl, rfl, rfl, rfl, trivial⟩ ⟨rfl, rfl, trivial⟩ (by show ([1, 0] : List Nat).Nodup; decide)
  rintro i ⟨o, N⟩ ⟨hi, q1, q2⟩
  have q2 : 2 ≤ N := q2
  have q1 : chQ (List.replicate i 1024#16) N o := q1
  have w1 : IntKind.i64.wrap (lc + lp) = (k : Int) := by rw [hk, wrap_i64] <;> omega
  have w2 : IntKind.i64.wrap (768 * ((2 ^ k : Nat) : Int)) = ((768 * 2 ^ k : Nat) : Int) := by
    rw [show (768 : Int) * ((2 ^ k : Nat) : Int) = ((768 * 2 ^ k : Nat) : Int) by push_cast; rfl, wrap_i64] <;> omega
  have w3 : IntKind.i64.wrap (2180 + ((768 * 2 ^ k : Nat) : Int)) = ((2180 + 768 * 2 ^ k : Nat) : Int) := by
    rw [show (2180 : Int) + ((768 * 2 ^ k : Nat) : Int) = ((2180 + 768 * 2 ^ k : Nat) : Int) by push_cast; rfl, wrap_i64] <;> omega
  have w4 : IntKind.i64.wrap ((i : Int) + 1) = ((i + 1 : Nat) : Int) := by rw [wrap_i64] <;> omega
  have hT := twoOk k (by omega)
  simp (config := { maxSteps := 1000000, implicitDefEqProofs := false }) only [-List.reduceReplicate, Nat.reduceBEq, renA, renL, renM, renO, evx, evs, evp, Eng.look, cst, cst1, putd, dstOk, params, loadx, partx, loI, hiI, bltx, mmI, boxx, srcx, calx, nilx, upd, del, resv, fillA, setMany, Nat.reduceLT, Nat.reduceLeDiff, Nat.reduceEqDiff, Nat.reduceAdd, Nat.reduceMul, Nat.reduceSub, reduceIte, reduceCtorEq, if_true, if_false, ite_true, ite_false, eq_self, forall_const, implies_true, Int.reduceLT, Int.reduceLE, Int.reduceToNat, Int.reduceAdd, Int.reduceSub, Int.reduceNeg, ne_eq, Int.reduceEq, Int.reduceNe, Int.reduceBEq, Int.reduceBNe, beq_self_eq_true, bne_self_eq_false, BitVec.reduceBEq, BitVec.reduceBNe, BitVec.reduceOfInt, BitVec.reduceSetWidth, wrD, engS0, engS1, engS2, engS3, engS4, engS5, engS6, engS7, engS8, engS9, engU0, engT0, engT1, engT2, Fx.t3, Fx.t4, Fx.t5, Fx.t52, Fx.t79, Fx.t91, Fx.t132, Fx.t133, Fx.t134, Fx.en84, w1]
  refine hT.flat0 ⟨rfl, trivial⟩ (fun _ => rfl) rfl ?_
  rcases Nat.lt_or_ge i (2180 + 768 * 2 ^ k) with h | h
  · have g1 : decide ((i : Int) < ((2180 + 768 * 2 ^ k : Nat) : Int)) = true := decide_eq_true (by omega)
    rcases o with _ | ⟨n, cap, sp⟩
    · have h0 : i = 0 := by
        have : (List.replicate i 1024#16).length = 0 := by rw [show List.replicate i 1024#16 = [] from q1]; rfl
        rwa [List.length_replicate] at this
      subst h0
      have g0 : decide ((0 : Int) < ((2180 + 768 * 2 ^ k : Nat) : Int)) = true := decide_eq_true (by omega)
      have f1 : (N = 1) = False := eq_false (by omega)
      have f2 : (N + 1 = 1) = False := eq_false (by omega)
      simp (config := { maxSteps := 1000000, implicitDefEqProofs := false }) only [-List.reduceReplicate, Nat.reduceBEq, renA, renL, renM, renO, evx, evs, evp, Eng.look, cst, cst1, putd, dstOk, params, loadx, partx, loI, hiI, bltx, mmI, boxx, srcx, calx, nilx, upd, del, resv, fillA, setMany, Nat.reduceLT, Nat.reduceLeDiff, Nat.reduceEqDiff, Nat.reduceAdd, Nat.reduceMul, Nat.reduceSub, reduceIte, reduceCtorEq, if_true, if_false, ite_true, ite_false, eq_self, forall_const, implies_true, Int.reduceLT, Int.reduceLE, Int.reduceToNat, Int.reduceAdd, Int.reduceSub, Int.reduceNeg, ne_eq, Int.reduceEq, Int.reduceNe, Int.reduceBEq, Int.reduceBNe, beq_self_eq_true, bne_self_eq_false, BitVec.reduceBEq, BitVec.reduceBNe, BitVec.reduceOfInt, BitVec.reduceSetWidth, wrD, engS0, engS1, engS2, engS3, engS4, engS5, engS6, engS7, engS8, engS9, engU0, engT0, engT1, engT2, Fx.t3, Fx.t4, Fx.t5, Fx.t52, Fx.t79, Fx.t91, Fx.t132, Fx.t133, Fx.t134, Fx.en84, w2, w3, g0, chM, n7B, chA, codO, f1, f2]
      refine ⟨.inr trivial, rfl, rfl, ?_⟩
      rw [show List.take 1 ((bvs IntKind.u16 (List.replicate 1 (0 : BitVec 16))).set 0 (AV.int IntKind.u16 1024)) = bvs .u16 [1024#16] from rfl]
      refine appk_nils (k := .u16) (y := [1024#16]) (bt := 2) (by decide) (by decide) (fun h => by cases h) ?_
      intro _ cap' sp' d1 d2
      simp (config := { maxSteps := 1000000, implicitDefEqProofs := false }) only [-List.reduceReplicate, Nat.reduceBEq, renA, renL, renM, renO, evx, evs, evp, Eng.look, cst, cst1, putd, dstOk, params, loadx, partx, loI, hiI, bltx, mmI, boxx, srcx, calx, nilx, upd, del, resv, fillA, setMany, Nat.reduceLT, Nat.reduceLeDiff, Nat.reduceEqDiff, Nat.reduceAdd, Nat.reduceMul, Nat.reduceSub, reduceIte, reduceCtorEq, if_true, if_false, ite_true, ite_false, eq_self, forall_const, implies_true, Int.reduceLT, Int.reduceLE, Int.reduceToNat, Int.reduceAdd, Int.reduceSub, Int.reduceNeg, ne_eq, Int.reduceEq, Int.reduceNe, Int.reduceBEq, Int.reduceBNe, beq_self_eq_true, bne_self_eq_false, BitVec.reduceBEq, BitVec.reduceBNe, BitVec.reduceOfInt, BitVec.reduceSetWidth, wrD, engS0, engS1, engS2, engS3, engS4, engS5, engS6, engS7, engS8, engS9, engU0, engT0, engT1, engT2, Fx.t3, Fx.t4, Fx.t5, Fx.t52, Fx.t79, Fx.t91, Fx.t132, Fx.t133, Fx.t134, Fx.en84, f1, f2]
      refine UpX_normal h (some (N + 1, cap', sp'), N + 1 + 1) ⟨⟨by show 2 ≤ N + 1; omega, Nat.lt_succ_self _, d1, d2⟩, by show 2 ≤ N + 1 + 1; omega⟩ ?_
      refine Le.sameT (Nat.zero_le _) ⟨rfl, rfl, rfl, rfl, trivial⟩ (memSame_all fun x hx => ?_) (by show ([N + 1, 1, 0] : List Nat).Nodup; simp; omega)
      rcases List.mem_cons.1 hx with rfl | hx
      · rw [look_cons, if_pos rfl]; rfl
      rcases List.mem_cons.1 hx with rfl | hx
      · rw [look_cons, if_neg (by show ¬ N + 1 = 1; omega), look_cons, if_neg (by show ¬ N = 1; omega)]; rfl
      · rw [List.mem_singleton] at hx
        subst hx
        rw [look_cons, if_neg (by show ¬ N + 1 = 0; omega), look_cons, if_neg (by show ¬ N = 0; omega)]; rfl
    · obtain ⟨c1, c2, c3, c4⟩ : 2 ≤ n ∧ n < N ∧ (List.replicate i 1024#16).length + sp.length = cap ∧ cap ≤ maxI := q1
      have f1 : (N = 1) = False := eq_false (by omega)
      have f2 : (N + 1 = 1) = False := eq_false (by omega)
      have f3 : (n = 1) = False := eq_false (by omega)
      have f4 : (N = n) = False := eq_false (by omega)
      have f5 : (1 = n) = False := eq_false (by omega)
      have f6 : (0 = n) = False := eq_false (by omega)
      simp (config := { maxSteps := 1000000, implicitDefEqProofs := false }) only [-List.reduceReplicate, Nat.reduceBEq, renA, renL, renM, renO, evx, evs, evp, Eng.look, cst, cst1, putd, dstOk, params, loadx, partx, loI, hiI, bltx, mmI, boxx, srcx, calx, nilx, upd, del, resv, fillA, setMany, Nat.reduceLT, Nat.reduceLeDiff, Nat.reduceEqDiff, Nat.reduceAdd, Nat.reduceMul, Nat.reduceSub, reduceIte, reduceCtorEq, if_true, if_false, ite_true, ite_false, eq_self, forall_const, implies_true, Int.reduceLT, Int.reduceLE, Int.reduceToNat, Int.reduceAdd, Int.reduceSub, Int.reduceNeg, ne_eq, Int.reduceEq, Int.reduceNe, Int.reduceBEq, Int.reduceBNe, beq_self_eq_true, bne_self_eq_false, BitVec.reduceBEq, BitVec.reduceBNe, BitVec.reduceOfInt, BitVec.reduceSetWidth, wrD, engS0, engS1, engS2, engS3, engS4, engS5, engS6, engS7, engS8, engS9, engU0, engT0, engT1, engT2, Fx.t3, Fx.t4, Fx.t5, Fx.t52, Fx.t79, Fx.t91, Fx.t132, Fx.t133, Fx.t134, Fx.en84, w2, w3, g1, chM, n7B, chA, codO, f1, f2, f3]
      refine ⟨.inr trivial, rfl, rfl, ?_⟩
      rw [show List.take 1 ((bvs IntKind.u16 (List.replicate 1 (0 : BitVec 16))).set 0 (AV.int IntKind.u16 1024)) = bvs .u16 [1024#16] from rfl, show AV.sl n 0 i cap = AV.sl n 0 (List.replicate i 1024#16).length cap by rw [List.length_replicate]]
      refine appk_bvs (k := .u16) (x := List.replicate i 1024#16) (y := [1024#16]) (sp := sp) (cap := cap) (bt := 2) (by rw [look_cons, if_neg (by omega), look_cons, if_pos rfl]; rfl) rfl c3 c4 (by decide) (by rw [List.length_replicate, List.length_singleton]; omega) ?_
      intro cap' sp' d1 d2
      rw [show List.replicate i 1024#16 ++ [1024#16] = List.replicate (i + 1) 1024#16 from (List.replicate_succ' ..).symm] at d1 ⊢
      simp (config := { maxSteps := 1000000, implicitDefEqProofs := false }) only [-List.reduceReplicate, Nat.reduceBEq, renA, renL, renM, renO, evx, evs, evp, Eng.look, cst, cst1, putd, dstOk, params, loadx, partx, loI, hiI, bltx, mmI, boxx, srcx, calx, nilx, upd, del, resv, fillA, setMany, Nat.reduceLT, Nat.reduceLeDiff, Nat.reduceEqDiff, Nat.reduceAdd, Nat.reduceMul, Nat.reduceSub, reduceIte, reduceCtorEq, if_true, if_false, ite_true, ite_false, eq_self, forall_const, implies_true, Int.reduceLT, Int.reduceLE, Int.reduceToNat, Int.reduceAdd, Int.reduceSub, Int.reduceNeg, ne_eq, Int.reduceEq, Int.reduceNe, Int.reduceBEq, Int.reduceBNe, beq_self_eq_true, bne_self_eq_false, BitVec.reduceBEq, BitVec.reduceBNe, BitVec.reduceOfInt, BitVec.reduceSetWidth, wrD, engS0, engS1, engS2, engS3, engS4, engS5, engS6, engS7, engS8, engS9, engU0, engT0, engT1, engT2, Fx.t3, Fx.t4, Fx.t5, Fx.t52, Fx.t79, Fx.t91, Fx.t132, Fx.t133, Fx.t134, Fx.en84, f1, f2, f3, f4, f5, f6]
      refine UpX_normal h (some (N + 1, cap', sp'), N + 1 + 1) ⟨⟨by show 2 ≤ N + 1; omega, Nat.lt_succ_self _, d1, d2⟩, by show 2 ≤ N + 1 + 1; omega⟩ ?_
      refine Le.sameT (Nat.zero_le _) ⟨by show some (AV.int .i64 (IntKind.i64.wrap _)) = _; rw [w4], rfl, rfl, rfl, trivial⟩ (memSame_all fun x hx => ?_) (by show ([N + 1, 1, 0] : List Nat).Nodup; simp; omega)
      rcases List.mem_cons.1 hx with rfl | hx
      · rw [look_cons, if_pos rfl]; rfl
      rcases List.mem_cons.1 hx with rfl | hx
      · rw [look_cons, if_neg (by show ¬ N + 1 = 1; omega), look_cons, if_neg (by show ¬ N = 1; omega)]; rfl
      · rw [List.mem_singleton] at hx
        subst hx
        rw [look_cons, if_neg (by show ¬ N + 1 = 0; omega), look_cons, if_neg (by show ¬ N = 0; omega)]; rfl
  · have hi2 : i = 2180 + 768 * 2 ^ k := by omega
    subst hi2
    have g1 : decide (((2180 + 768 * 2 ^ k : Nat) : Int) < ((2180 + 768 * 2 ^ k : Nat) : Int)) = false := decide_eq_false (by omega)
    simp (config := { maxSteps := 1000000, implicitDefEqProofs := false }) only [-List.reduceReplicate, Nat.reduceBEq, renA, renL, renM, renO, evx, evs, evp, Eng.look, cst, cst1, putd, dstOk, params, loadx, partx, loI, hiI, bltx, mmI, boxx, srcx, calx, nilx, upd, del, resv, fillA, setMany, Nat.reduceLT, Nat.reduceLeDiff, Nat.reduceEqDiff, Nat.reduceAdd, Nat.reduceMul, Nat.reduceSub, reduceIte, reduceCtorEq, if_true, if_false, ite_true, ite_false, eq_self, forall_const, implies_true, Int.reduceLT, Int.reduceLE, Int.reduceToNat, Int.reduceAdd, Int.reduceSub, Int.reduceNeg, ne_eq, Int.reduceEq, Int.reduceNe, Int.reduceBEq, Int.reduceBNe, beq_self_eq_true, bne_self_eq_false, BitVec.reduceBEq, BitVec.reduceBNe, BitVec.reduceOfInt, BitVec.reduceSetWidth, wrD, engS0, engS1, engS2, engS3, engS4, engS5, engS6, engS7, engS8, engS9, engU0, engT0, engT1, engT2, Fx.t3, Fx.t4, Fx.t5, Fx.t52, Fx.t79, Fx.t91, Fx.t132, Fx.t133, Fx.t134, Fx.en84, w2, w3, g1]
    have hnd : ((chM (List.replicate (2180 + 768 * 2 ^ k) 1024#16) o ++ n7B lc lp pb (List.replicate (2180 + 768 * 2 ^ k) 1024#16) o).map fun p => p.1).Nodup := by
      rcases o with _ | ⟨n, cap, sp⟩
      · show ([1, 0] : List Nat).Nodup; decide
      · have hn : 2 ≤ n := q1.1
        show ([n, 1, 0] : List Nat).Nodup
        simp; omega
    exact Fin.keep (Nat.zero_le _) (memSame_slf hnd) hnd ⟨o, q1, rfl, rfl, q2⟩
end Go.Proofs.Ytmnbbpckglppjaa
