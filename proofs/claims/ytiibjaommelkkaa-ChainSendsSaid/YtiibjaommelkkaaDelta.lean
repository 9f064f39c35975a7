/- Delta's coder keeps the last 256 bytes: what it makes of bytes is told by the bytes a distance back. -/
import Derived.Test.YtiibjaommelkkaaEng19
import Derived.Test.YtiibjaommelkkaaEng26
import Derived.Test.YtiibjaommelkkaaEng13
import Derived.Test.YtiibjaommelkkaaFx
set_option linter.unusedVariables false
set_option linter.unusedSimpArgs false
set_option maxRecDepth 100000
namespace Go.Proofs.Ytiibjaommelkkaa
open Go Go.Eng

abbrev Step := BitVec 8 → BitVec 8 → BitVec 8 × BitVec 8
/-- what is kept at each place -/
def kp (f : Step) (b : List (BitVec 8)) (d : Nat) (i : Nat) : BitVec 8 :=
  (f (b.getD i 0) (if h : 0 < d ∧ d ≤ i then kp f b d (i - d) else 0)).2
termination_by i
decreasing_by omega
def old (f : Step) (b : List (BitVec 8)) (d : Nat) (i : Nat) : BitVec 8 := if 0 < d ∧ d ≤ i then kp f b d (i - d) else 0
theorem kp_eq (f : Step) (b : List (BitVec 8)) (d : Nat) (i : Nat) : kp f b d i = (f (b.getD i 0) (old f b d i)).2 := by
  rw [kp, old]
  congr 2
/-- what is told at each place -/
def ot (f : Step) (b : List (BitVec 8)) (d : Nat) (i : Nat) : BitVec 8 := (f (b.getD i 0) (old f b d i)).1
def outs (f : Step) (b : List (BitVec 8)) (d n : Nat) : List (BitVec 8) := (List.range b.length).map fun i => if i < n then ot f b d i else 0
def past (K : Nat → BitVec 8) (n : Nat) : List (BitVec 8) := (List.range 256).map fun j => if j < n then K (j + 256 * ((n - 1 - j) / 256)) else 0
theorem outs_len (f : Step) (b : List (BitVec 8)) (d n : Nat) : (outs f b d n).length = b.length := by simp [outs]
theorem outs_0 (f : Step) (b : List (BitVec 8)) (d : Nat) : outs f b d 0 = List.replicate b.length 0 := by simp [outs, List.map_const']
theorem outs_set (f : Step) (b : List (BitVec 8)) (d n : Nat) : (outs f b d n).set n (ot f b d n) = outs f b d (n + 1) := by
  apply List.ext_getElem
  · simp [outs]
  · intro i h1 h2
    simp only [outs, List.getElem_set, List.getElem_map, List.getElem_range]
    split
    · rename_i e; subst e; simp
    · rename_i e
      have : i < n + 1 ↔ i < n := by omega
      simp only [this]
theorem past_len (K : Nat → BitVec 8) (n : Nat) : (past K n).length = 256 := by simp [past]
theorem past_0 (K : Nat → BitVec 8) : past K 0 = List.replicate 256 0 := by simp [past, List.map_const']
theorem past_set (K : Nat → BitVec 8) (n : Nat) : (past K n).set (BitVec.ofNat 8 n).toNat (K n) = past K (n + 1) := by
  rw [BitVec.toNat_ofNat]
  apply List.ext_getElem
  · simp [past]
  · intro j h1 h2
    have hj : j < 256 := by simpa [past] using h2
    simp only [past, List.getElem_set, List.getElem_map, List.getElem_range]
    split
    · rename_i e
      have e' : n % 256 = j := e
      have h3 : j < n + 1 := by omega
      rw [if_pos h3]
      congr 1
      omega
    · rename_i e
      have e' : n % 256 ≠ j := e
      by_cases h3 : j < n
      · have h4 : j < n + 1 := by omega
        rw [if_pos h3, if_pos h4]
        congr 3
        omega
      · have h4 : ¬ j < n + 1 := by omega
        rw [if_neg h3, if_neg h4]
theorem past_get (K : Nat → BitVec 8) (n d : Nat) (h1 : 1 ≤ d) (h2 : d ≤ 256) : (past K n).getD (BitVec.ofNat 8 n - BitVec.ofNat 8 d).toNat 0 = if 0 < d ∧ d ≤ n then K (n - d) else 0 := by
  have hx : (BitVec.ofNat 8 n - BitVec.ofNat 8 d).toNat = (n + 256 - d) % 256 := by
    rw [BitVec.toNat_sub, BitVec.toNat_ofNat, BitVec.toNat_ofNat]
    omega
  rw [hx, List.getD_eq_getElem?_getD, List.getElem?_eq_getElem (by rw [past_len]; omega)]
  simp only [past, List.getElem_map, List.getElem_range, Option.getD_some]
  by_cases h : d ≤ n
  · have g1 : (n + 256 - d) % 256 < n := by omega
    rw [if_pos g1, if_pos ⟨by omega, h⟩]
    congr 1
    omega
  · have g1 : ¬ (n + 256 - d) % 256 < n := by omega
    rw [if_neg g1, if_neg (by omega)]
def encS : Step := fun x o => (x - o, x)
def decS : Step := fun x o => (x + o, x + o)
/-- a step's contract -/
def StepOk (g : FuncId) (f : Step) : Prop := ∀ x o : BitVec 8, CallOk Try.prog g [.int .u8 (x.toNat : Int), .int .u8 (o.toNat : Int)] (fun _ => true) [] 0 fun v m nx => v = .tup [.int .u8 ((f x o).1.toNat : Int), .int .u8 ((f x o).2.toNat : Int)] ∧ m = [] ∧ nx = 0
theorem encStep : StepOk 57 encS := fun x o => by
  refine fn_ok Try.func57 rfl (by show 2 ≤ 10; decide) ?_
  simp (config := { maxSteps := 1000000, implicitDefEqProofs := false }) only [-List.reduceReplicate, Nat.reduceBEq, renA, renL, renM, renO, evx, evs, evp, Eng.look, cst, cst1, putd, dstOk, params, loadx, partx, loI, hiI, bltx, mmI, boxx, srcx, calx, nilx, upd, del, resv, fillA, setMany, Nat.reduceLT, Nat.reduceLeDiff, Nat.reduceEqDiff, Nat.reduceAdd, Nat.reduceMul, Nat.reduceSub, reduceIte, reduceCtorEq, if_true, if_false, ite_true, ite_false, eq_self, forall_const, implies_true, Int.reduceLT, Int.reduceLE, Int.reduceToNat, Int.reduceAdd, Int.reduceSub, Int.reduceNeg, ne_eq, Int.reduceEq, Int.reduceNe, Int.reduceBEq, Int.reduceBNe, beq_self_eq_true, bne_self_eq_false, BitVec.reduceBEq, BitVec.reduceBNe, BitVec.reduceOfInt, BitVec.reduceSetWidth, wrD, engS0, engS1, engS2, engS3, engS4, engS5, engS6, engS7, engS8, engS9, engT0, engT1, engT2, Fx.t5, Try.results57, Try.ntmps57]
  exact Fin.flatv (fun _ => rfl) (fun f => rfl) ⟨rfl, rfl, rfl⟩
theorem decStep : StepOk 58 decS := fun x o => by
  refine fn_ok Try.func58 rfl (by show 2 ≤ _; decide) ?_
  simp (config := { maxSteps := 1000000, implicitDefEqProofs := false }) only [-List.reduceReplicate, Nat.reduceBEq, renA, renL, renM, renO, evx, evs, evp, Eng.look, cst, cst1, putd, dstOk, params, loadx, partx, loI, hiI, bltx, mmI, boxx, srcx, calx, nilx, upd, del, resv, fillA, setMany, Nat.reduceLT, Nat.reduceLeDiff, Nat.reduceEqDiff, Nat.reduceAdd, Nat.reduceMul, Nat.reduceSub, reduceIte, reduceCtorEq, if_true, if_false, ite_true, ite_false, eq_self, forall_const, implies_true, Int.reduceLT, Int.reduceLE, Int.reduceToNat, Int.reduceAdd, Int.reduceSub, Int.reduceNeg, ne_eq, Int.reduceEq, Int.reduceNe, Int.reduceBEq, Int.reduceBNe, beq_self_eq_true, bne_self_eq_false, BitVec.reduceBEq, BitVec.reduceBNe, BitVec.reduceOfInt, BitVec.reduceSetWidth, wrD, engS0, engS1, engS2, engS3, engS4, engS5, engS6, engS7, engS8, engS9, engT0, engT1, engT2, Fx.t5, Try.results58, Try.ntmps58]
  exact Fin.flatv (fun _ => rfl) (fun f => rfl) ⟨rfl, rfl, rfl⟩
/-- what the coder answers -/
def CodeR (f : Step) (b : List (BitVec 8)) (d : Int) : Kv := fun v m nx =>
  if d < 1 ∨ 256 < d then v = .tup [.nils, .int .i64 1] ∧ m = [] ∧ nx = 0
  else v = .tup [.sl 0 0 b.length b.length, .int .i64 0] ∧ m = [(0, .cells (bvs .u8 (outs f b d.toNat b.length)) 5)] ∧ nx = 1
set_option maxHeartbeats 400000 in
theorem codeOk (g : FuncId) (f : Step) (hen : enters Try.prog g = true) (hf : StepOk g f) (b : List (BitVec 8)) (hb : b.length ≤ 1000000) (d : Int) (hd1 : -9223372036854775808 ≤ d) (hd2 : d < 9223372036854775808) :
    CallOk Try.prog 56 [.ro b.length (bvs .u8 b), .int .i64 d, .fn (.func g) [] []] (fun _ => true) [] 0 (CodeR f b d) := by
  refine fn_ok Try.func56 rfl (by show 3 ≤ 48; decide) ?_
  rcases Decidable.em (d < 1) with h1 | h1
  · have e1 : decide (d < 1) = true := by simpa using h1
    simp (config := { maxSteps := 1000000, implicitDefEqProofs := false }) only [-List.reduceReplicate, Nat.reduceBEq, renA, renL, renM, renO, evx, evs, evp, Eng.look, cst, cst1, putd, dstOk, params, loadx, partx, loI, hiI, bltx, mmI, boxx, srcx, calx, nilx, upd, del, resv, fillA, setMany, Nat.reduceLT, Nat.reduceLeDiff, Nat.reduceEqDiff, Nat.reduceAdd, Nat.reduceMul, Nat.reduceSub, reduceIte, reduceCtorEq, if_true, if_false, ite_true, ite_false, eq_self, forall_const, implies_true, Int.reduceLT, Int.reduceLE, Int.reduceToNat, Int.reduceAdd, Int.reduceSub, Int.reduceNeg, ne_eq, Int.reduceEq, Int.reduceNe, Int.reduceBEq, Int.reduceBNe, beq_self_eq_true, bne_self_eq_false, BitVec.reduceBEq, BitVec.reduceBNe, BitVec.reduceOfInt, BitVec.reduceSetWidth, wrD, engS0, engS1, engS2, engS3, engS4, engS5, engS6, engS7, engS8, engS9, engT0, engT1, engT2, Fx.t1, Fx.t3, Fx.t4, Fx.t5, Fx.t22, Fx.t24, Fx.t74, Fx.t97, Fx.t98, Try.results56, Try.ntmps56, e1]
    refine Fin.flatv (fun _ => rfl) (fun f => rfl) ?_
    simp only [CodeR, h1, true_or, if_true, and_self]
  have e1 : decide (d < 1) = false := by simpa using h1
  rcases Decidable.em (256 < d) with h2 | h2
  · have e2 : decide (d > 256) = true := by simpa using h2
    simp (config := { maxSteps := 1000000, implicitDefEqProofs := false }) only [-List.reduceReplicate, Nat.reduceBEq, renA, renL, renM, renO, evx, evs, evp, Eng.look, cst, cst1, putd, dstOk, params, loadx, partx, loI, hiI, bltx, mmI, boxx, srcx, calx, nilx, upd, del, resv, fillA, setMany, Nat.reduceLT, Nat.reduceLeDiff, Nat.reduceEqDiff, Nat.reduceAdd, Nat.reduceMul, Nat.reduceSub, reduceIte, reduceCtorEq, if_true, if_false, ite_true, ite_false, eq_self, forall_const, implies_true, Int.reduceLT, Int.reduceLE, Int.reduceToNat, Int.reduceAdd, Int.reduceSub, Int.reduceNeg, ne_eq, Int.reduceEq, Int.reduceNe, Int.reduceBEq, Int.reduceBNe, beq_self_eq_true, bne_self_eq_false, BitVec.reduceBEq, BitVec.reduceBNe, BitVec.reduceOfInt, BitVec.reduceSetWidth, wrD, engS0, engS1, engS2, engS3, engS4, engS5, engS6, engS7, engS8, engS9, engT0, engT1, engT2, Fx.t1, Fx.t3, Fx.t4, Fx.t5, Fx.t22, Fx.t24, Fx.t74, Fx.t97, Fx.t98, Try.results56, Try.ntmps56, e1, e2]
    refine Fin.flatv (fun _ => rfl) (fun f => rfl) ?_
    simp only [CodeR, h2, or_true, if_true, and_self]
  have e2 : decide (d > 256) = false := by simpa using h2
  obtain ⟨dn, hdn⟩ : ∃ dn : Nat, d = (dn : Int) := ⟨d.toNat, by omega⟩
  subst hdn
  simp (config := { maxSteps := 1000000, implicitDefEqProofs := false }) only [-List.reduceReplicate, Nat.reduceBEq, renA, renL, renM, renO, evx, evs, evp, Eng.look, cst, cst1, putd, dstOk, params, loadx, partx, loI, hiI, bltx, mmI, boxx, srcx, calx, nilx, upd, del, resv, fillA, setMany, Nat.reduceLT, Nat.reduceLeDiff, Nat.reduceEqDiff, Nat.reduceAdd, Nat.reduceMul, Nat.reduceSub, reduceIte, reduceCtorEq, if_true, if_false, ite_true, ite_false, eq_self, forall_const, implies_true, Int.reduceLT, Int.reduceLE, Int.reduceToNat, Int.reduceAdd, Int.reduceSub, Int.reduceNeg, ne_eq, Int.reduceEq, Int.reduceNe, Int.reduceBEq, Int.reduceBNe, beq_self_eq_true, bne_self_eq_false, BitVec.reduceBEq, BitVec.reduceBNe, BitVec.reduceOfInt, BitVec.reduceSetWidth, wrD, engS0, engS1, engS2, engS3, engS4, engS5, engS6, engS7, engS8, engS9, engT0, engT1, engT2, Fx.t1, Fx.t3, Fx.t4, Fx.t5, Fx.t22, Fx.t24, Fx.t74, Fx.t97, Fx.t98, Try.results56, Try.ntmps56, e1, e2]
  refine ⟨by omega, ?_⟩
  refine LoopOk.up b.length (fun n => ([(23, .int .i64 n), (22, .int .i64 b.length), (21, .ro b.length (bvs .u8 b)), (9, .sl 1 0 b.length b.length), (8, .ptr 0 0), (1, .int .i64 dn), (2, .fn (.func g) [] [])], [(1, .cells (bvs .u8 (outs f b dn n)) 5), (0, .cells (bvs .u8 (past (kp f b dn) n)) 98)], 2)) (Le.sameT (by decide) (by simp only [-List.reduceReplicate, slotsSame, Eng.look, Nat.reduceEqDiff, outs_0, past_0, reduceIte, reduceCtorEq, if_true, if_false, eq_self, true_and, and_true, Option.some.injEq, AV.int.injEq]; (try simp (disch := omega) only [wrap_i64]); (try simp [-List.reduceReplicate]); (try omega)) (by simp only [-List.reduceReplicate, memSame, Eng.look, Nat.reduceEqDiff, outs_0, past_0, reduceIte, reduceCtorEq, if_true, if_false, eq_self, true_and, and_true, Option.some.injEq, AObj.cells.injEq, bvs_rep8, bvs_rep16, bvs_rep32, bvs_rep64, bvs_flat_rep, Nat.reduceMul, bvs_append, List.replicate_append_replicate, Nat.reduceAdd, bvs_inj]; try simp [-List.reduceReplicate]) (by simp [-List.reduceReplicate])) ?_
  intro n hn
  simp (config := { maxSteps := 1000000, implicitDefEqProofs := false }) only [-List.reduceReplicate, Nat.reduceBEq, renA, renL, renM, renO, evx, evs, evp, Eng.look, cst, cst1, putd, dstOk, params, loadx, partx, loI, hiI, bltx, mmI, boxx, srcx, calx, nilx, upd, del, resv, fillA, setMany, Nat.reduceLT, Nat.reduceLeDiff, Nat.reduceEqDiff, Nat.reduceAdd, Nat.reduceMul, Nat.reduceSub, reduceIte, reduceCtorEq, if_true, if_false, ite_true, ite_false, eq_self, forall_const, implies_true, Int.reduceLT, Int.reduceLE, Int.reduceToNat, Int.reduceAdd, Int.reduceSub, Int.reduceNeg, ne_eq, Int.reduceEq, Int.reduceNe, Int.reduceBEq, Int.reduceBNe, beq_self_eq_true, bne_self_eq_false, BitVec.reduceBEq, BitVec.reduceBNe, BitVec.reduceOfInt, BitVec.reduceSetWidth, wrD, engS0, engS1, engS2, engS3, engS4, engS5, engS6, engS7, engS8, engS9, engT0, engT1, engT2, Fx.t1, Fx.t3, Fx.t4, Fx.t5, Fx.t22, Fx.t24, Fx.t74, Fx.t97, Fx.t98]
  refine cndv_split (fun h => ?_) (fun h => ?_)
  · have h' : n < b.length := by simpa using h
    have wi : IntKind.i64.wrap ((n : Int) - (dn : Int)) = (n : Int) - (dn : Int) := by rw [wrap_i64] <;> omega
    have hg : (past (kp f b dn) n).getD (BitVec.ofNat 8 n - BitVec.ofNat 8 dn).toNat 0 = old f b dn n := past_get (kp f b dn) n dn (by omega) (by omega)
    simp (config := { maxSteps := 1000000, implicitDefEqProofs := false }) only [-List.reduceReplicate, Nat.reduceBEq, renA, renL, renM, renO, evx, evs, evp, Eng.look, cst, cst1, putd, dstOk, params, loadx, partx, loI, hiI, bltx, mmI, boxx, srcx, calx, nilx, upd, del, resv, fillA, setMany, Nat.reduceLT, Nat.reduceLeDiff, Nat.reduceEqDiff, Nat.reduceAdd, Nat.reduceMul, Nat.reduceSub, reduceIte, reduceCtorEq, if_true, if_false, ite_true, ite_false, eq_self, forall_const, implies_true, Int.reduceLT, Int.reduceLE, Int.reduceToNat, Int.reduceAdd, Int.reduceSub, Int.reduceNeg, ne_eq, Int.reduceEq, Int.reduceNe, Int.reduceBEq, Int.reduceBNe, beq_self_eq_true, bne_self_eq_false, BitVec.reduceBEq, BitVec.reduceBNe, BitVec.reduceOfInt, BitVec.reduceSetWidth, wrD, engS0, engS1, engS2, engS3, engS4, engS5, engS6, engS7, engS8, engS9, engT0, engT1, engT2, Fx.t1, Fx.t3, Fx.t4, Fx.t5, Fx.t22, Fx.t24, Fx.t74, Fx.t97, Fx.t98, hen, wi, hg, past_len, List.length_drop]
    refine ⟨by omega, h', by omega, ?_⟩
    refine (hf (b.getD n 0) (old f b dn n)).flatv (by simp only [argsx, argx_int, argx_bool, argx_fn, argx_ro, argx_nils, eq_self, true_and, and_true, and_self]; try trivial) (fun _ => rfl) rfl ?_
    have hs1 : (outs f b dn n).set n (f (b.getD n 0) (old f b dn n)).1 = outs f b dn (n + 1) := outs_set f b dn n
    have hs2 : (past (kp f b dn) n).set (BitVec.ofNat 8 n).toNat (f (b.getD n 0) (old f b dn n)).2 = past (kp f b dn) (n + 1) := by rw [← kp_eq]; exact past_set (kp f b dn) n
    simp (config := { maxSteps := 1000000, implicitDefEqProofs := false }) only [-List.reduceReplicate, Nat.reduceBEq, renA, renL, renM, renO, evx, evs, evp, Eng.look, cst, cst1, putd, dstOk, params, loadx, partx, loI, hiI, bltx, mmI, boxx, srcx, calx, nilx, upd, del, resv, fillA, setMany, Nat.reduceLT, Nat.reduceLeDiff, Nat.reduceEqDiff, Nat.reduceAdd, Nat.reduceMul, Nat.reduceSub, reduceIte, reduceCtorEq, if_true, if_false, ite_true, ite_false, eq_self, forall_const, implies_true, Int.reduceLT, Int.reduceLE, Int.reduceToNat, Int.reduceAdd, Int.reduceSub, Int.reduceNeg, ne_eq, Int.reduceEq, Int.reduceNe, Int.reduceBEq, Int.reduceBNe, beq_self_eq_true, bne_self_eq_false, BitVec.reduceBEq, BitVec.reduceBNe, BitVec.reduceOfInt, BitVec.reduceSetWidth, wrD, engS0, engS1, engS2, engS3, engS4, engS5, engS6, engS7, engS8, engS9, engT0, engT1, engT2, Fx.t1, Fx.t3, Fx.t4, Fx.t5, Fx.t22, Fx.t24, Fx.t74, Fx.t97, Fx.t98, outs_len, past_len, hs1, hs2]
    refine ⟨by omega, by omega, by have := (BitVec.ofNat 8 n).isLt; omega, UpK_normal h' (Le.sameT (by decide) (by simp only [-List.reduceReplicate, slotsSame, Eng.look, Nat.reduceEqDiff, reduceIte, reduceCtorEq, if_true, if_false, eq_self, true_and, and_true, Option.some.injEq, AV.int.injEq]; (try simp (disch := omega) only [wrap_i64]); (try simp [-List.reduceReplicate]); (try omega)) (by simp only [-List.reduceReplicate, memSame, Eng.look, Nat.reduceEqDiff, reduceIte, reduceCtorEq, if_true, if_false, eq_self, true_and, and_true, Option.some.injEq, AObj.cells.injEq, bvs_rep8, bvs_rep16, bvs_rep32, bvs_rep64, bvs_flat_rep, Nat.reduceMul, bvs_append, List.replicate_append_replicate, Nat.reduceAdd, bvs_inj]; try simp [-List.reduceReplicate]) (by simp [-List.reduceReplicate]))⟩
  · have h' : n = b.length := by simp at h; omega
    subst h'
    simp (config := { maxSteps := 1000000, implicitDefEqProofs := false }) only [-List.reduceReplicate, Nat.reduceBEq, renA, renL, renM, renO, evx, evs, evp, Eng.look, cst, cst1, putd, dstOk, params, loadx, partx, loI, hiI, bltx, mmI, boxx, srcx, calx, nilx, upd, del, resv, fillA, setMany, Nat.reduceLT, Nat.reduceLeDiff, Nat.reduceEqDiff, Nat.reduceAdd, Nat.reduceMul, Nat.reduceSub, reduceIte, reduceCtorEq, if_true, if_false, ite_true, ite_false, eq_self, forall_const, implies_true, Int.reduceLT, Int.reduceLE, Int.reduceToNat, Int.reduceAdd, Int.reduceSub, Int.reduceNeg, ne_eq, Int.reduceEq, Int.reduceNe, Int.reduceBEq, Int.reduceBNe, beq_self_eq_true, bne_self_eq_false, BitVec.reduceBEq, BitVec.reduceBNe, BitVec.reduceOfInt, BitVec.reduceSetWidth, wrD, engS0, engS1, engS2, engS3, engS4, engS5, engS6, engS7, engS8, engS9, engT0, engT1, engT2, Fx.t1, Fx.t3, Fx.t4, Fx.t5, Fx.t22, Fx.t24, Fx.t74, Fx.t97, Fx.t98]
    have hno : ¬ ((dn : Int) < 1 ∨ 256 < (dn : Int)) := by omega
    refine ⟨[(0, 1)], .tup [.sl 0 0 b.length b.length, .int .i64 0], [(0, .cells (bvs .u8 (outs f b dn b.length)) 5)], 1, ⟨rfl, by decide⟩, rfl, ⟨by simp only [renO, bvs_ren]; rfl, rfl, trivial⟩, by simp [injOn], (fun n e => by cases e), ?_⟩
    simp only [CodeR, if_neg hno, Int.toNat_natCast, and_self]
theorem encodeOk (b : List (BitVec 8)) (hb : b.length ≤ 1000000) (d : Int) (hd1 : -9223372036854775808 ≤ d) (hd2 : d < 9223372036854775808) :
    CallOk Try.prog 16 [.ro b.length (bvs .u8 b), .int .i64 d] (fun _ => true) [] 0 (CodeR encS b d) := by
  refine fn_ok Try.func16 rfl (by show 2 ≤ _; decide) ?_
  simp (config := { maxSteps := 1000000, implicitDefEqProofs := false }) only [-List.reduceReplicate, Nat.reduceBEq, renA, renL, renM, renO, evx, evs, evp, Eng.look, cst, cst1, putd, dstOk, params, loadx, partx, loI, hiI, bltx, mmI, boxx, srcx, calx, nilx, upd, del, resv, fillA, setMany, Nat.reduceLT, Nat.reduceLeDiff, Nat.reduceEqDiff, Nat.reduceAdd, Nat.reduceMul, Nat.reduceSub, reduceIte, reduceCtorEq, if_true, if_false, ite_true, ite_false, eq_self, forall_const, implies_true, Int.reduceLT, Int.reduceLE, Int.reduceToNat, Int.reduceAdd, Int.reduceSub, Int.reduceNeg, ne_eq, Int.reduceEq, Int.reduceNe, Int.reduceBEq, Int.reduceBNe, beq_self_eq_true, bne_self_eq_false, BitVec.reduceBEq, BitVec.reduceBNe, BitVec.reduceOfInt, BitVec.reduceSetWidth, wrD, engS0, engS1, engS2, engS3, engS4, engS5, engS6, engS7, engS8, engS9, engT0, engT1, engT2, Fx.t1, Fx.t3, Fx.t5, Fx.t22, Fx.t24, Fx.t74, Fx.en56, Fx.en57, Try.results16, Try.ntmps16]
  refine (codeOk 57 encS Fx.en57 encStep b hb d hd1 hd2).more (by simp only [argsx, argx_int, argx_bool, argx_fn, argx_ro, argx_nils, eq_self, true_and, and_true, and_self]; try trivial) ?_
  intro v m' nx' hR
  rcases Decidable.em (d < 1 ∨ 256 < d) with h | h
  · simp only [CodeR, if_pos h] at hR
    obtain ⟨rfl, rfl, rfl⟩ := hR
    refine ⟨rfl, rfl, ?_⟩
    simp (config := { maxSteps := 1000000, implicitDefEqProofs := false }) only [-List.reduceReplicate, Nat.reduceBEq, renA, renL, renM, renO, evx, evs, evp, Eng.look, cst, cst1, putd, dstOk, params, loadx, partx, loI, hiI, bltx, mmI, boxx, srcx, calx, nilx, upd, del, resv, fillA, setMany, Nat.reduceLT, Nat.reduceLeDiff, Nat.reduceEqDiff, Nat.reduceAdd, Nat.reduceMul, Nat.reduceSub, reduceIte, reduceCtorEq, if_true, if_false, ite_true, ite_false, eq_self, forall_const, implies_true, Int.reduceLT, Int.reduceLE, Int.reduceToNat, Int.reduceAdd, Int.reduceSub, Int.reduceNeg, ne_eq, Int.reduceEq, Int.reduceNe, Int.reduceBEq, Int.reduceBNe, beq_self_eq_true, bne_self_eq_false, BitVec.reduceBEq, BitVec.reduceBNe, BitVec.reduceOfInt, BitVec.reduceSetWidth, wrD, engS0, engS1, engS2, engS3, engS4, engS5, engS6, engS7, engS8, engS9, engT0, engT1, engT2, Fx.t1, Fx.t3, Fx.t5, Fx.t22, Fx.t24, Fx.t74, Fx.en56, Fx.en57]
    refine Fin.flatv (fun _ => rfl) (fun f => rfl) ?_
    simp only [CodeR, if_pos h, and_self]
  · simp only [CodeR, if_neg h] at hR
    obtain ⟨rfl, rfl, rfl⟩ := hR
    refine ⟨rfl, by simp only [noRoM, noRoO, bvs_noRo, Bool.and_self], ?_⟩
    simp (config := { maxSteps := 1000000, implicitDefEqProofs := false }) only [-List.reduceReplicate, Nat.reduceBEq, renA, renL, renM, renO, evx, evs, evp, Eng.look, cst, cst1, putd, dstOk, params, loadx, partx, loI, hiI, bltx, mmI, boxx, srcx, calx, nilx, upd, del, resv, fillA, setMany, Nat.reduceLT, Nat.reduceLeDiff, Nat.reduceEqDiff, Nat.reduceAdd, Nat.reduceMul, Nat.reduceSub, reduceIte, reduceCtorEq, if_true, if_false, ite_true, ite_false, eq_self, forall_const, implies_true, Int.reduceLT, Int.reduceLE, Int.reduceToNat, Int.reduceAdd, Int.reduceSub, Int.reduceNeg, ne_eq, Int.reduceEq, Int.reduceNe, Int.reduceBEq, Int.reduceBNe, beq_self_eq_true, bne_self_eq_false, BitVec.reduceBEq, BitVec.reduceBNe, BitVec.reduceOfInt, BitVec.reduceSetWidth, wrD, engS0, engS1, engS2, engS3, engS4, engS5, engS6, engS7, engS8, engS9, engT0, engT1, engT2, Fx.t1, Fx.t3, Fx.t5, Fx.t22, Fx.t24, Fx.t74, Fx.en56, Fx.en57]
    refine ⟨[(0, 0)], .tup [.sl 0 0 b.length b.length, .int .i64 0], [(0, .cells (bvs .u8 (outs encS b d.toNat b.length)) 5)], 1, ⟨rfl, by decide⟩, rfl, ⟨by simp only [renO, bvs_ren]; rfl, rfl, trivial⟩, by simp [injOn], (fun n e => by cases e), ?_⟩
    simp only [CodeR, if_neg h, and_self]
theorem decodeOk (b : List (BitVec 8)) (hb : b.length ≤ 1000000) (d : Int) (hd1 : -9223372036854775808 ≤ d) (hd2 : d < 9223372036854775808) :
    CallOk Try.prog 17 [.ro b.length (bvs .u8 b), .int .i64 d] (fun _ => true) [] 0 (CodeR decS b d) := by
  refine fn_ok Try.func17 rfl (by show 2 ≤ _; decide) ?_
  simp (config := { maxSteps := 1000000, implicitDefEqProofs := false }) only [-List.reduceReplicate, Nat.reduceBEq, renA, renL, renM, renO, evx, evs, evp, Eng.look, cst, cst1, putd, dstOk, params, loadx, partx, loI, hiI, bltx, mmI, boxx, srcx, calx, nilx, upd, del, resv, fillA, setMany, Nat.reduceLT, Nat.reduceLeDiff, Nat.reduceEqDiff, Nat.reduceAdd, Nat.reduceMul, Nat.reduceSub, reduceIte, reduceCtorEq, if_true, if_false, ite_true, ite_false, eq_self, forall_const, implies_true, Int.reduceLT, Int.reduceLE, Int.reduceToNat, Int.reduceAdd, Int.reduceSub, Int.reduceNeg, ne_eq, Int.reduceEq, Int.reduceNe, Int.reduceBEq, Int.reduceBNe, beq_self_eq_true, bne_self_eq_false, BitVec.reduceBEq, BitVec.reduceBNe, BitVec.reduceOfInt, BitVec.reduceSetWidth, wrD, engS0, engS1, engS2, engS3, engS4, engS5, engS6, engS7, engS8, engS9, engT0, engT1, engT2, Fx.t1, Fx.t3, Fx.t5, Fx.t22, Fx.t24, Fx.t74, Fx.en56, Fx.en58, Try.results17, Try.ntmps17]
  refine (codeOk 58 decS Fx.en58 decStep b hb d hd1 hd2).more (by simp only [argsx, argx_int, argx_bool, argx_fn, argx_ro, argx_nils, eq_self, true_and, and_true, and_self]; try trivial) ?_
  intro v m' nx' hR
  rcases Decidable.em (d < 1 ∨ 256 < d) with h | h
  · simp only [CodeR, if_pos h] at hR
    obtain ⟨rfl, rfl, rfl⟩ := hR
    refine ⟨rfl, rfl, ?_⟩
    simp (config := { maxSteps := 1000000, implicitDefEqProofs := false }) only [-List.reduceReplicate, Nat.reduceBEq, renA, renL, renM, renO, evx, evs, evp, Eng.look, cst, cst1, putd, dstOk, params, loadx, partx, loI, hiI, bltx, mmI, boxx, srcx, calx, nilx, upd, del, resv, fillA, setMany, Nat.reduceLT, Nat.reduceLeDiff, Nat.reduceEqDiff, Nat.reduceAdd, Nat.reduceMul, Nat.reduceSub, reduceIte, reduceCtorEq, if_true, if_false, ite_true, ite_false, eq_self, forall_const, implies_true, Int.reduceLT, Int.reduceLE, Int.reduceToNat, Int.reduceAdd, Int.reduceSub, Int.reduceNeg, ne_eq, Int.reduceEq, Int.reduceNe, Int.reduceBEq, Int.reduceBNe, beq_self_eq_true, bne_self_eq_false, BitVec.reduceBEq, BitVec.reduceBNe, BitVec.reduceOfInt, BitVec.reduceSetWidth, wrD, engS0, engS1, engS2, engS3, engS4, engS5, engS6, engS7, engS8, engS9, engT0, engT1, engT2, Fx.t1, Fx.t3, Fx.t5, Fx.t22, Fx.t24, Fx.t74, Fx.en56, Fx.en58]
    refine Fin.flatv (fun _ => rfl) (fun f => rfl) ?_
    simp only [CodeR, if_pos h, and_self]
  · simp only [CodeR, if_neg h] at hR
    obtain ⟨rfl, rfl, rfl⟩ := hR
    refine ⟨rfl, by simp only [noRoM, noRoO, bvs_noRo, Bool.and_self], ?_⟩
    simp (config := { maxSteps := 1000000, implicitDefEqProofs := false }) only [-List.reduceReplicate, Nat.reduceBEq, renA, renL, renM, renO, evx, evs, evp, Eng.look, cst, cst1, putd, dstOk, params, loadx, partx, loI, hiI, bltx, mmI, boxx, srcx, calx, nilx, upd, del, resv, fillA, setMany, Nat.reduceLT, Nat.reduceLeDiff, Nat.reduceEqDiff, Nat.reduceAdd, Nat.reduceMul, Nat.reduceSub, reduceIte, reduceCtorEq, if_true, if_false, ite_true, ite_false, eq_self, forall_const, implies_true, Int.reduceLT, Int.reduceLE, Int.reduceToNat, Int.reduceAdd, Int.reduceSub, Int.reduceNeg, ne_eq, Int.reduceEq, Int.reduceNe, Int.reduceBEq, Int.reduceBNe, beq_self_eq_true, bne_self_eq_false, BitVec.reduceBEq, BitVec.reduceBNe, BitVec.reduceOfInt, BitVec.reduceSetWidth, wrD, engS0, engS1, engS2, engS3, engS4, engS5, engS6, engS7, engS8, engS9, engT0, engT1, engT2, Fx.t1, Fx.t3, Fx.t5, Fx.t22, Fx.t24, Fx.t74, Fx.en56, Fx.en58]
    refine ⟨[(0, 0)], .tup [.sl 0 0 b.length b.length, .int .i64 0], [(0, .cells (bvs .u8 (outs decS b d.toNat b.length)) 5)], 1, ⟨rfl, by decide⟩, rfl, ⟨by simp only [renO, bvs_ren]; rfl, rfl, trivial⟩, by simp [injOn], (fun n e => by cases e), ?_⟩
    simp only [CodeR, if_neg h, and_self]
end Go.Proofs.Ytiibjaommelkkaa
