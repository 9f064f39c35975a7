/- Coding bits: the bytes so far. -/
import Derived.Test.YtmnbbpckglppjaaEng19
import Derived.Test.YtmnbbpckglppjaaEng26
import Derived.Test.YtmnbbpckglppjaaRee
set_option linter.unusedVariables false
set_option linter.unusedSimpArgs false
set_option maxRecDepth 100000
namespace Go.Proofs.Ytmnbbpckglppjaa
open Go Go.Eng

def putN' (e : ES) : Nat → ES
  | 0 => e
  | n + 1 => putS (putN' e n)
def bytE (e : ES) : List (BitVec 8) := (putN' e 5).out
theorem putN_len (e : ES) : ∀ n, (putN' e n).out.length + (putN' e n).full = e.out.length + e.full + n
  | 0 => rfl
  | n + 1 => by rw [putN', (putS_len _).1, putN_len e n]; omega
theorem kp1 {o : AObj} {m : Mem} : ∀ n, decide (1 ≤ n) = false → ∃ o', Eng.look ((0, o) :: m) n = some o' := by
  intro n e
  have : n = 0 := by have := of_decide_eq_false e; omega
  subst this
  exact ⟨o, rfl⟩
theorem kp2 {o p : AObj} {m : Mem} : ∀ n, decide (2 ≤ n) = false → ∃ o', Eng.look ((0, o) :: (1, p) :: m) n = some o' := by
  intro n e
  have h := of_decide_eq_false e
  rcases n with _ | _ | n
  · exact ⟨o, rfl⟩
  · exact ⟨p, rfl⟩
  · omega
theorem kp3 {o p q : AObj} {m : Mem} : ∀ n, decide (2 ≤ n) = false → ∃ o', Eng.look ((0, o) :: (2, q) :: (1, p) :: m) n = some o' := by
  intro n e
  have h := of_decide_eq_false e
  rcases n with _ | _ | n
  · exact ⟨o, rfl⟩
  · exact ⟨p, rfl⟩
  · omega
theorem wge {a k : Nat} (h : a ≤ k) (n : Nat) (hn : k ≤ n) : decide (a ≤ n) = true := decide_eq_true (Nat.le_trans h hn)
theorem tk5 (a b c d f : AV) : List.take 5 [a, b, c, d, f] = [a, b, c, d, f] := rfl
theorem spl5 (a b c d f a' b' c' d' f' : AV) : spl [a, b, c, d, f] 0 [a', b', c', d', f'] = [a', b', c', d', f'] := rfl
theorem takeA' (X : List (BitVec 8)) (y : List AV) : List.take X.length (bvs .u8 X ++ y) = bvs .u8 X := by
  rw [List.take_append_of_le_length (by rw [bvs_length]; exact Nat.le_refl _), bvs_take, List.take_length]
theorem one1_bvs (k : IntKind) (X : List (BitVec 8)) : (bvs k X).all one1 = true := by
  induction X with
  | nil => rfl
  | cons q r ih => rw [bvs_cons, List.all_cons, ih]; rfl
/-- the bytes that are answered: a new row -/
def BytK (e : ES) (x : AV × Mem × Nat) (X : List (BitVec 8)) : Kv := fun v m nx => ∃ (cap : Nat) (sp : List Value), v = .sl x.2.2 0 X.length cap ∧ m = (0, encO x.1 e) :: (x.2.2, rowO X sp) :: x.2.1 ∧ nx = x.2.2 + 1
set_option maxHeartbeats 1000000 in
theorem bytEOk (e : ES) (hb : e.out.length + e.full + 5 ≤ 1000000) : ∀ x, encT.Start e x → CallG false Try.prog 43 [.ptr 0 0] (fun n => decide (x.2.2 ≤ n)) ((0, encO x.1 e) :: x.2.1) x.2.2 (BytK e x (bytE e)) := by
  intro x hx
  rcases hx with ⟨ho, rfl⟩ | ⟨cap, sp, rfl, c1, c2⟩
  · have ho : e.out = [] := ho
    refine fn_okG Try.func43 rfl (by show 1 ≤ _; decide) ?_
    simp (config := { maxSteps := 1000000, implicitDefEqProofs := false }) only [-List.reduceReplicate, Nat.reduceBEq, renA, renL, renM, renO, evx, evs, evp, Eng.look, cst, cst1, putd, dstOk, params, loadx, partx, loI, hiI, bltx, mmI, boxx, srcx, calx, nilx, upd, del, resv, fillA, setMany, Nat.reduceLT, Nat.reduceLeDiff, Nat.reduceEqDiff, Nat.reduceAdd, Nat.reduceMul, Nat.reduceSub, reduceIte, reduceCtorEq, if_true, if_false, ite_true, ite_false, eq_self, forall_const, implies_true, Int.reduceLT, Int.reduceLE, Int.reduceToNat, Int.reduceAdd, Int.reduceSub, Int.reduceNeg, ne_eq, Int.reduceEq, Int.reduceNe, Int.reduceBEq, Int.reduceBNe, beq_self_eq_true, bne_self_eq_false, BitVec.reduceBEq, BitVec.reduceBNe, BitVec.reduceOfInt, BitVec.reduceSetWidth, wrD, engS0, engS1, engS2, engS3, engS4, engS5, engS6, engS7, engS8, engS9, engT0, engT1, engT2, Fx.t3, Fx.t4, Fx.t5, Fx.t22, Fx.t23, Fx.t53, Fx.t65, Fx.t123, Fx.t124, Fx.en82, Try.results43, Try.ntmps43, encO, encT_out, rowO, tk5, spl5]
    refine ⟨.inl trivial, ?_⟩
    refine appk_bvs (k := .u8) (x := ([] : List (BitVec 8))) (y := ([] : List (BitVec 8))) (sp := []) rfl rfl rfl (by decide) (by decide) (by decide) ?_
    rw [show ([] : List (BitVec 8)) ++ [] = e.out from ho.symm]
    intro cap1 sp1 d1 d2
    simp (config := { maxSteps := 1000000, implicitDefEqProofs := false }) only [-List.reduceReplicate, Nat.reduceBEq, renA, renL, renM, renO, evx, evs, evp, Eng.look, cst, cst1, putd, dstOk, params, loadx, partx, loI, hiI, bltx, mmI, boxx, srcx, calx, nilx, upd, del, resv, fillA, setMany, Nat.reduceLT, Nat.reduceLeDiff, Nat.reduceEqDiff, Nat.reduceAdd, Nat.reduceMul, Nat.reduceSub, reduceIte, reduceCtorEq, if_true, if_false, ite_true, ite_false, eq_self, forall_const, implies_true, Int.reduceLT, Int.reduceLE, Int.reduceToNat, Int.reduceAdd, Int.reduceSub, Int.reduceNeg, ne_eq, Int.reduceEq, Int.reduceNe, Int.reduceBEq, Int.reduceBNe, beq_self_eq_true, bne_self_eq_false, BitVec.reduceBEq, BitVec.reduceBNe, BitVec.reduceOfInt, BitVec.reduceSetWidth, wrD, engS0, engS1, engS2, engS3, engS4, engS5, engS6, engS7, engS8, engS9, engT0, engT1, engT2, Fx.t3, Fx.t4, Fx.t5, Fx.t22, Fx.t23, Fx.t53, Fx.t65, Fx.t123, Fx.t124, Fx.en82, spl5]
    refine LoopOk.upX (fun i (z : Nat × List Value) => (putN' e i).out.length + z.2.length = z.1 ∧ z.1 ≤ maxI) 5 (fun i z => ([(16, .int .i64 i), (3, .ptr 1 0)], [(0, encO .nils e), (1, encO (.sl 3 0 (putN' e i).out.length z.1) (putN' e i)), (3, rowO (putN' e i).out z.2)], 4)) (cap1, sp1) ⟨d1, d2⟩ ?_ ?_
    · exact Le.same (by decide) ⟨rfl, rfl, trivial⟩ ⟨rfl, rfl, rfl, trivial⟩ (by simp) (fun n hn => decide_eq_true (by omega)) kp1
    rintro i ⟨cp, s2⟩ ⟨hi, q1, q2⟩
    have hpl := putN_len e i
    rcases Nat.lt_or_ge i 5 with h | h
    · have g1 : decide ((i : Int) < 5) = true := by simp; omega
      have wi : IntKind.i64.wrap ((i : Int) + 1) = ((i + 1 : Nat) : Int) := by rw [wrap_i64] <;> omega
      simp (config := { maxSteps := 1000000, implicitDefEqProofs := false }) only [-List.reduceReplicate, Nat.reduceBEq, renA, renL, renM, renO, evx, evs, evp, Eng.look, cst, cst1, putd, dstOk, params, loadx, partx, loI, hiI, bltx, mmI, boxx, srcx, calx, nilx, upd, del, resv, fillA, setMany, Nat.reduceLT, Nat.reduceLeDiff, Nat.reduceEqDiff, Nat.reduceAdd, Nat.reduceMul, Nat.reduceSub, reduceIte, reduceCtorEq, if_true, if_false, ite_true, ite_false, eq_self, forall_const, implies_true, Int.reduceLT, Int.reduceLE, Int.reduceToNat, Int.reduceAdd, Int.reduceSub, Int.reduceNeg, ne_eq, Int.reduceEq, Int.reduceNe, Int.reduceBEq, Int.reduceBNe, beq_self_eq_true, bne_self_eq_false, BitVec.reduceBEq, BitVec.reduceBNe, BitVec.reduceOfInt, BitVec.reduceSetWidth, wrD, engS0, engS1, engS2, engS3, engS4, engS5, engS6, engS7, engS8, engS9, engT0, engT1, engT2, Fx.t3, Fx.t4, Fx.t5, Fx.t22, Fx.t23, Fx.t53, Fx.t65, Fx.t123, Fx.t124, Fx.en82, g1]
      refine SlT.useS (T := encT) (a := 1) (n := 3) (args0 := []) (putOk (putN' e i) (by omega)) (fun _ => rfl) (fun _ => rfl) (by decide) rfl rfl q1 q2 rfl rfl ?_ ?_
      · intro e1
        have e2 : (putN' e (i + 1)).out = (putN' e i).out := e1
        simp (config := { maxSteps := 1000000, implicitDefEqProofs := false }) only [-List.reduceReplicate, Nat.reduceBEq, renA, renL, renM, renO, evx, evs, evp, Eng.look, cst, cst1, putd, dstOk, params, loadx, partx, loI, hiI, bltx, mmI, boxx, srcx, calx, nilx, upd, del, resv, fillA, setMany, Nat.reduceLT, Nat.reduceLeDiff, Nat.reduceEqDiff, Nat.reduceAdd, Nat.reduceMul, Nat.reduceSub, reduceIte, reduceCtorEq, if_true, if_false, ite_true, ite_false, eq_self, forall_const, implies_true, Int.reduceLT, Int.reduceLE, Int.reduceToNat, Int.reduceAdd, Int.reduceSub, Int.reduceNeg, ne_eq, Int.reduceEq, Int.reduceNe, Int.reduceBEq, Int.reduceBNe, beq_self_eq_true, bne_self_eq_false, BitVec.reduceBEq, BitVec.reduceBNe, BitVec.reduceOfInt, BitVec.reduceSetWidth, wrD, engS0, engS1, engS2, engS3, engS4, engS5, engS6, engS7, engS8, engS9, engT0, engT1, engT2, Fx.t3, Fx.t4, Fx.t5, Fx.t22, Fx.t23, Fx.t53, Fx.t65, Fx.t123, Fx.t124, Fx.en82, wi]
        refine UpX_normal h (cp, s2) ⟨by rw [e2]; exact q1, q2⟩ ?_
        dsimp only
        rw [e2]
        exact Le.same (by decide) ⟨rfl, rfl, trivial⟩ ⟨rfl, rfl, rfl, trivial⟩ (by simp) (fun n hn => decide_eq_true (by omega)) kp1
      · intro cap2 sp2 b1 b2
        simp (config := { maxSteps := 1000000, implicitDefEqProofs := false }) only [-List.reduceReplicate, Nat.reduceBEq, renA, renL, renM, renO, evx, evs, evp, Eng.look, cst, cst1, putd, dstOk, params, loadx, partx, loI, hiI, bltx, mmI, boxx, srcx, calx, nilx, upd, del, resv, fillA, setMany, Nat.reduceLT, Nat.reduceLeDiff, Nat.reduceEqDiff, Nat.reduceAdd, Nat.reduceMul, Nat.reduceSub, reduceIte, reduceCtorEq, if_true, if_false, ite_true, ite_false, eq_self, forall_const, implies_true, Int.reduceLT, Int.reduceLE, Int.reduceToNat, Int.reduceAdd, Int.reduceSub, Int.reduceNeg, ne_eq, Int.reduceEq, Int.reduceNe, Int.reduceBEq, Int.reduceBNe, beq_self_eq_true, bne_self_eq_false, BitVec.reduceBEq, BitVec.reduceBNe, BitVec.reduceOfInt, BitVec.reduceSetWidth, wrD, engS0, engS1, engS2, engS3, engS4, engS5, engS6, engS7, engS8, engS9, engT0, engT1, engT2, Fx.t3, Fx.t4, Fx.t5, Fx.t22, Fx.t23, Fx.t53, Fx.t65, Fx.t123, Fx.t124, Fx.en82, wi]
        refine UpX_normal h (cap2, sp2) ⟨b1, b2⟩ ?_
        exact ⟨[(3, 4)], rfl, (by show _ ≤ 4; decide), ⟨rfl, rfl, trivial⟩, ⟨rfl, rfl, rfl, rfl, by rw [rowO_ren]; rfl, rfl, trivial⟩, by simp [injOn, rf, Eng.look], kp1, wge (k := 4) (by decide)⟩
    · have hi' : i = 5 := by omega
      subst hi'
      simp (config := { maxSteps := 1000000, implicitDefEqProofs := false }) only [-List.reduceReplicate, Nat.reduceBEq, renA, renL, renM, renO, evx, evs, evp, Eng.look, cst, cst1, putd, dstOk, params, loadx, partx, loI, hiI, bltx, mmI, boxx, srcx, calx, nilx, upd, del, resv, fillA, setMany, Nat.reduceLT, Nat.reduceLeDiff, Nat.reduceEqDiff, Nat.reduceAdd, Nat.reduceMul, Nat.reduceSub, reduceIte, reduceCtorEq, if_true, if_false, ite_true, ite_false, eq_self, forall_const, implies_true, Int.reduceLT, Int.reduceLE, Int.reduceToNat, Int.reduceAdd, Int.reduceSub, Int.reduceNeg, ne_eq, Int.reduceEq, Int.reduceNe, Int.reduceBEq, Int.reduceBNe, beq_self_eq_true, bne_self_eq_false, BitVec.reduceBEq, BitVec.reduceBNe, BitVec.reduceOfInt, BitVec.reduceSetWidth, wrD, engS0, engS1, engS2, engS3, engS4, engS5, engS6, engS7, engS8, engS9, engT0, engT1, engT2, Fx.t3, Fx.t4, Fx.t5, Fx.t22, Fx.t23, Fx.t53, Fx.t65, Fx.t123, Fx.t124, Fx.en82, encO]
      refine ⟨[(1, 3)], .sl 1 0 (bytE e).length cp, (0, encO .nils e) :: (1, rowO (bytE e) s2) :: [], 2, ⟨rfl, by decide⟩, rfl, ?_, by simp [injOn, rf, Eng.look], kp1, cp, s2, rfl, rfl, rfl⟩
      exact ⟨rfl, rfl, by rw [rowO_ren]; rfl, rfl, trivial⟩
  · refine fn_okG Try.func43 rfl (by show 1 ≤ _; decide) ?_
    simp (config := { maxSteps := 1000000, implicitDefEqProofs := false }) only [-List.reduceReplicate, Nat.reduceBEq, renA, renL, renM, renO, evx, evs, evp, Eng.look, cst, cst1, putd, dstOk, params, loadx, partx, loI, hiI, bltx, mmI, boxx, srcx, calx, nilx, upd, del, resv, fillA, setMany, Nat.reduceLT, Nat.reduceLeDiff, Nat.reduceEqDiff, Nat.reduceAdd, Nat.reduceMul, Nat.reduceSub, reduceIte, reduceCtorEq, if_true, if_false, ite_true, ite_false, eq_self, forall_const, implies_true, Int.reduceLT, Int.reduceLE, Int.reduceToNat, Int.reduceAdd, Int.reduceSub, Int.reduceNeg, ne_eq, Int.reduceEq, Int.reduceNe, Int.reduceBEq, Int.reduceBNe, beq_self_eq_true, bne_self_eq_false, BitVec.reduceBEq, BitVec.reduceBNe, BitVec.reduceOfInt, BitVec.reduceSetWidth, wrD, engS0, engS1, engS2, engS3, engS4, engS5, engS6, engS7, engS8, engS9, engT0, engT1, engT2, Fx.t3, Fx.t4, Fx.t5, Fx.t22, Fx.t23, Fx.t53, Fx.t65, Fx.t123, Fx.t124, Fx.en82, Try.results43, Try.ntmps43, encO, encT_out, rowO, tk5, spl5]
    refine ⟨.inl trivial, by rw [takeA', bvs_length], by rw [takeA']; exact one1_bvs _ _, ?_⟩
    rw [takeA']
    refine appk_bvs (x := ([] : List (BitVec 8))) (y := e.out) (sp := []) rfl rfl rfl (by decide) (by decide) (by simp; omega) ?_
    rw [List.nil_append]
    intro cap1 sp1 d1 d2
    simp (config := { maxSteps := 1000000, implicitDefEqProofs := false }) only [-List.reduceReplicate, Nat.reduceBEq, renA, renL, renM, renO, evx, evs, evp, Eng.look, cst, cst1, putd, dstOk, params, loadx, partx, loI, hiI, bltx, mmI, boxx, srcx, calx, nilx, upd, del, resv, fillA, setMany, Nat.reduceLT, Nat.reduceLeDiff, Nat.reduceEqDiff, Nat.reduceAdd, Nat.reduceMul, Nat.reduceSub, reduceIte, reduceCtorEq, if_true, if_false, ite_true, ite_false, eq_self, forall_const, implies_true, Int.reduceLT, Int.reduceLE, Int.reduceToNat, Int.reduceAdd, Int.reduceSub, Int.reduceNeg, ne_eq, Int.reduceEq, Int.reduceNe, Int.reduceBEq, Int.reduceBNe, beq_self_eq_true, bne_self_eq_false, BitVec.reduceBEq, BitVec.reduceBNe, BitVec.reduceOfInt, BitVec.reduceSetWidth, wrD, engS0, engS1, engS2, engS3, engS4, engS5, engS6, engS7, engS8, engS9, engT0, engT1, engT2, Fx.t3, Fx.t4, Fx.t5, Fx.t22, Fx.t23, Fx.t53, Fx.t65, Fx.t123, Fx.t124, Fx.en82, spl5]
    refine LoopOk.upX (fun i (z : Nat × List Value) => (putN' e i).out.length + z.2.length = z.1 ∧ z.1 ≤ maxI) 5 (fun i z => ([(16, .int .i64 i), (3, .ptr 2 0)], [(0, encO (.sl 1 0 e.out.length cap) e), (1, rowO e.out sp), (2, encO (.sl 4 0 (putN' e i).out.length z.1) (putN' e i)), (4, rowO (putN' e i).out z.2)], 5)) (cap1, sp1) ⟨d1, d2⟩ ?_ ?_
    · exact Le.same (by decide) ⟨rfl, rfl, trivial⟩ ⟨rfl, rfl, rfl, rfl, trivial⟩ (by simp) (fun n hn => decide_eq_true (by omega)) kp2
    rintro i ⟨cp, s2⟩ ⟨hi, q1, q2⟩
    have hpl := putN_len e i
    rcases Nat.lt_or_ge i 5 with h | h
    · have g1 : decide ((i : Int) < 5) = true := by simp; omega
      have wi : IntKind.i64.wrap ((i : Int) + 1) = ((i + 1 : Nat) : Int) := by rw [wrap_i64] <;> omega
      simp (config := { maxSteps := 1000000, implicitDefEqProofs := false }) only [-List.reduceReplicate, Nat.reduceBEq, renA, renL, renM, renO, evx, evs, evp, Eng.look, cst, cst1, putd, dstOk, params, loadx, partx, loI, hiI, bltx, mmI, boxx, srcx, calx, nilx, upd, del, resv, fillA, setMany, Nat.reduceLT, Nat.reduceLeDiff, Nat.reduceEqDiff, Nat.reduceAdd, Nat.reduceMul, Nat.reduceSub, reduceIte, reduceCtorEq, if_true, if_false, ite_true, ite_false, eq_self, forall_const, implies_true, Int.reduceLT, Int.reduceLE, Int.reduceToNat, Int.reduceAdd, Int.reduceSub, Int.reduceNeg, ne_eq, Int.reduceEq, Int.reduceNe, Int.reduceBEq, Int.reduceBNe, beq_self_eq_true, bne_self_eq_false, BitVec.reduceBEq, BitVec.reduceBNe, BitVec.reduceOfInt, BitVec.reduceSetWidth, wrD, engS0, engS1, engS2, engS3, engS4, engS5, engS6, engS7, engS8, engS9, engT0, engT1, engT2, Fx.t3, Fx.t4, Fx.t5, Fx.t22, Fx.t23, Fx.t53, Fx.t65, Fx.t123, Fx.t124, Fx.en82, g1]
      refine SlT.useS (T := encT) (a := 2) (n := 4) (args0 := []) (putOk (putN' e i) (by omega)) (fun _ => rfl) (fun _ => rfl) (by decide) rfl rfl q1 q2 rfl rfl ?_ ?_
      · intro e1
        have e2 : (putN' e (i + 1)).out = (putN' e i).out := e1
        simp (config := { maxSteps := 1000000, implicitDefEqProofs := false }) only [-List.reduceReplicate, Nat.reduceBEq, renA, renL, renM, renO, evx, evs, evp, Eng.look, cst, cst1, putd, dstOk, params, loadx, partx, loI, hiI, bltx, mmI, boxx, srcx, calx, nilx, upd, del, resv, fillA, setMany, Nat.reduceLT, Nat.reduceLeDiff, Nat.reduceEqDiff, Nat.reduceAdd, Nat.reduceMul, Nat.reduceSub, reduceIte, reduceCtorEq, if_true, if_false, ite_true, ite_false, eq_self, forall_const, implies_true, Int.reduceLT, Int.reduceLE, Int.reduceToNat, Int.reduceAdd, Int.reduceSub, Int.reduceNeg, ne_eq, Int.reduceEq, Int.reduceNe, Int.reduceBEq, Int.reduceBNe, beq_self_eq_true, bne_self_eq_false, BitVec.reduceBEq, BitVec.reduceBNe, BitVec.reduceOfInt, BitVec.reduceSetWidth, wrD, engS0, engS1, engS2, engS3, engS4, engS5, engS6, engS7, engS8, engS9, engT0, engT1, engT2, Fx.t3, Fx.t4, Fx.t5, Fx.t22, Fx.t23, Fx.t53, Fx.t65, Fx.t123, Fx.t124, Fx.en82, wi]
        refine UpX_normal h (cp, s2) ⟨by rw [e2]; exact q1, q2⟩ ?_
        dsimp only
        rw [e2]
        exact Le.same (by decide) ⟨rfl, rfl, trivial⟩ ⟨rfl, rfl, rfl, rfl, trivial⟩ (by simp) (fun n hn => decide_eq_true (by omega)) kp2
      · intro cap2 sp2 b1 b2
        simp (config := { maxSteps := 1000000, implicitDefEqProofs := false }) only [-List.reduceReplicate, Nat.reduceBEq, renA, renL, renM, renO, evx, evs, evp, Eng.look, cst, cst1, putd, dstOk, params, loadx, partx, loI, hiI, bltx, mmI, boxx, srcx, calx, nilx, upd, del, resv, fillA, setMany, Nat.reduceLT, Nat.reduceLeDiff, Nat.reduceEqDiff, Nat.reduceAdd, Nat.reduceMul, Nat.reduceSub, reduceIte, reduceCtorEq, if_true, if_false, ite_true, ite_false, eq_self, forall_const, implies_true, Int.reduceLT, Int.reduceLE, Int.reduceToNat, Int.reduceAdd, Int.reduceSub, Int.reduceNeg, ne_eq, Int.reduceEq, Int.reduceNe, Int.reduceBEq, Int.reduceBNe, beq_self_eq_true, bne_self_eq_false, BitVec.reduceBEq, BitVec.reduceBNe, BitVec.reduceOfInt, BitVec.reduceSetWidth, wrD, engS0, engS1, engS2, engS3, engS4, engS5, engS6, engS7, engS8, engS9, engT0, engT1, engT2, Fx.t3, Fx.t4, Fx.t5, Fx.t22, Fx.t23, Fx.t53, Fx.t65, Fx.t123, Fx.t124, Fx.en82, wi]
        refine UpX_normal h (cap2, sp2) ⟨b1, b2⟩ ?_
        exact ⟨[(4, 5)], rfl, (by show _ ≤ 5; decide), ⟨rfl, rfl, trivial⟩, ⟨rfl, rfl, by rw [rowO_ren]; rfl, rfl, rfl, rfl, by rw [rowO_ren]; rfl, rfl, trivial⟩, by simp [injOn, rf, Eng.look], kp2, wge (k := 5) (by decide)⟩
    · have hi' : i = 5 := by omega
      subst hi'
      simp (config := { maxSteps := 1000000, implicitDefEqProofs := false }) only [-List.reduceReplicate, Nat.reduceBEq, renA, renL, renM, renO, evx, evs, evp, Eng.look, cst, cst1, putd, dstOk, params, loadx, partx, loI, hiI, bltx, mmI, boxx, srcx, calx, nilx, upd, del, resv, fillA, setMany, Nat.reduceLT, Nat.reduceLeDiff, Nat.reduceEqDiff, Nat.reduceAdd, Nat.reduceMul, Nat.reduceSub, reduceIte, reduceCtorEq, if_true, if_false, ite_true, ite_false, eq_self, forall_const, implies_true, Int.reduceLT, Int.reduceLE, Int.reduceToNat, Int.reduceAdd, Int.reduceSub, Int.reduceNeg, ne_eq, Int.reduceEq, Int.reduceNe, Int.reduceBEq, Int.reduceBNe, beq_self_eq_true, bne_self_eq_false, BitVec.reduceBEq, BitVec.reduceBNe, BitVec.reduceOfInt, BitVec.reduceSetWidth, wrD, engS0, engS1, engS2, engS3, engS4, engS5, engS6, engS7, engS8, engS9, engT0, engT1, engT2, Fx.t3, Fx.t4, Fx.t5, Fx.t22, Fx.t23, Fx.t53, Fx.t65, Fx.t123, Fx.t124, Fx.en82, encO]
      refine ⟨[(2, 4)], .sl 2 0 (bytE e).length cp, (0, encO (.sl 1 0 e.out.length cap) e) :: (2, rowO (bytE e) s2) :: [(1, rowO e.out sp)], 3, ⟨rfl, by decide⟩, rfl, ?_, by simp [injOn, rf, Eng.look], kp3, cp, s2, rfl, rfl, rfl⟩
      exact ⟨rfl, rfl, by rw [rowO_ren]; rfl, rfl, by rw [rowO_ren]; rfl, rfl, trivial⟩
end Go.Proofs.Ytmnbbpckglppjaa
