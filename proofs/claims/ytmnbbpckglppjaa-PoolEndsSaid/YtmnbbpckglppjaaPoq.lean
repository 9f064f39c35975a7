/- Turns: the law on how it ends. -/
import Derived.Test.YtmnbbpckglppjaaEng19
import Derived.Test.YtmnbbpckglppjaaEng26
import Derived.Test.YtmnbbpckglppjaaPon
import Derived.Test.YtmnbbpckglppjaaPop
set_option linter.unusedVariables false
set_option linter.unusedSimpArgs false
set_option maxRecDepth 100000
namespace Go.Proofs.Ytmnbbpckglppjaa
open Go Go.Eng

structure EndAt (jobs w room a b c : Nat) (i : Nat) (m : Mem) (nx : Nat) (A : List Int) (S : PS) : Prop where
  D : Rdm (fun _ => true) m nx
  lt : ∀ p ∈ m, p.1 < nx
  P : ∃ (Qv Ov : AV) (qs os born : List Nat), PoolAt m nx a b c jobs room S Qv Ov qs os born
  M : Sim jobs w room A S
  su : sumS A = i
theorem EndAt.ext {jobs w room a b c i : Nat} {m m' : Mem} {nx N : Nat} {A : List Int} {S : PS} (h : EndAt jobs w room a b c i m nx A S) (hN : nx ≤ N) (D : Rdm (fun _ => true) m' N) (lt : ∀ p ∈ m', p.1 < N) (hk : ∀ k X, Eng.look m k = some X → Eng.look m' k = some X) : EndAt jobs w room a b c i m' N A S := by
  obtain ⟨Qv, Ov, qs, os, born, P⟩ := h.P
  exact ⟨D, lt, ⟨Qv, Ov, qs, os, born, P.ext hN hk⟩, h.M, h.su⟩
set_option maxHeartbeats 8000000 in
theorem poolEndsOk (jobs : Int) (hjl : -9223372036854775808 ≤ jobs) (hjr : jobs < 9223372036854775808) (w : Int) (hwl : -9223372036854775808 ≤ w) (hwr : w < 9223372036854775808) (room : Int) (hrl : -9223372036854775808 ≤ room) (hrr : room < 9223372036854775808) (l : List (BitVec 8)) (hl : l.length ≤ maxLen) :
    CallOk Try.prog 13 [.int .i64 jobs, .int .i64 w, .int .i64 room, .ro l.length (bvs .u8 l)] (fun _ => true) [] 0 fun v _ _ => v = .bool true := by
  refine fn_ok Try.func13 rfl (by show 4 ≤ _; decide) ?_
  have fin : ∀ {m : Mem} {nx : Nat}, Eng.Fin 0 (fun _ => true) m nx (fun v _ _ => v = .bool true) (.bool true) := Fin.flatv (fun _ => rfl) (fun _ => rfl) rfl
  have fv : (decide (jobs ≥ 0) && decide (jobs ≤ 10000) && decide (w ≥ 1) && decide (w ≤ 64) && decide (room ≥ 1) && decide (room ≤ 64)) = decide (¬ (jobs < 0 ∨ 10000 < jobs ∨ w < 1 ∨ 64 < w ∨ room < 1 ∨ 64 < room)) := by
    rw [Bool.eq_iff_iff]; simp only [Bool.and_eq_true, decide_eq_true_eq]; omega
  rcases Decidable.em (60 < jobs) with h2 | h2
  · have e2 : decide (jobs > 60) = true := decide_eq_true h2
    simp (config := { maxSteps := 1000000, implicitDefEqProofs := false }) only [-List.reduceReplicate, Nat.reduceBEq, renA, renL, renM, renO, evx, evs, evp, Eng.look, cst, cst1, putd, dstOk, params, loadx, partx, loI, hiI, bltx, mmI, boxx, srcx, calx, nilx, upd, del, resv, fillA, setMany, Nat.reduceLT, Nat.reduceLeDiff, Nat.reduceEqDiff, Nat.reduceAdd, Nat.reduceMul, Nat.reduceSub, reduceIte, reduceCtorEq, if_true, if_false, ite_true, ite_false, eq_self, forall_const, implies_true, Int.reduceLT, Int.reduceLE, Int.reduceToNat, Int.reduceAdd, Int.reduceSub, Int.reduceNeg, ne_eq, Int.reduceEq, Int.reduceNe, Int.reduceBEq, Int.reduceBNe, beq_self_eq_true, bne_self_eq_false, BitVec.reduceBEq, BitVec.reduceBNe, BitVec.reduceOfInt, BitVec.reduceSetWidth, wrD, engS0, engS1, engS2, engS3, engS4, engS5, engS6, engS7, engS8, engS9, engU0, engT0, engT1, engT2, Fx.t1, Fx.t3, Fx.t4, Fx.t5, Fx.t23, Fx.t25, Fx.t91, Fx.t92, Fx.t137, Fx.t138, Fx.t139, Fx.en53, Fx.en54, Fx.en55, Fx.en57, Fx.en59, Fx.en61, Fx.en63, Fx.en65, Fx.en66, Try.results13, Try.ntmps13, e2]
    refine kn21 ?_
    simp (config := { maxSteps := 1000000, implicitDefEqProofs := false }) only [-List.reduceReplicate, Nat.reduceBEq, renA, renL, renM, renO, evx, evs, evp, Eng.look, cst, cst1, putd, dstOk, params, loadx, partx, loI, hiI, bltx, mmI, boxx, srcx, calx, nilx, upd, del, resv, fillA, setMany, Nat.reduceLT, Nat.reduceLeDiff, Nat.reduceEqDiff, Nat.reduceAdd, Nat.reduceMul, Nat.reduceSub, reduceIte, reduceCtorEq, if_true, if_false, ite_true, ite_false, eq_self, forall_const, implies_true, Int.reduceLT, Int.reduceLE, Int.reduceToNat, Int.reduceAdd, Int.reduceSub, Int.reduceNeg, ne_eq, Int.reduceEq, Int.reduceNe, Int.reduceBEq, Int.reduceBNe, beq_self_eq_true, bne_self_eq_false, BitVec.reduceBEq, BitVec.reduceBNe, BitVec.reduceOfInt, BitVec.reduceSetWidth, wrD, engS0, engS1, engS2, engS3, engS4, engS5, engS6, engS7, engS8, engS9, engU0, engT0, engT1, engT2, Fx.t1, Fx.t3, Fx.t4, Fx.t5, Fx.t23, Fx.t25, Fx.t91, Fx.t92, Fx.t137, Fx.t138, Fx.t139, Fx.en53, Fx.en54, Fx.en55, Fx.en57, Fx.en59, Fx.en61, Fx.en63, Fx.en65, Fx.en66]
    exact fin
  have e2 : decide (jobs > 60) = false := decide_eq_false h2
  simp (config := { maxSteps := 1000000, implicitDefEqProofs := false }) only [-List.reduceReplicate, Nat.reduceBEq, renA, renL, renM, renO, evx, evs, evp, Eng.look, cst, cst1, putd, dstOk, params, loadx, partx, loI, hiI, bltx, mmI, boxx, srcx, calx, nilx, upd, del, resv, fillA, setMany, Nat.reduceLT, Nat.reduceLeDiff, Nat.reduceEqDiff, Nat.reduceAdd, Nat.reduceMul, Nat.reduceSub, reduceIte, reduceCtorEq, if_true, if_false, ite_true, ite_false, eq_self, forall_const, implies_true, Int.reduceLT, Int.reduceLE, Int.reduceToNat, Int.reduceAdd, Int.reduceSub, Int.reduceNeg, ne_eq, Int.reduceEq, Int.reduceNe, Int.reduceBEq, Int.reduceBNe, beq_self_eq_true, bne_self_eq_false, BitVec.reduceBEq, BitVec.reduceBNe, BitVec.reduceOfInt, BitVec.reduceSetWidth, wrD, engS0, engS1, engS2, engS3, engS4, engS5, engS6, engS7, engS8, engS9, engU0, engT0, engT1, engT2, Fx.t1, Fx.t3, Fx.t4, Fx.t5, Fx.t23, Fx.t25, Fx.t91, Fx.t92, Fx.t137, Fx.t138, Fx.t139, Fx.en53, Fx.en54, Fx.en55, Fx.en57, Fx.en59, Fx.en61, Fx.en63, Fx.en65, Fx.en66, Try.results13, Try.ntmps13, e2]
  refine (fairOk jobs w room).flat0 ⟨rfl, rfl, rfl, trivial⟩ (fun _ => rfl) rfl ?_
  rcases Decidable.em (jobs < 0 ∨ 10000 < jobs ∨ w < 1 ∨ 64 < w ∨ room < 1 ∨ 64 < room) with hb | hb
  · replace fv := fv.trans (decide_eq_false (fun hn => hn hb))
    simp (config := { maxSteps := 1000000, implicitDefEqProofs := false }) only [-List.reduceReplicate, Nat.reduceBEq, renA, renL, renM, renO, evx, evs, evp, Eng.look, cst, cst1, putd, dstOk, params, loadx, partx, loI, hiI, bltx, mmI, boxx, srcx, calx, nilx, upd, del, resv, fillA, setMany, Nat.reduceLT, Nat.reduceLeDiff, Nat.reduceEqDiff, Nat.reduceAdd, Nat.reduceMul, Nat.reduceSub, reduceIte, reduceCtorEq, if_true, if_false, ite_true, ite_false, eq_self, forall_const, implies_true, Int.reduceLT, Int.reduceLE, Int.reduceToNat, Int.reduceAdd, Int.reduceSub, Int.reduceNeg, ne_eq, Int.reduceEq, Int.reduceNe, Int.reduceBEq, Int.reduceBNe, beq_self_eq_true, bne_self_eq_false, BitVec.reduceBEq, BitVec.reduceBNe, BitVec.reduceOfInt, BitVec.reduceSetWidth, wrD, engS0, engS1, engS2, engS3, engS4, engS5, engS6, engS7, engS8, engS9, engU0, engT0, engT1, engT2, Fx.t1, Fx.t3, Fx.t4, Fx.t5, Fx.t23, Fx.t25, Fx.t91, Fx.t92, Fx.t137, Fx.t138, Fx.t139, Fx.en53, Fx.en54, Fx.en55, Fx.en57, Fx.en59, Fx.en61, Fx.en63, Fx.en65, Fx.en66, fv]
    refine kn21 ?_
    simp (config := { maxSteps := 1000000, implicitDefEqProofs := false }) only [-List.reduceReplicate, Nat.reduceBEq, renA, renL, renM, renO, evx, evs, evp, Eng.look, cst, cst1, putd, dstOk, params, loadx, partx, loI, hiI, bltx, mmI, boxx, srcx, calx, nilx, upd, del, resv, fillA, setMany, Nat.reduceLT, Nat.reduceLeDiff, Nat.reduceEqDiff, Nat.reduceAdd, Nat.reduceMul, Nat.reduceSub, reduceIte, reduceCtorEq, if_true, if_false, ite_true, ite_false, eq_self, forall_const, implies_true, Int.reduceLT, Int.reduceLE, Int.reduceToNat, Int.reduceAdd, Int.reduceSub, Int.reduceNeg, ne_eq, Int.reduceEq, Int.reduceNe, Int.reduceBEq, Int.reduceBNe, beq_self_eq_true, bne_self_eq_false, BitVec.reduceBEq, BitVec.reduceBNe, BitVec.reduceOfInt, BitVec.reduceSetWidth, wrD, engS0, engS1, engS2, engS3, engS4, engS5, engS6, engS7, engS8, engS9, engU0, engT0, engT1, engT2, Fx.t1, Fx.t3, Fx.t4, Fx.t5, Fx.t23, Fx.t25, Fx.t91, Fx.t92, Fx.t137, Fx.t138, Fx.t139, Fx.en53, Fx.en54, Fx.en55, Fx.en57, Fx.en59, Fx.en61, Fx.en63, Fx.en65, Fx.en66]
    exact fin
  replace fv := fv.trans (decide_eq_true hb)
  simp (config := { maxSteps := 1000000, implicitDefEqProofs := false }) only [-List.reduceReplicate, Nat.reduceBEq, renA, renL, renM, renO, evx, evs, evp, Eng.look, cst, cst1, putd, dstOk, params, loadx, partx, loI, hiI, bltx, mmI, boxx, srcx, calx, nilx, upd, del, resv, fillA, setMany, Nat.reduceLT, Nat.reduceLeDiff, Nat.reduceEqDiff, Nat.reduceAdd, Nat.reduceMul, Nat.reduceSub, reduceIte, reduceCtorEq, if_true, if_false, ite_true, ite_false, eq_self, forall_const, implies_true, Int.reduceLT, Int.reduceLE, Int.reduceToNat, Int.reduceAdd, Int.reduceSub, Int.reduceNeg, ne_eq, Int.reduceEq, Int.reduceNe, Int.reduceBEq, Int.reduceBNe, beq_self_eq_true, bne_self_eq_false, BitVec.reduceBEq, BitVec.reduceBNe, BitVec.reduceOfInt, BitVec.reduceSetWidth, wrD, engS0, engS1, engS2, engS3, engS4, engS5, engS6, engS7, engS8, engS9, engU0, engT0, engT1, engT2, Fx.t1, Fx.t3, Fx.t4, Fx.t5, Fx.t23, Fx.t25, Fx.t91, Fx.t92, Fx.t137, Fx.t138, Fx.t139, Fx.en53, Fx.en54, Fx.en55, Fx.en57, Fx.en59, Fx.en61, Fx.en63, Fx.en65, Fx.en66, fv]
  refine (CallG.any (newPOk jobs w room)).weak ?_
  intro v m nx h
  rw [NewK, if_neg hb] at h
  obtain ⟨a, b, c, rfl, D0, lt0, P0⟩ := h
  simp (config := { maxSteps := 1000000, implicitDefEqProofs := false }) only [-List.reduceReplicate, Nat.reduceBEq, renA, renL, renM, renO, evx, evs, evp, Eng.look, cst, cst1, putd, dstOk, params, loadx, partx, loI, hiI, bltx, mmI, boxx, srcx, calx, nilx, upd, del, resv, fillA, setMany, Nat.reduceLT, Nat.reduceLeDiff, Nat.reduceEqDiff, Nat.reduceAdd, Nat.reduceMul, Nat.reduceSub, reduceIte, reduceCtorEq, if_true, if_false, ite_true, ite_false, eq_self, forall_const, implies_true, Int.reduceLT, Int.reduceLE, Int.reduceToNat, Int.reduceAdd, Int.reduceSub, Int.reduceNeg, ne_eq, Int.reduceEq, Int.reduceNe, Int.reduceBEq, Int.reduceBNe, beq_self_eq_true, bne_self_eq_false, BitVec.reduceBEq, BitVec.reduceBNe, BitVec.reduceOfInt, BitVec.reduceSetWidth, wrD, engS0, engS1, engS2, engS3, engS4, engS5, engS6, engS7, engS8, engS9, engU0, engT0, engT1, engT2, Fx.t1, Fx.t3, Fx.t4, Fx.t5, Fx.t23, Fx.t25, Fx.t91, Fx.t92, Fx.t137, Fx.t138, Fx.t139, Fx.en53, Fx.en54, Fx.en55, Fx.en57, Fx.en59, Fx.en61, Fx.en63, Fx.en65, Fx.en66]
  clear fv
  obtain ⟨jn, rfl⟩ : ∃ jn : Nat, jobs = (jn : Int) := ⟨jobs.toNat, by omega⟩
  obtain ⟨wn, rfl⟩ : ∃ wn : Nat, w = (wn : Int) := ⟨w.toNat, by omega⟩
  obtain ⟨rn, rfl⟩ : ∃ rn : Nat, room = (rn : Int) := ⟨room.toNat, by omega⟩
  simp only [Int.toNat_natCast] at P0
  have H0 : EndAt jn wn rn a b c 0 m nx (List.replicate jn 0) (newS wn) := ⟨D0, lt0, ⟨_, _, _, _, _, P0⟩, Sim.new' jn wn rn, sumS_new jn⟩
  have w4 : IntKind.i64.wrap (4 * (jn : Int)) = ((4 * jn : Nat) : Int) := by rw [wrap_i64] <;> omega
  refine LoopOk.upX (fun i (x : Mem × Nat) => ∃ A S, EndAt jn wn rn a b c i x.1 x.2 A S) (4 * jn) (fun i x => ([(11, .int .i64 (i : Nat)), (9, .ptr a 0), (3, .ro l.length (bvs .u8 l)), (2, .int .i64 rn), (1, .int .i64 wn), (0, .int .i64 jn)], x.1, x.2)) (m, nx) ⟨_, _, H0⟩ (Le.sameT (Nat.zero_le _) ⟨rfl, rfl, rfl, rfl, rfl, rfl, trivial⟩ (memSame_slf D0.nd) D0.nd) ?_
  clear H0 P0 D0 lt0
  rintro i ⟨M, N⟩ ⟨hi, A, S, H⟩
  have H : EndAt jn wn rn a b c i M N A S := H
  rcases Nat.lt_or_ge i (4 * jn) with h | h
  · have g1 : decide ((i : Int) < ((4 * jn : Nat) : Int)) = true := decide_eq_true (by omega)
    have w1 : IntKind.i64.wrap ((i : Int) + 1) = ((i + 1 : Nat) : Int) := by rw [wrap_i64] <;> omega
    have hout := H.M.not H.su h
    obtain ⟨x0, hx0, hx1⟩ := H.M.goes (by omega) (by omega) hout
    obtain ⟨L, hL⟩ : ∃ L : List Int, L = mayL jn rn S := ⟨_, rfl⟩
    have hpos : 0 < L.length := by rw [hL, H.M.list]; exact enF_pos _ x0 hx0 (decide_eq_true hx1)
    have hmem : ∀ j, j < L.length → ∃ x : Nat, x < wn + 2 ∧ 0 ≤ (nextZ A (wn : Int) (rn : Int) (x : Int)).1 ∧ L.getD j 0 = (x : Int) := fun j hj => by
      rw [hL, H.M.list] at hj ⊢
      obtain ⟨x, e1, e2, e3⟩ := enF_mem _ j hj
      exact ⟨x, e1, of_decide_eq_true e2, e3⟩
    simp (config := { maxSteps := 1000000, implicitDefEqProofs := false }) only [-List.reduceReplicate, Nat.reduceBEq, renA, renL, renM, renO, evx, evs, evp, Eng.look, cst, cst1, putd, dstOk, params, loadx, partx, loI, hiI, bltx, mmI, boxx, srcx, calx, nilx, upd, del, resv, fillA, setMany, Nat.reduceLT, Nat.reduceLeDiff, Nat.reduceEqDiff, Nat.reduceAdd, Nat.reduceMul, Nat.reduceSub, reduceIte, reduceCtorEq, if_true, if_false, ite_true, ite_false, eq_self, forall_const, implies_true, Int.reduceLT, Int.reduceLE, Int.reduceToNat, Int.reduceAdd, Int.reduceSub, Int.reduceNeg, ne_eq, Int.reduceEq, Int.reduceNe, Int.reduceBEq, Int.reduceBNe, beq_self_eq_true, bne_self_eq_false, BitVec.reduceBEq, BitVec.reduceBNe, BitVec.reduceOfInt, BitVec.reduceSetWidth, wrD, engS0, engS1, engS2, engS3, engS4, engS5, engS6, engS7, engS8, engS9, engU0, engT0, engT1, engT2, Fx.t1, Fx.t3, Fx.t4, Fx.t5, Fx.t23, Fx.t25, Fx.t91, Fx.t92, Fx.t137, Fx.t138, Fx.t139, Fx.en53, Fx.en54, Fx.en55, Fx.en57, Fx.en59, Fx.en61, Fx.en63, Fx.en65, Fx.en66, g1, w4]
    obtain ⟨Qv, Ov, qs, os, born, P⟩ := H.P
    have hLs : L.length ≤ 66 := Nat.le_trans (by rw [hL]; exact enF_len _ _) (by have := P.z3; omega)
    refine (CallG.any (enPOk H.D H.lt P)).weak ?_
    rw [← hL]
    rintro v m1 N1 ⟨q, rfl, c1, rfl, c2⟩
    obtain ⟨D1, lt1, k1⟩ := zM_rdm H.D H.lt c1 c2
    have H1 := H.ext c2 D1 lt1 k1
    have P1 := P.ext c2 k1
    clear hL P D1 lt1 k1 c2 H
    rcases q with _ | ⟨n, cap, sp⟩
    · have c1 : L = [] := c1
      rw [c1] at hpos; exact absurd hpos (Nat.lt_irrefl _)
    obtain ⟨z1, z2, z3, z4, z5⟩ : N ≤ n ∧ n < N1 ∧ L.length ≤ cap ∧ cap ≤ maxI ∧ sp.length = (cap - L.length) * 1 := c1
    have b1 : ((L.length : Int) == 0) = false := by rw [beq_eq_false_iff_ne]; omega
    simp (config := { maxSteps := 1000000, implicitDefEqProofs := false }) only [-List.reduceReplicate, Nat.reduceBEq, renA, renL, renM, renO, evx, evs, evp, Eng.look, cst, cst1, putd, dstOk, params, loadx, partx, loI, hiI, bltx, mmI, boxx, srcx, calx, nilx, upd, del, resv, fillA, setMany, Nat.reduceLT, Nat.reduceLeDiff, Nat.reduceEqDiff, Nat.reduceAdd, Nat.reduceMul, Nat.reduceSub, reduceIte, reduceCtorEq, if_true, if_false, ite_true, ite_false, eq_self, forall_const, implies_true, Int.reduceLT, Int.reduceLE, Int.reduceToNat, Int.reduceAdd, Int.reduceSub, Int.reduceNeg, ne_eq, Int.reduceEq, Int.reduceNe, Int.reduceBEq, Int.reduceBNe, beq_self_eq_true, bne_self_eq_false, BitVec.reduceBEq, BitVec.reduceBNe, BitVec.reduceOfInt, BitVec.reduceSetWidth, wrD, engS0, engS1, engS2, engS3, engS4, engS5, engS6, engS7, engS8, engS9, engU0, engT0, engT1, engT2, Fx.t1, Fx.t3, Fx.t4, Fx.t5, Fx.t23, Fx.t25, Fx.t91, Fx.t92, Fx.t137, Fx.t138, Fx.t139, Fx.en53, Fx.en54, Fx.en55, Fx.en57, Fx.en59, Fx.en61, Fx.en63, Fx.en65, Fx.en66, zA, zM, b1]
    refine (CallG.any (doneOk H1.D P1)).weak ?_
    rintro v m2 N2 ⟨rfl, rfl, rfl⟩
    have d1 : decide (S.out = jn) = false := decide_eq_false (by omega)
    rcases Nat.eq_zero_or_pos l.length with hl0 | hl0
    · have g2 : decide ((l.length : Int) > 0) = false := decide_eq_false (by omega)
      obtain ⟨x, xw, xn, xe⟩ := hmem 0 hpos
      have hg := zs_get L (sp.map AV.val) 0 hpos
      rw [xe] at hg
      simp (config := { maxSteps := 1000000, implicitDefEqProofs := false }) only [-List.reduceReplicate, Nat.reduceBEq, renA, renL, renM, renO, evx, evs, evp, Eng.look, cst, cst1, putd, dstOk, params, loadx, partx, loI, hiI, bltx, mmI, boxx, srcx, calx, nilx, upd, del, resv, fillA, setMany, Nat.reduceLT, Nat.reduceLeDiff, Nat.reduceEqDiff, Nat.reduceAdd, Nat.reduceMul, Nat.reduceSub, reduceIte, reduceCtorEq, if_true, if_false, ite_true, ite_false, eq_self, forall_const, implies_true, Int.reduceLT, Int.reduceLE, Int.reduceToNat, Int.reduceAdd, Int.reduceSub, Int.reduceNeg, ne_eq, Int.reduceEq, Int.reduceNe, Int.reduceBEq, Int.reduceBNe, beq_self_eq_true, bne_self_eq_false, BitVec.reduceBEq, BitVec.reduceBNe, BitVec.reduceOfInt, BitVec.reduceSetWidth, wrD, engS0, engS1, engS2, engS3, engS4, engS5, engS6, engS7, engS8, engS9, engU0, engT0, engT1, engT2, Fx.t1, Fx.t3, Fx.t4, Fx.t5, Fx.t23, Fx.t25, Fx.t91, Fx.t92, Fx.t137, Fx.t138, Fx.t139, Fx.en53, Fx.en54, Fx.en55, Fx.en57, Fx.en59, Fx.en61, Fx.en63, Fx.en65, Fx.en66, d1, g2, zA, zM, zRow, zs_len, hg]
      refine ⟨by omega, by omega, ?_⟩
      refine (CallG.any (StepT H1.D H1.lt P1 H1.M.free (H1.M.less P1.z5) (x : Int) (by omega))).weak ?_
      rintro v m4 N4 ⟨rfl, c4, D4, lt4, ⟨Qv4, Ov4, qs4, os4, born4, P4, o4⟩, k4⟩
      have st1 := ((H1.M.step (x : Int)).1 xn).1
      have M4 : Sim jn wn rn (stepZ A (wn : Int) (rn : Int) x) (stpP jn rn S x) := (H1.M.step (x : Int)).2.2
      have su4 : sumS (stepZ A (wn : Int) (rn : Int) x) = i + 1 := by rw [step_sum xn, H1.su]
      have P4 : PoolAt m4 N4 a b c jn rn (stpP jn rn S x) Qv4 Ov4 qs4 os4 born4 := P4
      have H4 : EndAt jn wn rn a b c (i + 1) m4 N4 (stepZ A (wn : Int) (rn : Int) x) (stpP jn rn S x) := ⟨D4, lt4, ⟨_, _, _, _, _, P4⟩, M4, su4⟩
      rw [st1]
      simp (config := { maxSteps := 1000000, implicitDefEqProofs := false }) only [-List.reduceReplicate, Nat.reduceBEq, renA, renL, renM, renO, evx, evs, evp, Eng.look, cst, cst1, putd, dstOk, params, loadx, partx, loI, hiI, bltx, mmI, boxx, srcx, calx, nilx, upd, del, resv, fillA, setMany, Nat.reduceLT, Nat.reduceLeDiff, Nat.reduceEqDiff, Nat.reduceAdd, Nat.reduceMul, Nat.reduceSub, reduceIte, reduceCtorEq, if_true, if_false, ite_true, ite_false, eq_self, forall_const, implies_true, Int.reduceLT, Int.reduceLE, Int.reduceToNat, Int.reduceAdd, Int.reduceSub, Int.reduceNeg, ne_eq, Int.reduceEq, Int.reduceNe, Int.reduceBEq, Int.reduceBNe, beq_self_eq_true, bne_self_eq_false, BitVec.reduceBEq, BitVec.reduceBNe, BitVec.reduceOfInt, BitVec.reduceSetWidth, wrD, engS0, engS1, engS2, engS3, engS4, engS5, engS6, engS7, engS8, engS9, engU0, engT0, engT1, engT2, Fx.t1, Fx.t3, Fx.t4, Fx.t5, Fx.t23, Fx.t25, Fx.t91, Fx.t92, Fx.t137, Fx.t138, Fx.t139, Fx.en53, Fx.en54, Fx.en55, Fx.en57, Fx.en59, Fx.en61, Fx.en63, Fx.en65, Fx.en66, erN]
      refine (CallG.any (aliveOk D4 P4)).weak ?_
      rintro v m5 N5 ⟨rfl, rfl, rfl⟩
      have al := M4.al
      have w5 : IntKind.i64.wrap ((wn : Int) + (rn : Int)) = (wn : Int) + (rn : Int) := by rw [wrap_i64] <;> omega
      have w6 : IntKind.i64.wrap ((wn : Int) + (rn : Int) + 1) = (wn : Int) + (rn : Int) + 1 := by rw [wrap_i64] <;> omega
      have g5 : decide (((stpP jn rn S x).next : Int) - ((stpP jn rn S x).out : Int) > (wn : Int) + (rn : Int) + 1) = false := decide_eq_false (by omega)
      simp (config := { maxSteps := 1000000, implicitDefEqProofs := false }) only [-List.reduceReplicate, Nat.reduceBEq, renA, renL, renM, renO, evx, evs, evp, Eng.look, cst, cst1, putd, dstOk, params, loadx, partx, loI, hiI, bltx, mmI, boxx, srcx, calx, nilx, upd, del, resv, fillA, setMany, Nat.reduceLT, Nat.reduceLeDiff, Nat.reduceEqDiff, Nat.reduceAdd, Nat.reduceMul, Nat.reduceSub, reduceIte, reduceCtorEq, if_true, if_false, ite_true, ite_false, eq_self, forall_const, implies_true, Int.reduceLT, Int.reduceLE, Int.reduceToNat, Int.reduceAdd, Int.reduceSub, Int.reduceNeg, ne_eq, Int.reduceEq, Int.reduceNe, Int.reduceBEq, Int.reduceBNe, beq_self_eq_true, bne_self_eq_false, BitVec.reduceBEq, BitVec.reduceBNe, BitVec.reduceOfInt, BitVec.reduceSetWidth, wrD, engS0, engS1, engS2, engS3, engS4, engS5, engS6, engS7, engS8, engS9, engU0, engT0, engT1, engT2, Fx.t1, Fx.t3, Fx.t4, Fx.t5, Fx.t23, Fx.t25, Fx.t91, Fx.t92, Fx.t137, Fx.t138, Fx.t139, Fx.en53, Fx.en54, Fx.en55, Fx.en57, Fx.en59, Fx.en61, Fx.en63, Fx.en65, Fx.en66, w5, w6, g5]
      refine (CallG.any (waitingOk D4 P4)).weak ?_
      rintro v m6 N6 ⟨rfl, rfl, rfl⟩
      simp (config := { maxSteps := 1000000, implicitDefEqProofs := false }) only [-List.reduceReplicate, Nat.reduceBEq, renA, renL, renM, renO, evx, evs, evp, Eng.look, cst, cst1, putd, dstOk, params, loadx, partx, loI, hiI, bltx, mmI, boxx, srcx, calx, nilx, upd, del, resv, fillA, setMany, Nat.reduceLT, Nat.reduceLeDiff, Nat.reduceEqDiff, Nat.reduceAdd, Nat.reduceMul, Nat.reduceSub, reduceIte, reduceCtorEq, if_true, if_false, ite_true, ite_false, eq_self, forall_const, implies_true, Int.reduceLT, Int.reduceLE, Int.reduceToNat, Int.reduceAdd, Int.reduceSub, Int.reduceNeg, ne_eq, Int.reduceEq, Int.reduceNe, Int.reduceBEq, Int.reduceBNe, beq_self_eq_true, bne_self_eq_false, BitVec.reduceBEq, BitVec.reduceBNe, BitVec.reduceOfInt, BitVec.reduceSetWidth, wrD, engS0, engS1, engS2, engS3, engS4, engS5, engS6, engS7, engS8, engS9, engU0, engT0, engT1, engT2, Fx.t1, Fx.t3, Fx.t4, Fx.t5, Fx.t23, Fx.t25, Fx.t91, Fx.t92, Fx.t137, Fx.t138, Fx.t139, Fx.en53, Fx.en54, Fx.en55, Fx.en57, Fx.en59, Fx.en61, Fx.en63, Fx.en65, Fx.en66]
      refine (CallG.any (aliveOk D4 P4)).weak ?_
      rintro v m7 N7 ⟨rfl, rfl, rfl⟩
      have few := M4.few
      have g6 : decide (((stpP jn rn S x).ws.length : Int) > ((stpP jn rn S x).next : Int) - ((stpP jn rn S x).out : Int)) = false := decide_eq_false (by omega)
      simp (config := { maxSteps := 1000000, implicitDefEqProofs := false }) only [-List.reduceReplicate, Nat.reduceBEq, renA, renL, renM, renO, evx, evs, evp, Eng.look, cst, cst1, putd, dstOk, params, loadx, partx, loI, hiI, bltx, mmI, boxx, srcx, calx, nilx, upd, del, resv, fillA, setMany, Nat.reduceLT, Nat.reduceLeDiff, Nat.reduceEqDiff, Nat.reduceAdd, Nat.reduceMul, Nat.reduceSub, reduceIte, reduceCtorEq, if_true, if_false, ite_true, ite_false, eq_self, forall_const, implies_true, Int.reduceLT, Int.reduceLE, Int.reduceToNat, Int.reduceAdd, Int.reduceSub, Int.reduceNeg, ne_eq, Int.reduceEq, Int.reduceNe, Int.reduceBEq, Int.reduceBNe, beq_self_eq_true, bne_self_eq_false, BitVec.reduceBEq, BitVec.reduceBNe, BitVec.reduceOfInt, BitVec.reduceSetWidth, wrD, engS0, engS1, engS2, engS3, engS4, engS5, engS6, engS7, engS8, engS9, engU0, engT0, engT1, engT2, Fx.t1, Fx.t3, Fx.t4, Fx.t5, Fx.t23, Fx.t25, Fx.t91, Fx.t92, Fx.t137, Fx.t138, Fx.t139, Fx.en53, Fx.en54, Fx.en55, Fx.en57, Fx.en59, Fx.en61, Fx.en63, Fx.en65, Fx.en66, g6, w1]
      exact UpX_normal h (m7, N7) ⟨_, _, H4⟩ (Le.sameT (Nat.zero_le _) ⟨rfl, rfl, rfl, rfl, rfl, rfl, trivial⟩ (memSame_slf D4.nd) D4.nd)
    · have g2 : decide ((l.length : Int) > 0) = true := decide_eq_true (by omega)
      obtain ⟨y, hy⟩ : ∃ y : BitVec 8, y = l.getD (i % l.length) 0 := ⟨_, rfl⟩
      have r1 : Int.tmod (i : Int) (l.length : Int) = ((i % l.length : Nat) : Int) := (Int.ofNat_tmod _ _).symm
      have w7 : IntKind.i64.wrap (y.toNat : Int) = ((y.toNat : Nat) : Int) := by have := y.isLt; rw [wrap_i64] <;> omega
      have r2 : Int.tmod (y.toNat : Int) (L.length : Int) = ((y.toNat % L.length : Nat) : Int) := (Int.ofNat_tmod _ _).symm
      have l1 : i % l.length < l.length := Nat.mod_lt _ hl0
      have l2 : y.toNat % L.length < L.length := Nat.mod_lt _ hpos
      obtain ⟨x, xw, xn, xe⟩ := hmem (y.toNat % L.length) l2
      have hg := zs_get L (sp.map AV.val) (y.toNat % L.length) l2
      rw [xe] at hg
      simp (config := { maxSteps := 1000000, implicitDefEqProofs := false }) only [-List.reduceReplicate, Nat.reduceBEq, renA, renL, renM, renO, evx, evs, evp, Eng.look, cst, cst1, putd, dstOk, params, loadx, partx, loI, hiI, bltx, mmI, boxx, srcx, calx, nilx, upd, del, resv, fillA, setMany, Nat.reduceLT, Nat.reduceLeDiff, Nat.reduceEqDiff, Nat.reduceAdd, Nat.reduceMul, Nat.reduceSub, reduceIte, reduceCtorEq, if_true, if_false, ite_true, ite_false, eq_self, forall_const, implies_true, Int.reduceLT, Int.reduceLE, Int.reduceToNat, Int.reduceAdd, Int.reduceSub, Int.reduceNeg, ne_eq, Int.reduceEq, Int.reduceNe, Int.reduceBEq, Int.reduceBNe, beq_self_eq_true, bne_self_eq_false, BitVec.reduceBEq, BitVec.reduceBNe, BitVec.reduceOfInt, BitVec.reduceSetWidth, wrD, engS0, engS1, engS2, engS3, engS4, engS5, engS6, engS7, engS8, engS9, engU0, engT0, engT1, engT2, Fx.t1, Fx.t3, Fx.t4, Fx.t5, Fx.t23, Fx.t25, Fx.t91, Fx.t92, Fx.t137, Fx.t138, Fx.t139, Fx.en53, Fx.en54, Fx.en55, Fx.en57, Fx.en59, Fx.en61, Fx.en63, Fx.en65, Fx.en66, d1, g2, zA, zM, zRow, zs_len, hg, r1, hy.symm, w7, r2]
      refine ⟨by omega, by omega, l1, by rw [List.length_drop]; omega, by omega, by omega, by omega, ?_⟩
      refine (CallG.any (StepT H1.D H1.lt P1 H1.M.free (H1.M.less P1.z5) (x : Int) (by omega))).weak ?_
      rintro v m4 N4 ⟨rfl, c4, D4, lt4, ⟨Qv4, Ov4, qs4, os4, born4, P4, o4⟩, k4⟩
      have st1 := ((H1.M.step (x : Int)).1 xn).1
      have M4 : Sim jn wn rn (stepZ A (wn : Int) (rn : Int) x) (stpP jn rn S x) := (H1.M.step (x : Int)).2.2
      have su4 : sumS (stepZ A (wn : Int) (rn : Int) x) = i + 1 := by rw [step_sum xn, H1.su]
      have P4 : PoolAt m4 N4 a b c jn rn (stpP jn rn S x) Qv4 Ov4 qs4 os4 born4 := P4
      have H4 : EndAt jn wn rn a b c (i + 1) m4 N4 (stepZ A (wn : Int) (rn : Int) x) (stpP jn rn S x) := ⟨D4, lt4, ⟨_, _, _, _, _, P4⟩, M4, su4⟩
      rw [st1]
      simp (config := { maxSteps := 1000000, implicitDefEqProofs := false }) only [-List.reduceReplicate, Nat.reduceBEq, renA, renL, renM, renO, evx, evs, evp, Eng.look, cst, cst1, putd, dstOk, params, loadx, partx, loI, hiI, bltx, mmI, boxx, srcx, calx, nilx, upd, del, resv, fillA, setMany, Nat.reduceLT, Nat.reduceLeDiff, Nat.reduceEqDiff, Nat.reduceAdd, Nat.reduceMul, Nat.reduceSub, reduceIte, reduceCtorEq, if_true, if_false, ite_true, ite_false, eq_self, forall_const, implies_true, Int.reduceLT, Int.reduceLE, Int.reduceToNat, Int.reduceAdd, Int.reduceSub, Int.reduceNeg, ne_eq, Int.reduceEq, Int.reduceNe, Int.reduceBEq, Int.reduceBNe, beq_self_eq_true, bne_self_eq_false, BitVec.reduceBEq, BitVec.reduceBNe, BitVec.reduceOfInt, BitVec.reduceSetWidth, wrD, engS0, engS1, engS2, engS3, engS4, engS5, engS6, engS7, engS8, engS9, engU0, engT0, engT1, engT2, Fx.t1, Fx.t3, Fx.t4, Fx.t5, Fx.t23, Fx.t25, Fx.t91, Fx.t92, Fx.t137, Fx.t138, Fx.t139, Fx.en53, Fx.en54, Fx.en55, Fx.en57, Fx.en59, Fx.en61, Fx.en63, Fx.en65, Fx.en66, erN]
      refine (CallG.any (aliveOk D4 P4)).weak ?_
      rintro v m5 N5 ⟨rfl, rfl, rfl⟩
      have al := M4.al
      have w5 : IntKind.i64.wrap ((wn : Int) + (rn : Int)) = (wn : Int) + (rn : Int) := by rw [wrap_i64] <;> omega
      have w6 : IntKind.i64.wrap ((wn : Int) + (rn : Int) + 1) = (wn : Int) + (rn : Int) + 1 := by rw [wrap_i64] <;> omega
      have g5 : decide (((stpP jn rn S x).next : Int) - ((stpP jn rn S x).out : Int) > (wn : Int) + (rn : Int) + 1) = false := decide_eq_false (by omega)
      simp (config := { maxSteps := 1000000, implicitDefEqProofs := false }) only [-List.reduceReplicate, Nat.reduceBEq, renA, renL, renM, renO, evx, evs, evp, Eng.look, cst, cst1, putd, dstOk, params, loadx, partx, loI, hiI, bltx, mmI, boxx, srcx, calx, nilx, upd, del, resv, fillA, setMany, Nat.reduceLT, Nat.reduceLeDiff, Nat.reduceEqDiff, Nat.reduceAdd, Nat.reduceMul, Nat.reduceSub, reduceIte, reduceCtorEq, if_true, if_false, ite_true, ite_false, eq_self, forall_const, implies_true, Int.reduceLT, Int.reduceLE, Int.reduceToNat, Int.reduceAdd, Int.reduceSub, Int.reduceNeg, ne_eq, Int.reduceEq, Int.reduceNe, Int.reduceBEq, Int.reduceBNe, beq_self_eq_true, bne_self_eq_false, BitVec.reduceBEq, BitVec.reduceBNe, BitVec.reduceOfInt, BitVec.reduceSetWidth, wrD, engS0, engS1, engS2, engS3, engS4, engS5, engS6, engS7, engS8, engS9, engU0, engT0, engT1, engT2, Fx.t1, Fx.t3, Fx.t4, Fx.t5, Fx.t23, Fx.t25, Fx.t91, Fx.t92, Fx.t137, Fx.t138, Fx.t139, Fx.en53, Fx.en54, Fx.en55, Fx.en57, Fx.en59, Fx.en61, Fx.en63, Fx.en65, Fx.en66, w5, w6, g5]
      refine (CallG.any (waitingOk D4 P4)).weak ?_
      rintro v m6 N6 ⟨rfl, rfl, rfl⟩
      simp (config := { maxSteps := 1000000, implicitDefEqProofs := false }) only [-List.reduceReplicate, Nat.reduceBEq, renA, renL, renM, renO, evx, evs, evp, Eng.look, cst, cst1, putd, dstOk, params, loadx, partx, loI, hiI, bltx, mmI, boxx, srcx, calx, nilx, upd, del, resv, fillA, setMany, Nat.reduceLT, Nat.reduceLeDiff, Nat.reduceEqDiff, Nat.reduceAdd, Nat.reduceMul, Nat.reduceSub, reduceIte, reduceCtorEq, if_true, if_false, ite_true, ite_false, eq_self, forall_const, implies_true, Int.reduceLT, Int.reduceLE, Int.reduceToNat, Int.reduceAdd, Int.reduceSub, Int.reduceNeg, ne_eq, Int.reduceEq, Int.reduceNe, Int.reduceBEq, Int.reduceBNe, beq_self_eq_true, bne_self_eq_false, BitVec.reduceBEq, BitVec.reduceBNe, BitVec.reduceOfInt, BitVec.reduceSetWidth, wrD, engS0, engS1, engS2, engS3, engS4, engS5, engS6, engS7, engS8, engS9, engU0, engT0, engT1, engT2, Fx.t1, Fx.t3, Fx.t4, Fx.t5, Fx.t23, Fx.t25, Fx.t91, Fx.t92, Fx.t137, Fx.t138, Fx.t139, Fx.en53, Fx.en54, Fx.en55, Fx.en57, Fx.en59, Fx.en61, Fx.en63, Fx.en65, Fx.en66]
      refine (CallG.any (aliveOk D4 P4)).weak ?_
      rintro v m7 N7 ⟨rfl, rfl, rfl⟩
      have few := M4.few
      have g6 : decide (((stpP jn rn S x).ws.length : Int) > ((stpP jn rn S x).next : Int) - ((stpP jn rn S x).out : Int)) = false := decide_eq_false (by omega)
      simp (config := { maxSteps := 1000000, implicitDefEqProofs := false }) only [-List.reduceReplicate, Nat.reduceBEq, renA, renL, renM, renO, evx, evs, evp, Eng.look, cst, cst1, putd, dstOk, params, loadx, partx, loI, hiI, bltx, mmI, boxx, srcx, calx, nilx, upd, del, resv, fillA, setMany, Nat.reduceLT, Nat.reduceLeDiff, Nat.reduceEqDiff, Nat.reduceAdd, Nat.reduceMul, Nat.reduceSub, reduceIte, reduceCtorEq, if_true, if_false, ite_true, ite_false, eq_self, forall_const, implies_true, Int.reduceLT, Int.reduceLE, Int.reduceToNat, Int.reduceAdd, Int.reduceSub, Int.reduceNeg, ne_eq, Int.reduceEq, Int.reduceNe, Int.reduceBEq, Int.reduceBNe, beq_self_eq_true, bne_self_eq_false, BitVec.reduceBEq, BitVec.reduceBNe, BitVec.reduceOfInt, BitVec.reduceSetWidth, wrD, engS0, engS1, engS2, engS3, engS4, engS5, engS6, engS7, engS8, engS9, engU0, engT0, engT1, engT2, Fx.t1, Fx.t3, Fx.t4, Fx.t5, Fx.t23, Fx.t25, Fx.t91, Fx.t92, Fx.t137, Fx.t138, Fx.t139, Fx.en53, Fx.en54, Fx.en55, Fx.en57, Fx.en59, Fx.en61, Fx.en63, Fx.en65, Fx.en66, g6, w1]
      exact UpX_normal h (m7, N7) ⟨_, _, H4⟩ (Le.sameT (Nat.zero_le _) ⟨rfl, rfl, rfl, rfl, rfl, rfl, trivial⟩ (memSame_slf D4.nd) D4.nd)
  · have hi2 : i = 4 * jn := by omega
    subst hi2
    have g1 : decide (((4 * jn : Nat) : Int) < ((4 * jn : Nat) : Int)) = false := decide_eq_false (by omega)
    obtain ⟨e1, e3, e4, e5⟩ := H.M.all H.su
    obtain ⟨Qv, Ov, qs, os, born, P⟩ := H.P
    simp (config := { maxSteps := 1000000, implicitDefEqProofs := false }) only [-List.reduceReplicate, Nat.reduceBEq, renA, renL, renM, renO, evx, evs, evp, Eng.look, cst, cst1, putd, dstOk, params, loadx, partx, loI, hiI, bltx, mmI, boxx, srcx, calx, nilx, upd, del, resv, fillA, setMany, Nat.reduceLT, Nat.reduceLeDiff, Nat.reduceEqDiff, Nat.reduceAdd, Nat.reduceMul, Nat.reduceSub, reduceIte, reduceCtorEq, if_true, if_false, ite_true, ite_false, eq_self, forall_const, implies_true, Int.reduceLT, Int.reduceLE, Int.reduceToNat, Int.reduceAdd, Int.reduceSub, Int.reduceNeg, ne_eq, Int.reduceEq, Int.reduceNe, Int.reduceBEq, Int.reduceBNe, beq_self_eq_true, bne_self_eq_false, BitVec.reduceBEq, BitVec.reduceBNe, BitVec.reduceOfInt, BitVec.reduceSetWidth, wrD, engS0, engS1, engS2, engS3, engS4, engS5, engS6, engS7, engS8, engS9, engU0, engT0, engT1, engT2, Fx.t1, Fx.t3, Fx.t4, Fx.t5, Fx.t23, Fx.t25, Fx.t91, Fx.t92, Fx.t137, Fx.t138, Fx.t139, Fx.en53, Fx.en54, Fx.en55, Fx.en57, Fx.en59, Fx.en61, Fx.en63, Fx.en65, Fx.en66, g1, w4]
    refine (CallG.any (outOk H.D H.lt P)).weak ?_
    rintro v m6 N6 ⟨q, rfl, c6, rfl, x6⟩
    obtain ⟨D6, lt6, k6⟩ := zM_rdm H.D H.lt c6 x6
    have H6 := H.ext x6 D6 lt6 k6
    have P6 := P.ext x6 k6
    have S6 := slAt_of (m := M) c6
    obtain ⟨y1, y2, y3, y4⟩ := S6.lenx
    have b1 : (((rngZ S.out).length : Int) != (jn : Int)) = false := by rw [rngZ_len, e1]; exact bne_self_eq_false _
    simp (config := { maxSteps := 1000000, implicitDefEqProofs := false }) only [-List.reduceReplicate, Nat.reduceBEq, renA, renL, renM, renO, evx, evs, evp, Eng.look, cst, cst1, putd, dstOk, params, loadx, partx, loI, hiI, bltx, mmI, boxx, srcx, calx, nilx, upd, del, resv, fillA, setMany, Nat.reduceLT, Nat.reduceLeDiff, Nat.reduceEqDiff, Nat.reduceAdd, Nat.reduceMul, Nat.reduceSub, reduceIte, reduceCtorEq, if_true, if_false, ite_true, ite_false, eq_self, forall_const, implies_true, Int.reduceLT, Int.reduceLE, Int.reduceToNat, Int.reduceAdd, Int.reduceSub, Int.reduceNeg, ne_eq, Int.reduceEq, Int.reduceNe, Int.reduceBEq, Int.reduceBNe, beq_self_eq_true, bne_self_eq_false, BitVec.reduceBEq, BitVec.reduceBNe, BitVec.reduceOfInt, BitVec.reduceSetWidth, wrD, engS0, engS1, engS2, engS3, engS4, engS5, engS6, engS7, engS8, engS9, engU0, engT0, engT1, engT2, Fx.t1, Fx.t3, Fx.t4, Fx.t5, Fx.t23, Fx.t25, Fx.t91, Fx.t92, Fx.t137, Fx.t138, Fx.t139, Fx.en53, Fx.en54, Fx.en55, Fx.en57, Fx.en59, Fx.en61, Fx.en63, Fx.en65, Fx.en66, y1, y2, y3, y4, b1, Fx.t91]
    refine (CallG.any (doneOk D6 P6)).weak ?_
    rintro v m7 N7 ⟨rfl, rfl, rfl⟩
    simp (config := { maxSteps := 1000000, implicitDefEqProofs := false }) only [-List.reduceReplicate, Nat.reduceBEq, renA, renL, renM, renO, evx, evs, evp, Eng.look, cst, cst1, putd, dstOk, params, loadx, partx, loI, hiI, bltx, mmI, boxx, srcx, calx, nilx, upd, del, resv, fillA, setMany, Nat.reduceLT, Nat.reduceLeDiff, Nat.reduceEqDiff, Nat.reduceAdd, Nat.reduceMul, Nat.reduceSub, reduceIte, reduceCtorEq, if_true, if_false, ite_true, ite_false, eq_self, forall_const, implies_true, Int.reduceLT, Int.reduceLE, Int.reduceToNat, Int.reduceAdd, Int.reduceSub, Int.reduceNeg, ne_eq, Int.reduceEq, Int.reduceNe, Int.reduceBEq, Int.reduceBNe, beq_self_eq_true, bne_self_eq_false, BitVec.reduceBEq, BitVec.reduceBNe, BitVec.reduceOfInt, BitVec.reduceSetWidth, wrD, engS0, engS1, engS2, engS3, engS4, engS5, engS6, engS7, engS8, engS9, engU0, engT0, engT1, engT2, Fx.t1, Fx.t3, Fx.t4, Fx.t5, Fx.t23, Fx.t25, Fx.t91, Fx.t92, Fx.t137, Fx.t138, Fx.t139, Fx.en53, Fx.en54, Fx.en55, Fx.en57, Fx.en59, Fx.en61, Fx.en63, Fx.en65, Fx.en66, decide_eq_true e1]
    refine (CallG.any (enPOk D6 lt6 P6)).weak ?_
    rintro v m8 N8 ⟨q8, rfl, c8, rfl, x8⟩
    rw [e5] at c8 ⊢
    obtain ⟨D8, lt8, k8⟩ := zM_rdm D6 lt6 c8 x8
    have P8 := P6.ext x8 k8
    have S8 := slAt_of (m := zM (rngZ S.out) q ++ M) c8
    obtain ⟨y5, y6, y7, y8⟩ := S8.lenx
    simp (config := { maxSteps := 1000000, implicitDefEqProofs := false }) only [-List.reduceReplicate, Nat.reduceBEq, renA, renL, renM, renO, evx, evs, evp, Eng.look, cst, cst1, putd, dstOk, params, loadx, partx, loI, hiI, bltx, mmI, boxx, srcx, calx, nilx, upd, del, resv, fillA, setMany, Nat.reduceLT, Nat.reduceLeDiff, Nat.reduceEqDiff, Nat.reduceAdd, Nat.reduceMul, Nat.reduceSub, reduceIte, reduceCtorEq, if_true, if_false, ite_true, ite_false, eq_self, forall_const, implies_true, Int.reduceLT, Int.reduceLE, Int.reduceToNat, Int.reduceAdd, Int.reduceSub, Int.reduceNeg, ne_eq, Int.reduceEq, Int.reduceNe, Int.reduceBEq, Int.reduceBNe, beq_self_eq_true, bne_self_eq_false, BitVec.reduceBEq, BitVec.reduceBNe, BitVec.reduceOfInt, BitVec.reduceSetWidth, wrD, engS0, engS1, engS2, engS3, engS4, engS5, engS6, engS7, engS8, engS9, engU0, engT0, engT1, engT2, Fx.t1, Fx.t3, Fx.t4, Fx.t5, Fx.t23, Fx.t25, Fx.t91, Fx.t92, Fx.t137, Fx.t138, Fx.t139, Fx.en53, Fx.en54, Fx.en55, Fx.en57, Fx.en59, Fx.en61, Fx.en63, Fx.en65, Fx.en66, y5, y6, y7, y8, Fx.t91]
    refine (CallG.any (aliveOk D8 P8)).weak ?_
    rintro v m9 N9 ⟨rfl, rfl, rfl⟩
    have b3 : (((S.next : Int) - (S.out : Int)) != 0) = false := by rw [e1, e3, Int.sub_self]; rfl
    simp (config := { maxSteps := 1000000, implicitDefEqProofs := false }) only [-List.reduceReplicate, Nat.reduceBEq, renA, renL, renM, renO, evx, evs, evp, Eng.look, cst, cst1, putd, dstOk, params, loadx, partx, loI, hiI, bltx, mmI, boxx, srcx, calx, nilx, upd, del, resv, fillA, setMany, Nat.reduceLT, Nat.reduceLeDiff, Nat.reduceEqDiff, Nat.reduceAdd, Nat.reduceMul, Nat.reduceSub, reduceIte, reduceCtorEq, if_true, if_false, ite_true, ite_false, eq_self, forall_const, implies_true, Int.reduceLT, Int.reduceLE, Int.reduceToNat, Int.reduceAdd, Int.reduceSub, Int.reduceNeg, ne_eq, Int.reduceEq, Int.reduceNe, Int.reduceBEq, Int.reduceBNe, beq_self_eq_true, bne_self_eq_false, BitVec.reduceBEq, BitVec.reduceBNe, BitVec.reduceOfInt, BitVec.reduceSetWidth, wrD, engS0, engS1, engS2, engS3, engS4, engS5, engS6, engS7, engS8, engS9, engU0, engT0, engT1, engT2, Fx.t1, Fx.t3, Fx.t4, Fx.t5, Fx.t23, Fx.t25, Fx.t91, Fx.t92, Fx.t137, Fx.t138, Fx.t139, Fx.en53, Fx.en54, Fx.en55, Fx.en57, Fx.en59, Fx.en61, Fx.en63, Fx.en65, Fx.en66, b3]
    refine (CallG.any (waitingOk D8 P8)).weak ?_
    rintro v m10 N10 ⟨rfl, rfl, rfl⟩
    simp (config := { maxSteps := 1000000, implicitDefEqProofs := false }) only [-List.reduceReplicate, Nat.reduceBEq, renA, renL, renM, renO, evx, evs, evp, Eng.look, cst, cst1, putd, dstOk, params, loadx, partx, loI, hiI, bltx, mmI, boxx, srcx, calx, nilx, upd, del, resv, fillA, setMany, Nat.reduceLT, Nat.reduceLeDiff, Nat.reduceEqDiff, Nat.reduceAdd, Nat.reduceMul, Nat.reduceSub, reduceIte, reduceCtorEq, if_true, if_false, ite_true, ite_false, eq_self, forall_const, implies_true, Int.reduceLT, Int.reduceLE, Int.reduceToNat, Int.reduceAdd, Int.reduceSub, Int.reduceNeg, ne_eq, Int.reduceEq, Int.reduceNe, Int.reduceBEq, Int.reduceBNe, beq_self_eq_true, bne_self_eq_false, BitVec.reduceBEq, BitVec.reduceBNe, BitVec.reduceOfInt, BitVec.reduceSetWidth, wrD, engS0, engS1, engS2, engS3, engS4, engS5, engS6, engS7, engS8, engS9, engU0, engT0, engT1, engT2, Fx.t1, Fx.t3, Fx.t4, Fx.t5, Fx.t23, Fx.t25, Fx.t91, Fx.t92, Fx.t137, Fx.t138, Fx.t139, Fx.en53, Fx.en54, Fx.en55, Fx.en57, Fx.en59, Fx.en61, Fx.en63, Fx.en65, Fx.en66, e4]
    have S6 := S6.ext x8 k8
    obtain ⟨v6, hv6⟩ : ∃ v6 : AV, v6 = zA (rngZ S.out) q := ⟨_, rfl⟩
    obtain ⟨M9, hM9⟩ : ∃ M9 : Mem, M9 = zM [] q8 ++ (zM (rngZ S.out) q ++ M) := ⟨_, rfl⟩
    rw [← hv6, ← hM9] at S6 ⊢
    rw [← hM9] at D8
    rw [e1] at S6
    refine LoopOk.up jn (fun i => ([(17, .int .i64 (i : Nat)), (16, v6), (0, .int .i64 jn)], _, _)) (Le.sameT (Nat.zero_le _) ⟨rfl, rfl, rfl, trivial⟩ (memSame_slf D8.nd) D8.nd) ?_
    intro i hi
    rcases Nat.lt_or_ge i jn with k | k
    · have g2 : decide ((i : Int) < (jn : Int)) = true := decide_eq_true (by omega)
      have w1 : IntKind.i64.wrap ((i : Int) + 1) = ((i + 1 : Nat) : Int) := by rw [wrap_i64] <;> omega
      rcases S6 with ⟨_, h0⟩ | ⟨n, cap, sp, rfl, hn, _⟩
      · have := congrArg List.length h0
        rw [rngZ_len] at this
        have : jn = 0 := this
        omega
      · have hg := zs_get (rngZ jn) (sp.map AV.val) i (by rw [rngZ_len]; exact k)
        rw [rngZ_get jn i k] at hg
        simp (config := { maxSteps := 1000000, implicitDefEqProofs := false }) only [-List.reduceReplicate, Nat.reduceBEq, renA, renL, renM, renO, evx, evs, evp, Eng.look, cst, cst1, putd, dstOk, params, loadx, partx, loI, hiI, bltx, mmI, boxx, srcx, calx, nilx, upd, del, resv, fillA, setMany, Nat.reduceLT, Nat.reduceLeDiff, Nat.reduceEqDiff, Nat.reduceAdd, Nat.reduceMul, Nat.reduceSub, reduceIte, reduceCtorEq, if_true, if_false, ite_true, ite_false, eq_self, forall_const, implies_true, Int.reduceLT, Int.reduceLE, Int.reduceToNat, Int.reduceAdd, Int.reduceSub, Int.reduceNeg, ne_eq, Int.reduceEq, Int.reduceNe, Int.reduceBEq, Int.reduceBNe, beq_self_eq_true, bne_self_eq_false, BitVec.reduceBEq, BitVec.reduceBNe, BitVec.reduceOfInt, BitVec.reduceSetWidth, wrD, engS0, engS1, engS2, engS3, engS4, engS5, engS6, engS7, engS8, engS9, engU0, engT0, engT1, engT2, Fx.t1, Fx.t3, Fx.t4, Fx.t5, Fx.t23, Fx.t25, Fx.t91, Fx.t92, Fx.t137, Fx.t138, Fx.t139, Fx.en53, Fx.en54, Fx.en55, Fx.en57, Fx.en59, Fx.en61, Fx.en63, Fx.en65, Fx.en66, g2, hn, zRow, hg, zs_len, rngZ_len, w1, bne_self_eq_false]
        refine ⟨by omega, by omega, ?_⟩
        exact UpK_normal k (Le.sameT (Nat.zero_le _) ⟨rfl, rfl, rfl, trivial⟩ (memSame_slf D8.nd) D8.nd)
    · have hij : i = jn := by omega
      subst hij
      have g2 : decide ((i : Int) < (i : Int)) = false := decide_eq_false (by omega)
      simp (config := { maxSteps := 1000000, implicitDefEqProofs := false }) only [-List.reduceReplicate, Nat.reduceBEq, renA, renL, renM, renO, evx, evs, evp, Eng.look, cst, cst1, putd, dstOk, params, loadx, partx, loI, hiI, bltx, mmI, boxx, srcx, calx, nilx, upd, del, resv, fillA, setMany, Nat.reduceLT, Nat.reduceLeDiff, Nat.reduceEqDiff, Nat.reduceAdd, Nat.reduceMul, Nat.reduceSub, reduceIte, reduceCtorEq, if_true, if_false, ite_true, ite_false, eq_self, forall_const, implies_true, Int.reduceLT, Int.reduceLE, Int.reduceToNat, Int.reduceAdd, Int.reduceSub, Int.reduceNeg, ne_eq, Int.reduceEq, Int.reduceNe, Int.reduceBEq, Int.reduceBNe, beq_self_eq_true, bne_self_eq_false, BitVec.reduceBEq, BitVec.reduceBNe, BitVec.reduceOfInt, BitVec.reduceSetWidth, wrD, engS0, engS1, engS2, engS3, engS4, engS5, engS6, engS7, engS8, engS9, engU0, engT0, engT1, engT2, Fx.t1, Fx.t3, Fx.t4, Fx.t5, Fx.t23, Fx.t25, Fx.t91, Fx.t92, Fx.t137, Fx.t138, Fx.t139, Fx.en53, Fx.en54, Fx.en55, Fx.en57, Fx.en59, Fx.en61, Fx.en63, Fx.en65, Fx.en66, g2]
      refine kn21 ?_
      simp (config := { maxSteps := 1000000, implicitDefEqProofs := false }) only [-List.reduceReplicate, Nat.reduceBEq, renA, renL, renM, renO, evx, evs, evp, Eng.look, cst, cst1, putd, dstOk, params, loadx, partx, loI, hiI, bltx, mmI, boxx, srcx, calx, nilx, upd, del, resv, fillA, setMany, Nat.reduceLT, Nat.reduceLeDiff, Nat.reduceEqDiff, Nat.reduceAdd, Nat.reduceMul, Nat.reduceSub, reduceIte, reduceCtorEq, if_true, if_false, ite_true, ite_false, eq_self, forall_const, implies_true, Int.reduceLT, Int.reduceLE, Int.reduceToNat, Int.reduceAdd, Int.reduceSub, Int.reduceNeg, ne_eq, Int.reduceEq, Int.reduceNe, Int.reduceBEq, Int.reduceBNe, beq_self_eq_true, bne_self_eq_false, BitVec.reduceBEq, BitVec.reduceBNe, BitVec.reduceOfInt, BitVec.reduceSetWidth, wrD, engS0, engS1, engS2, engS3, engS4, engS5, engS6, engS7, engS8, engS9, engU0, engT0, engT1, engT2, Fx.t1, Fx.t3, Fx.t4, Fx.t5, Fx.t23, Fx.t25, Fx.t91, Fx.t92, Fx.t137, Fx.t138, Fx.t139, Fx.en53, Fx.en54, Fx.en55, Fx.en57, Fx.en59, Fx.en61, Fx.en63, Fx.en65, Fx.en66]
      exact Fin.flatv (fun _ => rfl) (fun _ => rfl) rfl
end Go.Proofs.Ytmnbbpckglppjaa
