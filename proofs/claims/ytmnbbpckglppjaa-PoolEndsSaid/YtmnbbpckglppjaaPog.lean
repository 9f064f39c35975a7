/- Turns: a worker goes on. -/
import Derived.Test.YtmnbbpckglppjaaEng19
import Derived.Test.YtmnbbpckglppjaaEng26
import Derived.Test.YtmnbbpckglppjaaPof
set_option linter.unusedVariables false
set_option linter.unusedSimpArgs false
set_option maxRecDepth 100000
namespace Go.Proofs.Ytmnbbpckglppjaa
open Go Go.Eng

def wkJ (S : PS) (i : Nat) : Int × Bool := if S.busy.getD i 0 = -1 then (match S.q with | [] => (0, false) | h :: _ => (h, true)) else (S.busy.getD i 0, true)
def wkS (S : PS) (i : Nat) : PS := if S.busy.getD i 0 = -1 then (match S.q with | [] => S | h :: t => ⟨S.next, t, S.busy.set i h, S.ws, S.out⟩) else ⟨S.next, S.q, S.busy.set i (-1), S.ws ++ [S.busy.getD i 0], S.out⟩
section
variable {wr : Nat → Bool} {m : Mem} {nx a b c jobs room : Nat} {S : PS} {Qv Ov : AV} {qs os born : List Nat}
theorem workF (D : Rdm wr m nx) (P : PoolAt m nx a b c jobs room S Qv Ov qs os born) (i : Nat) (hi : i < S.busy.length) : CallG false Try.prog 96 [.ptr a 0, .int .i64 i, .bool false] wr m nx (Kr (.tup [.int .i64 (wkJ S i).1, .bool (wkJ S i).2]) m nx) := by
  refine fn_okG Try.func96 rfl (by show 3 ≤ _; decide) ?_
  have o := P.o
  have bz := P.bz
  have hg := zs_get' S.busy i hi
  by_cases h : S.busy.getD i 0 = -1
  · have b1 : (S.busy.getD i 0 != -1) = false := by rw [h]; rfl
    have b2 : (S.busy.getD i 0 == -1) = true := by rw [h]; rfl
    rw [wkJ, if_pos h]
    rcases P.qu with ⟨rfl, h0, _⟩ | ⟨n, off, cap, pre, sp, rfl, _, hn, hp, c1, c2, c3⟩
    · rw [h0]
      simp (config := { maxSteps := 1000000, implicitDefEqProofs := false }) only [-List.reduceReplicate, Nat.reduceBEq, renA, renL, renM, renO, evx, evs, evp, Eng.look, cst, cst1, putd, dstOk, params, loadx, partx, loI, hiI, bltx, mmI, boxx, srcx, calx, nilx, upd, del, resv, fillA, setMany, Nat.reduceLT, Nat.reduceLeDiff, Nat.reduceEqDiff, Nat.reduceAdd, Nat.reduceMul, Nat.reduceSub, reduceIte, reduceCtorEq, if_true, if_false, ite_true, ite_false, eq_self, forall_const, implies_true, Int.reduceLT, Int.reduceLE, Int.reduceToNat, Int.reduceAdd, Int.reduceSub, Int.reduceNeg, ne_eq, Int.reduceEq, Int.reduceNe, Int.reduceBEq, Int.reduceBNe, beq_self_eq_true, bne_self_eq_false, BitVec.reduceBEq, BitVec.reduceBNe, BitVec.reduceOfInt, BitVec.reduceSetWidth, wrD, engS0, engS1, engS2, engS3, engS4, engS5, engS6, engS7, engS8, engS9, engU0, engT0, engT1, engT2, Fx.t1, Fx.t3, Fx.t4, Fx.t5, Fx.t91, Fx.t92, Fx.t137, Fx.t138, Fx.t139, Try.results96, Try.ntmps96, o, bz, hg, b1, b2, zs_len]
      refine ⟨by omega, by omega, ?_⟩
      exact D.fin _
    · cases hq : S.q with
      | nil =>
        rw [hq] at o
        have o : Eng.look m a = some (.cells [.int .i64 jobs, .int .i64 room, .int .i64 S.next, .sl n off 0 cap, .sl b 0 S.busy.length S.busy.length, .map c, Ov] 139) := o
        simp (config := { maxSteps := 1000000, implicitDefEqProofs := false }) only [-List.reduceReplicate, Nat.reduceBEq, renA, renL, renM, renO, evx, evs, evp, Eng.look, cst, cst1, putd, dstOk, params, loadx, partx, loI, hiI, bltx, mmI, boxx, srcx, calx, nilx, upd, del, resv, fillA, setMany, Nat.reduceLT, Nat.reduceLeDiff, Nat.reduceEqDiff, Nat.reduceAdd, Nat.reduceMul, Nat.reduceSub, reduceIte, reduceCtorEq, if_true, if_false, ite_true, ite_false, eq_self, forall_const, implies_true, Int.reduceLT, Int.reduceLE, Int.reduceToNat, Int.reduceAdd, Int.reduceSub, Int.reduceNeg, ne_eq, Int.reduceEq, Int.reduceNe, Int.reduceBEq, Int.reduceBNe, beq_self_eq_true, bne_self_eq_false, BitVec.reduceBEq, BitVec.reduceBNe, BitVec.reduceOfInt, BitVec.reduceSetWidth, wrD, engS0, engS1, engS2, engS3, engS4, engS5, engS6, engS7, engS8, engS9, engU0, engT0, engT1, engT2, Fx.t1, Fx.t3, Fx.t4, Fx.t5, Fx.t91, Fx.t92, Fx.t137, Fx.t138, Fx.t139, Try.results96, Try.ntmps96, o, bz, hg, b1, b2, zs_len]
        refine ⟨by omega, by omega, ?_⟩
        exact D.fin _
      | cons x t =>
        rw [hq] at o hn
        have k1 : ((((x :: t).length : Nat) : Int) == 0) = false := by
          rw [List.length_cons]; simp; omega
        have hr : (pre ++ (zs (x :: t) ++ sp)).getD off (.int .i64 0) = .int .i64 x := by
          rw [← hp, List.getD_eq_getElem?_getD, List.getElem?_append_right (Nat.le_refl _), Nat.sub_self]; rfl
        have hlen : (t.length + 1 : Nat) = (x :: t).length := rfl
        have k1' : (((t.length + 1 : Nat) : Int) == 0) = false := k1
        simp (config := { maxSteps := 1000000, implicitDefEqProofs := false }) only [-List.reduceReplicate, Nat.reduceBEq, renA, renL, renM, renO, evx, evs, evp, Eng.look, cst, cst1, putd, dstOk, params, loadx, partx, loI, hiI, bltx, mmI, boxx, srcx, calx, nilx, upd, del, resv, fillA, setMany, Nat.reduceLT, Nat.reduceLeDiff, Nat.reduceEqDiff, Nat.reduceAdd, Nat.reduceMul, Nat.reduceSub, reduceIte, reduceCtorEq, if_true, if_false, ite_true, ite_false, eq_self, forall_const, implies_true, Int.reduceLT, Int.reduceLE, Int.reduceToNat, Int.reduceAdd, Int.reduceSub, Int.reduceNeg, ne_eq, Int.reduceEq, Int.reduceNe, Int.reduceBEq, Int.reduceBNe, beq_self_eq_true, bne_self_eq_false, BitVec.reduceBEq, BitVec.reduceBNe, BitVec.reduceOfInt, BitVec.reduceSetWidth, wrD, engS0, engS1, engS2, engS3, engS4, engS5, engS6, engS7, engS8, engS9, engU0, engT0, engT1, engT2, Fx.t1, Fx.t3, Fx.t4, Fx.t5, Fx.t91, Fx.t92, Fx.t137, Fx.t138, Fx.t139, Try.results96, Try.ntmps96, o, bz, hg, b1, b2, k1, k1', zs_len]
        refine ⟨by omega, by omega, ?_⟩
        simp (config := { maxSteps := 1000000, implicitDefEqProofs := false }) only [-List.reduceReplicate, Nat.reduceBEq, renA, renL, renM, renO, evx, evs, evp, Eng.look, cst, cst1, putd, dstOk, params, loadx, partx, loI, hiI, bltx, mmI, boxx, srcx, calx, nilx, upd, del, resv, fillA, setMany, Nat.reduceLT, Nat.reduceLeDiff, Nat.reduceEqDiff, Nat.reduceAdd, Nat.reduceMul, Nat.reduceSub, reduceIte, reduceCtorEq, if_true, if_false, ite_true, ite_false, eq_self, forall_const, implies_true, Int.reduceLT, Int.reduceLE, Int.reduceToNat, Int.reduceAdd, Int.reduceSub, Int.reduceNeg, ne_eq, Int.reduceEq, Int.reduceNe, Int.reduceBEq, Int.reduceBNe, beq_self_eq_true, bne_self_eq_false, BitVec.reduceBEq, BitVec.reduceBNe, BitVec.reduceOfInt, BitVec.reduceSetWidth, wrD, engS0, engS1, engS2, engS3, engS4, engS5, engS6, engS7, engS8, engS9, engU0, engT0, engT1, engT2, Fx.t1, Fx.t3, Fx.t4, Fx.t5, Fx.t91, Fx.t92, Fx.t137, Fx.t138, Fx.t139, b1, b2, o, hn, hr]
        refine ⟨by omega, by rw [zs_len, List.length_cons]; omega, ?_⟩
        exact D.fin _
  · have b1 : (S.busy.getD i 0 != -1) = true := by simpa using h
    have b2 : (S.busy.getD i 0 == -1) = false := by simpa using h
    rw [wkJ, if_neg h]
    simp (config := { maxSteps := 1000000, implicitDefEqProofs := false }) only [-List.reduceReplicate, Nat.reduceBEq, renA, renL, renM, renO, evx, evs, evp, Eng.look, cst, cst1, putd, dstOk, params, loadx, partx, loI, hiI, bltx, mmI, boxx, srcx, calx, nilx, upd, del, resv, fillA, setMany, Nat.reduceLT, Nat.reduceLeDiff, Nat.reduceEqDiff, Nat.reduceAdd, Nat.reduceMul, Nat.reduceSub, reduceIte, reduceCtorEq, if_true, if_false, ite_true, ite_false, eq_self, forall_const, implies_true, Int.reduceLT, Int.reduceLE, Int.reduceToNat, Int.reduceAdd, Int.reduceSub, Int.reduceNeg, ne_eq, Int.reduceEq, Int.reduceNe, Int.reduceBEq, Int.reduceBNe, beq_self_eq_true, bne_self_eq_false, BitVec.reduceBEq, BitVec.reduceBNe, BitVec.reduceOfInt, BitVec.reduceSetWidth, wrD, engS0, engS1, engS2, engS3, engS4, engS5, engS6, engS7, engS8, engS9, engU0, engT0, engT1, engT2, Fx.t1, Fx.t3, Fx.t4, Fx.t5, Fx.t91, Fx.t92, Fx.t137, Fx.t138, Fx.t139, Try.results96, Try.ntmps96, o, bz, hg, b1, b2, zs_len]
    refine ⟨by omega, by omega, ?_⟩
    exact D.fin _
set_option maxHeartbeats 4000000 in
theorem workT (D : Rdm (fun _ => true) m nx) (hlt : ∀ p ∈ m, p.1 < nx) (P : PoolAt m nx a b c jobs room S Qv Ov qs os born) (i : Nat) (hi : i < S.busy.length) (hj : S.busy.getD i 0 ≠ -1 → S.busy.getD i 0 ∉ S.ws) : CallG false Try.prog 96 [.ptr a 0, .int .i64 i, .bool true] (fun _ => true) m nx
    (PoolK a b c jobs room (wkS S i) (.tup [.int .i64 (wkJ S i).1, .bool (wkJ S i).2]) (a :: b :: c :: (qs ++ os)) m nx) := by
  refine fn_okG Try.func96 rfl (by show 3 ≤ _; decide) ?_
  have o := P.o
  have bz := P.bz
  have mp := P.mp
  have hg := zs_get' S.busy i hi
  obtain ⟨n1, n2, n3, n4, n5⟩ := P.ab
  have bn : b < nx := P.lt b (by simp)
  have cn : c < nx := P.lt c (by simp)
  have an := P.an
  have f1 : decide (nx ≤ a) = false := decide_eq_false (by omega)
  have a1 : (a == b) = false := by simpa using n1
  have a2 : (a == c) = false := by simpa using n2
  have a3 : (b == a) = false := by simpa using n1.symm
  have a4 : (c == b) = false := by simpa using n3.symm
  have same : ∀ (V : AV), Eng.Fin nx (fun _ => true) m nx (PoolK a b c jobs room S V (a :: b :: c :: (qs ++ os)) m nx) V := fun V => Fin.keepW (m0 := m) (Nat.le_refl _) (memSame_slf D.nd) D.nd D.kp (PoolK.same D hlt P V)
  by_cases h : S.busy.getD i 0 = -1
  · have b1 : (S.busy.getD i 0 != -1) = false := by rw [h]; rfl
    have b2 : (S.busy.getD i 0 == -1) = true := by rw [h]; rfl
    rw [wkJ, if_pos h, wkS, if_pos h]
    rcases P.qu with ⟨hv, h0, hqs⟩ | ⟨n, off, cap, pre, sp, hv, hqs, hn, hp, c1, c2, c3⟩
    · rw [h0]
      rw [hv] at o
      simp (config := { maxSteps := 1000000, implicitDefEqProofs := false }) only [-List.reduceReplicate, Nat.reduceBEq, renA, renL, renM, renO, evx, evs, evp, Eng.look, cst, cst1, putd, dstOk, params, loadx, partx, loI, hiI, bltx, mmI, boxx, srcx, calx, nilx, upd, del, resv, fillA, setMany, Nat.reduceLT, Nat.reduceLeDiff, Nat.reduceEqDiff, Nat.reduceAdd, Nat.reduceMul, Nat.reduceSub, reduceIte, reduceCtorEq, if_true, if_false, ite_true, ite_false, eq_self, forall_const, implies_true, Int.reduceLT, Int.reduceLE, Int.reduceToNat, Int.reduceAdd, Int.reduceSub, Int.reduceNeg, ne_eq, Int.reduceEq, Int.reduceNe, Int.reduceBEq, Int.reduceBNe, beq_self_eq_true, bne_self_eq_false, BitVec.reduceBEq, BitVec.reduceBNe, BitVec.reduceOfInt, BitVec.reduceSetWidth, wrD, engS0, engS1, engS2, engS3, engS4, engS5, engS6, engS7, engS8, engS9, engU0, engT0, engT1, engT2, Fx.t1, Fx.t3, Fx.t4, Fx.t5, Fx.t91, Fx.t92, Fx.t137, Fx.t138, Fx.t139, Try.results96, Try.ntmps96, o, bz, hg, b1, b2, zs_len]
      refine ⟨by omega, by omega, ?_⟩
      exact same _
    · cases hq : S.q with
      | nil =>
        rw [hv, hq] at o
        have o : Eng.look m a = some (.cells [.int .i64 jobs, .int .i64 room, .int .i64 S.next, .sl n off 0 cap, .sl b 0 S.busy.length S.busy.length, .map c, Ov] 139) := o
        simp (config := { maxSteps := 1000000, implicitDefEqProofs := false }) only [-List.reduceReplicate, Nat.reduceBEq, renA, renL, renM, renO, evx, evs, evp, Eng.look, cst, cst1, putd, dstOk, params, loadx, partx, loI, hiI, bltx, mmI, boxx, srcx, calx, nilx, upd, del, resv, fillA, setMany, Nat.reduceLT, Nat.reduceLeDiff, Nat.reduceEqDiff, Nat.reduceAdd, Nat.reduceMul, Nat.reduceSub, reduceIte, reduceCtorEq, if_true, if_false, ite_true, ite_false, eq_self, forall_const, implies_true, Int.reduceLT, Int.reduceLE, Int.reduceToNat, Int.reduceAdd, Int.reduceSub, Int.reduceNeg, ne_eq, Int.reduceEq, Int.reduceNe, Int.reduceBEq, Int.reduceBNe, beq_self_eq_true, bne_self_eq_false, BitVec.reduceBEq, BitVec.reduceBNe, BitVec.reduceOfInt, BitVec.reduceSetWidth, wrD, engS0, engS1, engS2, engS3, engS4, engS5, engS6, engS7, engS8, engS9, engU0, engT0, engT1, engT2, Fx.t1, Fx.t3, Fx.t4, Fx.t5, Fx.t91, Fx.t92, Fx.t137, Fx.t138, Fx.t139, Try.results96, Try.ntmps96, o, bz, hg, b1, b2, zs_len]
        refine ⟨by omega, by omega, ?_⟩
        exact same _
      | cons x t =>
        rw [hq] at hn c1 c2
        rw [hv, hq] at o
        rw [List.length_cons] at c1 c2
        have k1 : ((((x :: t).length : Nat) : Int) == 0) = false := by
          rw [List.length_cons]; simp; omega
        have hr : (pre ++ (zs (x :: t) ++ sp)).getD off (.int .i64 0) = .int .i64 x := by
          rw [← hp, List.getD_eq_getElem?_getD, List.getElem?_append_right (Nat.le_refl _), Nat.sub_self]; rfl
        have k1' : (((t.length + 1 : Nat) : Int) == 0) = false := k1
        have na : a ≠ n := fun e => (n4 n (by rw [hqs]; simp)).1 e.symm
        have nb : b ≠ n := fun e => (n4 n (by rw [hqs]; simp)).2.1 e.symm
        have nc : c ≠ n := fun e => (n4 n (by rw [hqs]; simp)).2.2 e.symm
        simp (config := { maxSteps := 1000000, implicitDefEqProofs := false }) only [-List.reduceReplicate, Nat.reduceBEq, renA, renL, renM, renO, evx, evs, evp, Eng.look, cst, cst1, putd, dstOk, params, loadx, partx, loI, hiI, bltx, mmI, boxx, srcx, calx, nilx, upd, del, resv, fillA, setMany, Nat.reduceLT, Nat.reduceLeDiff, Nat.reduceEqDiff, Nat.reduceAdd, Nat.reduceMul, Nat.reduceSub, reduceIte, reduceCtorEq, if_true, if_false, ite_true, ite_false, eq_self, forall_const, implies_true, Int.reduceLT, Int.reduceLE, Int.reduceToNat, Int.reduceAdd, Int.reduceSub, Int.reduceNeg, ne_eq, Int.reduceEq, Int.reduceNe, Int.reduceBEq, Int.reduceBNe, beq_self_eq_true, bne_self_eq_false, BitVec.reduceBEq, BitVec.reduceBNe, BitVec.reduceOfInt, BitVec.reduceSetWidth, wrD, engS0, engS1, engS2, engS3, engS4, engS5, engS6, engS7, engS8, engS9, engU0, engT0, engT1, engT2, Fx.t1, Fx.t3, Fx.t4, Fx.t5, Fx.t91, Fx.t92, Fx.t137, Fx.t138, Fx.t139, Try.results96, Try.ntmps96, o, bz, hg, b1, b2, k1, k1', zs_len]
        refine ⟨by omega, by omega, ?_⟩
        simp (config := { maxSteps := 1000000, implicitDefEqProofs := false }) only [-List.reduceReplicate, Nat.reduceBEq, renA, renL, renM, renO, evx, evs, evp, Eng.look, cst, cst1, putd, dstOk, params, loadx, partx, loI, hiI, bltx, mmI, boxx, srcx, calx, nilx, upd, del, resv, fillA, setMany, Nat.reduceLT, Nat.reduceLeDiff, Nat.reduceEqDiff, Nat.reduceAdd, Nat.reduceMul, Nat.reduceSub, reduceIte, reduceCtorEq, if_true, if_false, ite_true, ite_false, eq_self, forall_const, implies_true, Int.reduceLT, Int.reduceLE, Int.reduceToNat, Int.reduceAdd, Int.reduceSub, Int.reduceNeg, ne_eq, Int.reduceEq, Int.reduceNe, Int.reduceBEq, Int.reduceBNe, beq_self_eq_true, bne_self_eq_false, BitVec.reduceBEq, BitVec.reduceBNe, BitVec.reduceOfInt, BitVec.reduceSetWidth, wrD, engS0, engS1, engS2, engS3, engS4, engS5, engS6, engS7, engS8, engS9, engU0, engT0, engT1, engT2, Fx.t1, Fx.t3, Fx.t4, Fx.t5, Fx.t91, Fx.t92, Fx.t137, Fx.t138, Fx.t139, b1, b2, o, hn, hr]
        refine ⟨by omega, by rw [zs_len, List.length_cons]; omega, ?_⟩
        refine ⟨Fx.mixed, .inr (.inl ⟨[(0, false), (1, false), (2, false), (3, false), (4, false), (5, false), (6, false), (7, false), (8, false), (9, false), (10, false), (11, false), (12, false), (13, true), (14, false), (15, false), (16, true)], [a, b], [13, 16], [3, 10], by kernel_rfl, by kernel_rfl, (fun k hn => by rcases List.mem_cons.1 hn with rfl | hn; exact ⟨rfl, by rw [o]; rfl⟩; cases List.mem_singleton.1 hn; exact ⟨rfl, by rw [bz]; rfl⟩), ?_⟩)⟩
        have ob : ∀ X, Eng.look (Eng.upd m b X) a = some (.cells [.int .i64 jobs, .int .i64 room, .int .i64 S.next, .sl n off (x :: t).length cap, .sl b 0 S.busy.length S.busy.length, .map c, Ov] 139) := fun X => by rw [look_upd_other _ n1.symm]; exact o
        simp (config := { maxSteps := 1000000, implicitDefEqProofs := false }) only [-List.reduceReplicate, Nat.reduceBEq, renA, renL, renM, renO, evx, evs, evp, Eng.look, cst, cst1, putd, dstOk, params, loadx, partx, loI, hiI, bltx, mmI, boxx, srcx, calx, nilx, upd, del, resv, fillA, setMany, Nat.reduceLT, Nat.reduceLeDiff, Nat.reduceEqDiff, Nat.reduceAdd, Nat.reduceMul, Nat.reduceSub, reduceIte, reduceCtorEq, if_true, if_false, ite_true, ite_false, eq_self, forall_const, implies_true, Int.reduceLT, Int.reduceLE, Int.reduceToNat, Int.reduceAdd, Int.reduceSub, Int.reduceNeg, ne_eq, Int.reduceEq, Int.reduceNe, Int.reduceBEq, Int.reduceBNe, beq_self_eq_true, bne_self_eq_false, BitVec.reduceBEq, BitVec.reduceBNe, BitVec.reduceOfInt, BitVec.reduceSetWidth, wrD, engS0, engS1, engS2, engS3, engS4, engS5, engS6, engS7, engS8, engS9, engU0, engT0, engT1, engT2, Fx.t1, Fx.t3, Fx.t4, Fx.t5, Fx.t91, Fx.t92, Fx.t137, Fx.t138, Fx.t139, o, bz, f1, a1, a2, a3, zs_len, ob, zs_set]
        refine ⟨⟨by omega, by omega⟩, by omega, by omega, ?_⟩
        have DU := (D.upd b (.cells (zs (S.busy.set i x)) 3)).upd a (.cells [.int .i64 jobs, .int .i64 room, .int .i64 S.next, .sl n (off + 1) t.length (cap - 1), .sl b 0 S.busy.length S.busy.length, .map c, Ov] 139)
        have oth : ∀ k X, k ≠ a → k ≠ b → Eng.look m k = some X → Eng.look (Eng.upd (Eng.upd m b (.cells (zs (S.busy.set i x)) 3)) a (.cells [.int .i64 jobs, .int .i64 room, .int .i64 S.next, .sl n (off + 1) t.length (cap - 1), .sl b 0 S.busy.length S.busy.length, .map c, Ov] 139)) k = some X := fun k X h1 h2 h3 => by
          rw [look_upd_other _ (fun e => h1 e.symm), look_upd_other _ (fun e => h2 e.symm)]; exact h3
        refine Fin.keepW (m0 := Eng.upd (Eng.upd m b (.cells (zs (S.busy.set i x)) 3)) a (.cells [.int .i64 jobs, .int .i64 room, .int .i64 S.next, .sl n (off + 1) t.length (cap - 1), .sl b 0 S.busy.length S.busy.length, .map c, Ov] 139)) (Nat.le_refl _) (memSame_slf DU.nd) DU.nd DU.kp ⟨rfl, Nat.le_refl _, DU, upd_lt (upd_lt hlt b _) a _, ⟨.sl n (off + 1) t.length (cap - 1), Ov, qs, os, born, ⟨?_, ?_, oth c _ n2.symm n3.symm mp, P.bl, ?_, P.ou.ext fun k hk X hX => oth k X (n4 k (List.mem_append_right _ hk)).1 (n4 k (List.mem_append_right _ hk)).2.1 hX, P.nd, P.lt, P.z1, P.z2, by show (S.busy.set i x).length ≤ 64; rw [List.length_set]; exact P.z3, P.z4, P.z5, ?_⟩, fun k hk => .inl (by simp only [List.mem_cons]; exact .inr (.inr (.inr hk)))⟩, fun k X hk hX => ?_⟩
        · show _ = some (AObj.cells [.int .i64 jobs, .int .i64 room, .int .i64 S.next, .sl n (off + 1) t.length (cap - 1), .sl b 0 (S.busy.set i x).length (S.busy.set i x).length, .map c, Ov] 139)
          rw [List.length_set]
          exact look_upd_same _ (ob _)
        · rw [look_upd_other _ n1]
          exact look_upd_same _ bz
        · refine .inr ⟨n, off + 1, cap - 1, pre ++ [.int .i64 x], sp, rfl, hqs, ?_, by rw [List.length_append, hp]; rfl, by show t.length ≤ cap - 1; omega, by show cap - 1 ≤ t.length + sp.length; omega, by omega⟩
          rw [oth n _ na.symm nb.symm hn]
          simp [zs]
        · have := P.z6
          rw [hq, List.length_cons] at this
          show t.length ≤ 10000; omega
        · simp only [List.mem_cons, not_or] at hk
          exact oth k X hk.1 hk.2.1 hX
  · have b1 : (S.busy.getD i 0 != -1) = true := by simpa using h
    have b2 : (S.busy.getD i 0 == -1) = false := by simpa using h
    have hnw := hj h
    rw [wkJ, if_neg h, wkS, if_neg h]
    have hx : xidx (Key.i .i64 (S.busy.getD i 0)) (S.ws.map (Key.i .i64)) = S.ws.length := (xidxW _ _).2 hnw
    simp (config := { maxSteps := 1000000, implicitDefEqProofs := false }) only [-List.reduceReplicate, Nat.reduceBEq, renA, renL, renM, renO, evx, evs, evp, Eng.look, cst, cst1, putd, dstOk, params, loadx, partx, loI, hiI, bltx, mmI, boxx, srcx, calx, nilx, upd, del, resv, fillA, setMany, Nat.reduceLT, Nat.reduceLeDiff, Nat.reduceEqDiff, Nat.reduceAdd, Nat.reduceMul, Nat.reduceSub, reduceIte, reduceCtorEq, if_true, if_false, ite_true, ite_false, eq_self, forall_const, implies_true, Int.reduceLT, Int.reduceLE, Int.reduceToNat, Int.reduceAdd, Int.reduceSub, Int.reduceNeg, ne_eq, Int.reduceEq, Int.reduceNe, Int.reduceBEq, Int.reduceBNe, beq_self_eq_true, bne_self_eq_false, BitVec.reduceBEq, BitVec.reduceBNe, BitVec.reduceOfInt, BitVec.reduceSetWidth, wrD, engS0, engS1, engS2, engS3, engS4, engS5, engS6, engS7, engS8, engS9, engU0, engT0, engT1, engT2, Fx.t1, Fx.t3, Fx.t4, Fx.t5, Fx.t91, Fx.t92, Fx.t137, Fx.t138, Fx.t139, Try.results96, Try.ntmps96, o, bz, hg, b1, b2, zs_len]
    refine ⟨by omega, by omega, ?_⟩
    refine ⟨Fx.mixed, .inl ⟨[(0, false), (1, false), (2, false), (3, false), (4, false), (5, false), (6, false), (7, false), (8, false), (9, false), (10, false), (11, true), (12, true), (13, false), (14, true)], [b, c], by kernel_rfl, (fun k hn => by rcases List.mem_cons.1 hn with rfl | hn; exact ⟨rfl, by rw [bz]; rfl⟩; cases List.mem_singleton.1 hn; exact ⟨rfl, by rw [mp]; rfl⟩), ?_⟩⟩
    have oc : ∀ X, Eng.look (Eng.upd m b X) c = some (.mx (.i .i64) (S.ws.map (Key.i .i64)) (S.ws.map fun _ => AV.bool true) born) := fun X => by rw [look_upd_other _ n3]; exact mp
    simp (config := { maxSteps := 1000000, implicitDefEqProofs := false }) only [-List.reduceReplicate, Nat.reduceBEq, renA, renL, renM, renO, evx, evs, evp, Eng.look, cst, cst1, putd, dstOk, params, loadx, partx, loI, hiI, bltx, mmI, boxx, srcx, calx, nilx, upd, del, resv, fillA, setMany, Nat.reduceLT, Nat.reduceLeDiff, Nat.reduceEqDiff, Nat.reduceAdd, Nat.reduceMul, Nat.reduceSub, reduceIte, reduceCtorEq, if_true, if_false, ite_true, ite_false, eq_self, forall_const, implies_true, Int.reduceLT, Int.reduceLE, Int.reduceToNat, Int.reduceAdd, Int.reduceSub, Int.reduceNeg, ne_eq, Int.reduceEq, Int.reduceNe, Int.reduceBEq, Int.reduceBNe, beq_self_eq_true, bne_self_eq_false, BitVec.reduceBEq, BitVec.reduceBNe, BitVec.reduceOfInt, BitVec.reduceSetWidth, wrD, engS0, engS1, engS2, engS3, engS4, engS5, engS6, engS7, engS8, engS9, engU0, engT0, engT1, engT2, Fx.t1, Fx.t3, Fx.t4, Fx.t5, Fx.t91, Fx.t92, Fx.t137, Fx.t138, Fx.t139, o, bz, mp, f1, a1, a2, a3, a4, zs_len, zs_set, oc, mxT137, zvalB, keyA_int]
    refine ⟨by omega, by omega, fun hl => absurd hl (by rw [hx, List.length_map]; omega), fun _ c0 hb hbl => ?_⟩
    rw [List.length_map] at hb
    have ocu : ∀ X Y, Eng.look (Eng.upd (Eng.upd m b X) c Y) c = some Y := fun X Y => look_upd_same _ (oc X)
    have huu : ∀ X Y Z, Eng.upd (Eng.upd (Eng.upd m b X) c Y) c Z = Eng.upd (Eng.upd m b X) c Z := fun X Y Z => upd_upd _ c Y Z
    simp (config := { maxSteps := 1000000, implicitDefEqProofs := false }) only [-List.reduceReplicate, Nat.reduceBEq, renA, renL, renM, renO, evx, evs, evp, Eng.look, cst, cst1, putd, dstOk, params, loadx, partx, loI, hiI, bltx, mmI, boxx, srcx, calx, nilx, upd, del, resv, fillA, setMany, Nat.reduceLT, Nat.reduceLeDiff, Nat.reduceEqDiff, Nat.reduceAdd, Nat.reduceMul, Nat.reduceSub, reduceIte, reduceCtorEq, if_true, if_false, ite_true, ite_false, eq_self, forall_const, implies_true, Int.reduceLT, Int.reduceLE, Int.reduceToNat, Int.reduceAdd, Int.reduceSub, Int.reduceNeg, ne_eq, Int.reduceEq, Int.reduceNe, Int.reduceBEq, Int.reduceBNe, beq_self_eq_true, bne_self_eq_false, BitVec.reduceBEq, BitVec.reduceBNe, BitVec.reduceOfInt, BitVec.reduceSetWidth, wrD, engS0, engS1, engS2, engS3, engS4, engS5, engS6, engS7, engS8, engS9, engU0, engT0, engT1, engT2, Fx.t1, Fx.t3, Fx.t4, Fx.t5, Fx.t91, Fx.t92, Fx.t137, Fx.t138, Fx.t139, ocu, huu, hb, a4]
    refine ⟨by rw [hbl, List.length_map]; omega, ?_⟩
    have eK : S.ws.map (Key.i .i64) ++ [Key.i .i64 (S.busy.getD i 0)] = (S.ws ++ [S.busy.getD i 0]).map (Key.i .i64) := by rw [List.map_append]; rfl
    have eV : ((S.ws.map fun _ => AV.bool true) ++ [AV.bool false]).set S.ws.length (AV.bool true) = (S.ws ++ [S.busy.getD i 0]).map fun _ => AV.bool true := by
      rw [List.set_append_right _ _ (by rw [List.length_map]; exact Nat.le_refl _), List.length_map, Nat.sub_self, List.map_append]; rfl
    rw [eK, eV]
    have DU := (D.upd b (.cells (zs (S.busy.set i (-1))) 3)).upd c (.mx (.i .i64) ((S.ws ++ [S.busy.getD i 0]).map (Key.i .i64)) ((S.ws ++ [S.busy.getD i 0]).map fun _ => AV.bool true) (born ++ [c0]))
    have oth : ∀ k X, k ≠ b → k ≠ c → Eng.look m k = some X → Eng.look (Eng.upd (Eng.upd m b (.cells (zs (S.busy.set i (-1))) 3)) c (.mx (.i .i64) ((S.ws ++ [S.busy.getD i 0]).map (Key.i .i64)) ((S.ws ++ [S.busy.getD i 0]).map fun _ => AV.bool true) (born ++ [c0]))) k = some X := fun k X h1 h2 h3 => by
      rw [look_upd_other _ (fun e => h2 e.symm), look_upd_other _ (fun e => h1 e.symm)]; exact h3
    refine Fin.keepW (m0 := Eng.upd (Eng.upd m b (.cells (zs (S.busy.set i (-1))) 3)) c (.mx (.i .i64) ((S.ws ++ [S.busy.getD i 0]).map (Key.i .i64)) ((S.ws ++ [S.busy.getD i 0]).map fun _ => AV.bool true) (born ++ [c0]))) (Nat.le_refl _) (memSame_slf DU.nd) DU.nd DU.kp ⟨rfl, Nat.le_refl _, DU, upd_lt (upd_lt hlt b _) c _, ⟨Qv, Ov, qs, os, born ++ [c0], ⟨?_, ?_, look_upd_same _ (oc _), ?_, P.qu.ext fun k hk X hX => oth k X (n4 k (List.mem_append_left _ hk)).2.1 (n4 k (List.mem_append_left _ hk)).2.2 hX, P.ou.ext fun k hk X hX => oth k X (n4 k (List.mem_append_right _ hk)).2.1 (n4 k (List.mem_append_right _ hk)).2.2 hX, P.nd, P.lt, P.z1, P.z2, by show (S.busy.set i (-1)).length ≤ 64; rw [List.length_set]; exact P.z3, P.z4, P.z5, P.z6⟩, fun k hk => .inl (by simp only [List.mem_cons]; exact .inr (.inr (.inr hk)))⟩, fun k X hk hX => ?_⟩
    · show _ = some (AObj.cells [.int .i64 jobs, .int .i64 room, .int .i64 S.next, Qv, .sl b 0 (S.busy.set i (-1)).length (S.busy.set i (-1)).length, .map c, Ov] 139)
      rw [List.length_set]
      exact oth a _ n1 n2 o
    · rw [look_upd_other _ n3.symm]
      exact look_upd_same _ bz
    · show (born ++ [c0]).length = (S.ws ++ [S.busy.getD i 0]).length
      rw [List.length_append, List.length_append, P.bl]; rfl
    · simp only [List.mem_cons, not_or] at hk
      exact oth k X hk.2.1 hk.2.2.1 hX
end
end Go.Proofs.Ytmnbbpckglppjaa
