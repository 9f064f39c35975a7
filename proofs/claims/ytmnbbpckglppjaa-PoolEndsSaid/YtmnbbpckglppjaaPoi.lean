/- Turns: which actors may go on, in the program's pool; what was collected. -/
import Derived.Test.YtmnbbpckglppjaaEng19
import Derived.Test.YtmnbbpckglppjaaEng26
import Derived.Test.YtmnbbpckglppjaaPoh
set_option linter.unusedVariables false
set_option linter.unusedSimpArgs false
set_option maxRecDepth 100000
namespace Go.Proofs.Ytmnbbpckglppjaa
open Go Go.Eng

section
variable {wr : Nat → Bool} {m : Mem} {nx a b c jobs room : Nat} {S : PS} {Qv Ov : AV} {qs os born : List Nat}
def mayL (jobs room : Nat) (S : PS) : List Int := enF (fun x : Nat => (mayP jobs room S (x : Int)).2) (S.busy.length + 2)
set_option maxHeartbeats 2000000 in
theorem enPOk (D : Rdm wr m nx) (hlt : ∀ p ∈ m, p.1 < nx) (P : PoolAt m nx a b c jobs room S Qv Ov qs os born) :
    CallG false Try.prog 57 [.ptr a 0] wr m nx (SlK (mayL jobs room S) m nx) := by
  refine fn_okG Try.func57 rfl (by show 1 ≤ _; decide) ?_
  have o := P.o
  have z3 := P.z3
  have w1 : IntKind.i64.wrap ((S.busy.length : Int) + 2) = ((S.busy.length + 2 : Nat) : Int) := by rw [wrap_i64] <;> omega
  unfold mayL
  obtain ⟨f, hf⟩ : ∃ f : Nat → Bool, f = fun x : Nat => (mayP jobs room S (x : Int)).2 := ⟨_, rfl⟩
  rw [← hf]
  simp (config := { maxSteps := 1000000, implicitDefEqProofs := false }) only [-List.reduceReplicate, Nat.reduceBEq, renA, renL, renM, renO, evx, evs, evp, Eng.look, cst, cst1, putd, dstOk, params, loadx, partx, loI, hiI, bltx, mmI, boxx, srcx, calx, nilx, upd, del, resv, fillA, setMany, Nat.reduceLT, Nat.reduceLeDiff, Nat.reduceEqDiff, Nat.reduceAdd, Nat.reduceMul, Nat.reduceSub, reduceIte, reduceCtorEq, if_true, if_false, ite_true, ite_false, eq_self, forall_const, implies_true, Int.reduceLT, Int.reduceLE, Int.reduceToNat, Int.reduceAdd, Int.reduceSub, Int.reduceNeg, ne_eq, Int.reduceEq, Int.reduceNe, Int.reduceBEq, Int.reduceBNe, beq_self_eq_true, bne_self_eq_false, BitVec.reduceBEq, BitVec.reduceBNe, BitVec.reduceOfInt, BitVec.reduceSetWidth, wrD, engS0, engS1, engS2, engS3, engS4, engS5, engS6, engS7, engS8, engS9, engU0, engT0, engT1, engT2, Fx.t1, Fx.t3, Fx.t4, Fx.t91, Fx.t92, Fx.t137, Fx.t138, Fx.t139, Fx.en87, Try.results57, Try.ntmps57, o, w1]
  refine LoopOk.upX (fun i (g : Option (Nat × Nat × List Value) × Nat) => zQ (enF f i) nx g.2 g.1 ∧ nx ≤ g.2) (S.busy.length + 2) (fun i g => ([(15, .int .i64 (i : Nat)), (14, .int .i64 ((S.busy.length + 2 : Nat) : Int)), (3, zA (enF f i) g.1), (0, .ptr a 0)], zM (enF f i) g.1 ++ m, g.2)) (none, nx) ⟨rfl, Nat.le_refl _⟩ ?_ ?_
  · exact D.le ⟨rfl, rfl, rfl, rfl, trivial⟩
  rintro i ⟨q, N⟩ ⟨hi, c1, c2⟩
  have c1 : zQ (enF f i) nx N q := c1
  have c2 : nx ≤ N := c2
  have hen := enF_len f i
  obtain ⟨D2, lt2, k2⟩ := zM_rdm D hlt c1 c2
  have P2 := P.ext c2 k2
  rcases Nat.lt_or_ge i (S.busy.length + 2) with h | h
  · have g1 : decide ((i : Int) < ((S.busy.length + 2 : Nat) : Int)) = true := decide_eq_true (by omega)
    have w2 : IntKind.i64.wrap ((i : Int) + 1) = ((i + 1 : Nat) : Int) := by rw [wrap_i64] <;> omega
    simp (config := { maxSteps := 1000000, implicitDefEqProofs := false }) only [-List.reduceReplicate, Nat.reduceBEq, renA, renL, renM, renO, evx, evs, evp, Eng.look, cst, cst1, putd, dstOk, params, loadx, partx, loI, hiI, bltx, mmI, boxx, srcx, calx, nilx, upd, del, resv, fillA, setMany, Nat.reduceLT, Nat.reduceLeDiff, Nat.reduceEqDiff, Nat.reduceAdd, Nat.reduceMul, Nat.reduceSub, reduceIte, reduceCtorEq, if_true, if_false, ite_true, ite_false, eq_self, forall_const, implies_true, Int.reduceLT, Int.reduceLE, Int.reduceToNat, Int.reduceAdd, Int.reduceSub, Int.reduceNeg, ne_eq, Int.reduceEq, Int.reduceNe, Int.reduceBEq, Int.reduceBNe, beq_self_eq_true, bne_self_eq_false, BitVec.reduceBEq, BitVec.reduceBNe, BitVec.reduceOfInt, BitVec.reduceSetWidth, wrD, engS0, engS1, engS2, engS3, engS4, engS5, engS6, engS7, engS8, engS9, engU0, engT0, engT1, engT2, Fx.t1, Fx.t3, Fx.t4, Fx.t91, Fx.t92, Fx.t137, Fx.t138, Fx.t139, Fx.en87, g1]
    refine (CallG.any (stepF D2 P2 (i : Int) (by omega))).weak ?_
    rintro v m3 nx3 ⟨rfl, rfl, rfl⟩
    by_cases hk : (mayP jobs room S (i : Int)).2 = true
    · have hs : enF f (i + 1) = enF f i ++ [(i : Int)] := by rw [enF, if_pos (by rw [hf]; exact hk)]
      have fin : ∀ {M : Mem} {N' cap' : Nat} {sp' : List Value} {t : Slots}, nx ≤ N' → slotsSame t ([(15, .int .i64 ((i + 1 : Nat) : Int)), (14, .int .i64 ((S.busy.length + 2 : Nat) : Int)), (3, .sl N' 0 (enF f (i + 1)).length cap'), (0, .ptr a 0)]) → Eng.look M N' = some (zRow (enF f (i + 1)) sp') → (∀ p ∈ m, Eng.look M p.1 = some p.2) →
          ∃ l, Le nx l wr t M (N' + 1) [(15, .int .i64 ((i + 1 : Nat) : Int)), (14, .int .i64 ((S.busy.length + 2 : Nat) : Int)), (3, .sl N' 0 (enF f (i + 1)).length cap'), (0, .ptr a 0)] ((N', zRow (enF f (i + 1)) sp') :: m) (N' + 1) := by
        intro M N' cap' sp' t hN' ht h1 h2
        have RS := (D.up (show nx ≤ N' + 1 by omega)).consN (n := N') (fun x hx => by have := hlt x hx; omega) (zRow (enF f (i + 1)) sp')
        refine Le.same (by omega) ht (memSame_all fun x hx => ?_) RS.nd RS.wn RS.kp
        rcases List.mem_cons.1 hx with rfl | hx
        · exact h1
        · exact h2 x hx
      rcases q with _ | ⟨n', cap', sp'⟩
      · have h0 : enF f i = [] := c1
        simp (config := { maxSteps := 1000000, implicitDefEqProofs := false }) only [-List.reduceReplicate, Nat.reduceBEq, renA, renL, renM, renO, evx, evs, evp, Eng.look, cst, cst1, putd, dstOk, params, loadx, partx, loI, hiI, bltx, mmI, boxx, srcx, calx, nilx, upd, del, resv, fillA, setMany, Nat.reduceLT, Nat.reduceLeDiff, Nat.reduceEqDiff, Nat.reduceAdd, Nat.reduceMul, Nat.reduceSub, reduceIte, reduceCtorEq, if_true, if_false, ite_true, ite_false, eq_self, forall_const, implies_true, Int.reduceLT, Int.reduceLE, Int.reduceToNat, Int.reduceAdd, Int.reduceSub, Int.reduceNeg, ne_eq, Int.reduceEq, Int.reduceNe, Int.reduceBEq, Int.reduceBNe, beq_self_eq_true, bne_self_eq_false, BitVec.reduceBEq, BitVec.reduceBNe, BitVec.reduceOfInt, BitVec.reduceSetWidth, wrD, engS0, engS1, engS2, engS3, engS4, engS5, engS6, engS7, engS8, engS9, engU0, engT0, engT1, engT2, Fx.t1, Fx.t3, Fx.t4, Fx.t91, Fx.t92, Fx.t137, Fx.t138, Fx.t139, Fx.en87, hk, w2, zA]
        refine ⟨.inr trivial, rfl, rfl, ?_⟩
        rw [zs_one]
        refine appk_cells0 (k := 1) (bt := 8) (s := 1) (by omega) (by decide) (by decide) ?_
        intro cap2 sp2 f1 f2 f3
        simp (config := { maxSteps := 1000000, implicitDefEqProofs := false }) only [-List.reduceReplicate, Nat.reduceBEq, renA, renL, renM, renO, evx, evs, evp, Eng.look, cst, cst1, putd, dstOk, params, loadx, partx, loI, hiI, bltx, mmI, boxx, srcx, calx, nilx, upd, del, resv, fillA, setMany, Nat.reduceLT, Nat.reduceLeDiff, Nat.reduceEqDiff, Nat.reduceAdd, Nat.reduceMul, Nat.reduceSub, reduceIte, reduceCtorEq, if_true, if_false, ite_true, ite_false, eq_self, forall_const, implies_true, Int.reduceLT, Int.reduceLE, Int.reduceToNat, Int.reduceAdd, Int.reduceSub, Int.reduceNeg, ne_eq, Int.reduceEq, Int.reduceNe, Int.reduceBEq, Int.reduceBNe, beq_self_eq_true, bne_self_eq_false, BitVec.reduceBEq, BitVec.reduceBNe, BitVec.reduceOfInt, BitVec.reduceSetWidth, wrD, engS0, engS1, engS2, engS3, engS4, engS5, engS6, engS7, engS8, engS9, engU0, engT0, engT1, engT2, Fx.t1, Fx.t3, Fx.t4, Fx.t91, Fx.t92, Fx.t137, Fx.t138, Fx.t139, Fx.en87, w2]
        refine UpX_normal h (some (nx3 + 1, cap2, sp2), nx3 + 1 + 1) ⟨⟨by show nx ≤ nx3 + 1; omega, Nat.lt_succ_self _, by rw [hs, h0]; exact f1, f2, by rw [hs, h0]; exact f3⟩, by show nx ≤ nx3 + 1 + 1; omega⟩ ?_
        refine fin (N' := nx3 + 1) (by omega) ⟨rfl, rfl, by rw [hs, h0]; rfl, rfl, trivial⟩ ?_ fun x hx => ?_
        · rw [look_cons, if_pos rfl, hs, h0]; rfl
        · have := hlt x hx
          rw [look_cons, look_cons, if_neg (by omega), if_neg (by omega)]
          exact k2 _ _ (look_mem D.nd hx)
      · obtain ⟨s1, s2, s3, s4, s5⟩ : nx ≤ n' ∧ n' < nx3 ∧ (enF f i).length ≤ cap' ∧ cap' ≤ maxI ∧ sp'.length = (cap' - (enF f i).length) * 1 := c1
        have d5 : (nx3 = n') = False := eq_false (by omega)
        have hdl : del m n' = m := del_none fun p hp => by have := hlt p hp; omega
        simp (config := { maxSteps := 1000000, implicitDefEqProofs := false }) only [-List.reduceReplicate, Nat.reduceBEq, renA, renL, renM, renO, evx, evs, evp, Eng.look, cst, cst1, putd, dstOk, params, loadx, partx, loI, hiI, bltx, mmI, boxx, srcx, calx, nilx, upd, del, resv, fillA, setMany, Nat.reduceLT, Nat.reduceLeDiff, Nat.reduceEqDiff, Nat.reduceAdd, Nat.reduceMul, Nat.reduceSub, reduceIte, reduceCtorEq, if_true, if_false, ite_true, ite_false, eq_self, forall_const, implies_true, Int.reduceLT, Int.reduceLE, Int.reduceToNat, Int.reduceAdd, Int.reduceSub, Int.reduceNeg, ne_eq, Int.reduceEq, Int.reduceNe, Int.reduceBEq, Int.reduceBNe, beq_self_eq_true, bne_self_eq_false, BitVec.reduceBEq, BitVec.reduceBNe, BitVec.reduceOfInt, BitVec.reduceSetWidth, wrD, engS0, engS1, engS2, engS3, engS4, engS5, engS6, engS7, engS8, engS9, engU0, engT0, engT1, engT2, Fx.t1, Fx.t3, Fx.t4, Fx.t91, Fx.t92, Fx.t137, Fx.t138, Fx.t139, Fx.en87, hk, w2, zA, zM]
        refine ⟨.inr trivial, rfl, rfl, ?_⟩
        rw [zs_one]
        refine appk_cells (X := zs (enF f i)) (sp := sp') (k := 1) (bt := 8) (s := 1) ?_ (D.wn _ (by omega)) (by rw [zs_len, Nat.mul_one]) s5 s3 s4 (by omega) (by decide) ?_
        · rw [look_cons, if_neg (by omega)]; show Eng.look ((n', zRow (enF f i) sp') :: m) n' = _; rw [look_cons, if_pos rfl]; rfl
        intro cap2 sp2 f1 f2 f3
        rw [zs_app]
        simp (config := { maxSteps := 1000000, implicitDefEqProofs := false }) only [-List.reduceReplicate, Nat.reduceBEq, renA, renL, renM, renO, evx, evs, evp, Eng.look, cst, cst1, putd, dstOk, params, loadx, partx, loI, hiI, bltx, mmI, boxx, srcx, calx, nilx, upd, del, resv, fillA, setMany, Nat.reduceLT, Nat.reduceLeDiff, Nat.reduceEqDiff, Nat.reduceAdd, Nat.reduceMul, Nat.reduceSub, reduceIte, reduceCtorEq, if_true, if_false, ite_true, ite_false, eq_self, forall_const, implies_true, Int.reduceLT, Int.reduceLE, Int.reduceToNat, Int.reduceAdd, Int.reduceSub, Int.reduceNeg, ne_eq, Int.reduceEq, Int.reduceNe, Int.reduceBEq, Int.reduceBNe, beq_self_eq_true, bne_self_eq_false, BitVec.reduceBEq, BitVec.reduceBNe, BitVec.reduceOfInt, BitVec.reduceSetWidth, wrD, engS0, engS1, engS2, engS3, engS4, engS5, engS6, engS7, engS8, engS9, engU0, engT0, engT1, engT2, Fx.t1, Fx.t3, Fx.t4, Fx.t91, Fx.t92, Fx.t137, Fx.t138, Fx.t139, Fx.en87, w2, d5, hdl]
        refine UpX_normal h (some (nx3 + 1, cap2, sp2), nx3 + 1 + 1) ⟨⟨by show nx ≤ nx3 + 1; omega, Nat.lt_succ_self _, by rw [hs, List.length_append]; exact f1, f2, by rw [hs, List.length_append]; exact f3⟩, by show nx ≤ nx3 + 1 + 1; omega⟩ ?_
        refine fin (N' := nx3 + 1) (by omega) ⟨rfl, rfl, by rw [hs, List.length_append]; rfl, rfl, trivial⟩ ?_ fun x hx => ?_
        · rw [look_cons, if_pos rfl, hs]; rfl
        · have := hlt x hx
          rw [look_cons, look_cons, if_neg (by omega), if_neg (by omega)]
          exact look_mem D.nd hx
    · have hk : (mayP jobs room S (i : Int)).2 = false := by simpa using hk
      have hs : enF f (i + 1) = enF f i := by rw [enF, if_neg (by rw [hf]; show ¬ (mayP jobs room S (i : Int)).2 = true; rw [hk]; decide)]
      simp (config := { maxSteps := 1000000, implicitDefEqProofs := false }) only [-List.reduceReplicate, Nat.reduceBEq, renA, renL, renM, renO, evx, evs, evp, Eng.look, cst, cst1, putd, dstOk, params, loadx, partx, loI, hiI, bltx, mmI, boxx, srcx, calx, nilx, upd, del, resv, fillA, setMany, Nat.reduceLT, Nat.reduceLeDiff, Nat.reduceEqDiff, Nat.reduceAdd, Nat.reduceMul, Nat.reduceSub, reduceIte, reduceCtorEq, if_true, if_false, ite_true, ite_false, eq_self, forall_const, implies_true, Int.reduceLT, Int.reduceLE, Int.reduceToNat, Int.reduceAdd, Int.reduceSub, Int.reduceNeg, ne_eq, Int.reduceEq, Int.reduceNe, Int.reduceBEq, Int.reduceBNe, beq_self_eq_true, bne_self_eq_false, BitVec.reduceBEq, BitVec.reduceBNe, BitVec.reduceOfInt, BitVec.reduceSetWidth, wrD, engS0, engS1, engS2, engS3, engS4, engS5, engS6, engS7, engS8, engS9, engU0, engT0, engT1, engT2, Fx.t1, Fx.t3, Fx.t4, Fx.t91, Fx.t92, Fx.t137, Fx.t138, Fx.t139, Fx.en87, hk, w2]
      refine UpX_normal h (q, nx3) ⟨by rw [hs]; exact c1, c2⟩ ?_
      rw [hs]
      exact Le.same c2 ⟨rfl, rfl, rfl, rfl, trivial⟩ (memSame_slf D2.nd) D2.nd D2.wn D2.kp
  · have hiw : i = S.busy.length + 2 := by omega
    subst hiw
    have g1 : decide (((S.busy.length + 2 : Nat) : Int) < ((S.busy.length + 2 : Nat) : Int)) = false := decide_eq_false (by omega)
    simp (config := { maxSteps := 1000000, implicitDefEqProofs := false }) only [-List.reduceReplicate, Nat.reduceBEq, renA, renL, renM, renO, evx, evs, evp, Eng.look, cst, cst1, putd, dstOk, params, loadx, partx, loI, hiI, bltx, mmI, boxx, srcx, calx, nilx, upd, del, resv, fillA, setMany, Nat.reduceLT, Nat.reduceLeDiff, Nat.reduceEqDiff, Nat.reduceAdd, Nat.reduceMul, Nat.reduceSub, reduceIte, reduceCtorEq, if_true, if_false, ite_true, ite_false, eq_self, forall_const, implies_true, Int.reduceLT, Int.reduceLE, Int.reduceToNat, Int.reduceAdd, Int.reduceSub, Int.reduceNeg, ne_eq, Int.reduceEq, Int.reduceNe, Int.reduceBEq, Int.reduceBNe, beq_self_eq_true, bne_self_eq_false, BitVec.reduceBEq, BitVec.reduceBNe, BitVec.reduceOfInt, BitVec.reduceSetWidth, wrD, engS0, engS1, engS2, engS3, engS4, engS5, engS6, engS7, engS8, engS9, engU0, engT0, engT1, engT2, Fx.t1, Fx.t3, Fx.t4, Fx.t91, Fx.t92, Fx.t137, Fx.t138, Fx.t139, Fx.en87, g1]
    exact Fin.keepW c2 (memSame_slf D2.nd) D2.nd D2.kp ⟨q, rfl, c1, rfl, c2⟩
theorem zs_one1 : ∀ L : List Int, (zs L).all one1 = true
  | [] => rfl
  | x :: r => by show (one1 (.int .i64 x) && (zs r).all one1) = true; rw [zs_one1 r]; rfl
theorem cloneOk (D : Rdm wr m nx) (hlt : ∀ p ∈ m, p.1 < nx) {v : AV} {L : List Int} {ns : List Nat} (h : QuAt m v L ns) (hl : L.length ≤ 100000) (hns : ∀ k ∈ ns, k < nx) : CallG false Try.prog 89 [v] wr m nx (SlK L m nx) := by
  refine fn_okG Try.func89 rfl (by show 1 ≤ _; decide) ?_
  rcases h with ⟨rfl, rfl, rfl⟩ | ⟨n, off, cap, pre, sp, rfl, rfl, hn, hp, c1, c2, c3⟩
  · simp (config := { maxSteps := 1000000, implicitDefEqProofs := false }) only [-List.reduceReplicate, Nat.reduceBEq, renA, renL, renM, renO, evx, evs, evp, Eng.look, cst, cst1, putd, dstOk, params, loadx, partx, loI, hiI, bltx, mmI, boxx, srcx, calx, nilx, upd, del, resv, fillA, setMany, Nat.reduceLT, Nat.reduceLeDiff, Nat.reduceEqDiff, Nat.reduceAdd, Nat.reduceMul, Nat.reduceSub, reduceIte, reduceCtorEq, if_true, if_false, ite_true, ite_false, eq_self, forall_const, implies_true, Int.reduceLT, Int.reduceLE, Int.reduceToNat, Int.reduceAdd, Int.reduceSub, Int.reduceNeg, ne_eq, Int.reduceEq, Int.reduceNe, Int.reduceBEq, Int.reduceBNe, beq_self_eq_true, bne_self_eq_false, BitVec.reduceBEq, BitVec.reduceBNe, BitVec.reduceOfInt, BitVec.reduceSetWidth, wrD, engS0, engS1, engS2, engS3, engS4, engS5, engS6, engS7, engS8, engS9, engU0, engT0, engT1, engT2, Fx.t3, Fx.t4, Fx.t91, Try.results89, Try.ntmps89]
    exact Fin.keepW (Nat.le_refl _) (memSame_slf D.nd) D.nd D.kp ⟨none, rfl, rfl, rfl, Nat.le_refl _⟩
  · have e1 : (nx = n) = False := eq_false (by have := hns n (.head _); omega)
    have hdl : del m nx = m := del_none fun p hp => by have := hlt p hp; omega
    have hY : List.take L.length (List.drop off (pre ++ (zs L ++ sp))) = zs L := by
      rw [← hp, List.drop_left, List.take_append_of_le_length (by rw [zs_len]; exact Nat.le_refl _), List.take_of_length_le (by rw [zs_len]; exact Nat.le_refl _)]
    simp (config := { maxSteps := 1000000, implicitDefEqProofs := false }) only [-List.reduceReplicate, Nat.reduceBEq, renA, renL, renM, renO, evx, evs, evp, Eng.look, cst, cst1, putd, dstOk, params, loadx, partx, loI, hiI, bltx, mmI, boxx, srcx, calx, nilx, upd, del, resv, fillA, setMany, Nat.reduceLT, Nat.reduceLeDiff, Nat.reduceEqDiff, Nat.reduceAdd, Nat.reduceMul, Nat.reduceSub, reduceIte, reduceCtorEq, if_true, if_false, ite_true, ite_false, eq_self, forall_const, implies_true, Int.reduceLT, Int.reduceLE, Int.reduceToNat, Int.reduceAdd, Int.reduceSub, Int.reduceNeg, ne_eq, Int.reduceEq, Int.reduceNe, Int.reduceBEq, Int.reduceBNe, beq_self_eq_true, bne_self_eq_false, BitVec.reduceBEq, BitVec.reduceBNe, BitVec.reduceOfInt, BitVec.reduceSetWidth, wrD, engS0, engS1, engS2, engS3, engS4, engS5, engS6, engS7, engS8, engS9, engU0, engT0, engT1, engT2, Fx.t3, Fx.t4, Fx.t91, Try.results89, Try.ntmps89, hn, e1, hY]
    refine ⟨.inl trivial, zs_len L, zs_one1 L, ?_⟩
    refine appk_cells (X := []) (sp := []) (k := L.length) (bt := 8) (s := 1) (by rw [look_cons, if_pos rfl]; rfl) (D.wn _ (Nat.le_refl _)) rfl rfl (Nat.le_refl _) (Nat.zero_le _) (by omega) (by decide) ?_
    intro cap2 sp2 f1 f2 f3
    rw [List.nil_append]
    simp (config := { maxSteps := 1000000, implicitDefEqProofs := false }) only [-List.reduceReplicate, Nat.reduceBEq, renA, renL, renM, renO, evx, evs, evp, Eng.look, cst, cst1, putd, dstOk, params, loadx, partx, loI, hiI, bltx, mmI, boxx, srcx, calx, nilx, upd, del, resv, fillA, setMany, Nat.reduceLT, Nat.reduceLeDiff, Nat.reduceEqDiff, Nat.reduceAdd, Nat.reduceMul, Nat.reduceSub, reduceIte, reduceCtorEq, if_true, if_false, ite_true, ite_false, eq_self, forall_const, implies_true, Int.reduceLT, Int.reduceLE, Int.reduceToNat, Int.reduceAdd, Int.reduceSub, Int.reduceNeg, ne_eq, Int.reduceEq, Int.reduceNe, Int.reduceBEq, Int.reduceBNe, beq_self_eq_true, bne_self_eq_false, BitVec.reduceBEq, BitVec.reduceBNe, BitVec.reduceOfInt, BitVec.reduceSetWidth, wrD, engS0, engS1, engS2, engS3, engS4, engS5, engS6, engS7, engS8, engS9, engU0, engT0, engT1, engT2, Fx.t3, Fx.t4, Fx.t91, hdl]
    have hq : zQ L nx (nx + 1 + 1) (some (nx + 1, cap2, sp2)) := ⟨Nat.le_succ _, Nat.lt_succ_self _, by rw [Nat.zero_add] at f1; exact f1, f2, by rw [f3, Nat.zero_add]⟩
    obtain ⟨D2, lt2, k2⟩ := zM_rdm D hlt hq (by omega)
    exact Fin.keepW (m0 := zM L (some (nx + 1, cap2, sp2)) ++ m) (by omega) (memSame_slf D2.nd) D2.nd D2.kp ⟨some (nx + 1, cap2, sp2), rfl, hq, rfl, by omega⟩
theorem outOk (D : Rdm wr m nx) (hlt : ∀ p ∈ m, p.1 < nx) (P : PoolAt m nx a b c jobs room S Qv Ov qs os born) : CallG false Try.prog 65 [.ptr a 0] wr m nx (SlK (rngZ S.out) m nx) := by
  refine fn_okG Try.func65 rfl (by show 1 ≤ _; decide) ?_
  have o := P.o
  simp (config := { maxSteps := 1000000, implicitDefEqProofs := false }) only [-List.reduceReplicate, Nat.reduceBEq, renA, renL, renM, renO, evx, evs, evp, Eng.look, cst, cst1, putd, dstOk, params, loadx, partx, loI, hiI, bltx, mmI, boxx, srcx, calx, nilx, upd, del, resv, fillA, setMany, Nat.reduceLT, Nat.reduceLeDiff, Nat.reduceEqDiff, Nat.reduceAdd, Nat.reduceMul, Nat.reduceSub, reduceIte, reduceCtorEq, if_true, if_false, ite_true, ite_false, eq_self, forall_const, implies_true, Int.reduceLT, Int.reduceLE, Int.reduceToNat, Int.reduceAdd, Int.reduceSub, Int.reduceNeg, ne_eq, Int.reduceEq, Int.reduceNe, Int.reduceBEq, Int.reduceBNe, beq_self_eq_true, bne_self_eq_false, BitVec.reduceBEq, BitVec.reduceBNe, BitVec.reduceOfInt, BitVec.reduceSetWidth, wrD, engS0, engS1, engS2, engS3, engS4, engS5, engS6, engS7, engS8, engS9, engU0, engT0, engT1, engT2, Fx.t3, Fx.t4, Fx.t5, Fx.t6, Fx.t91, Fx.t92, Fx.t137, Fx.t138, Fx.t139, Fx.en89, Try.results65, Try.ntmps65, o]
  refine (CallG.any (cloneOk D hlt P.ou (by rw [rngZ_len]; have := P.z2; omega) (fun k hk => P.lt k (by simp only [List.mem_cons, List.mem_append]; exact .inr (.inr (.inr (.inr hk))))))).weak ?_
  rintro v m3 nx3 ⟨q, rfl, c1, rfl, c2⟩
  obtain ⟨D2, lt2, k2⟩ := zM_rdm D hlt c1 c2
  simp (config := { maxSteps := 1000000, implicitDefEqProofs := false }) only [-List.reduceReplicate, Nat.reduceBEq, renA, renL, renM, renO, evx, evs, evp, Eng.look, cst, cst1, putd, dstOk, params, loadx, partx, loI, hiI, bltx, mmI, boxx, srcx, calx, nilx, upd, del, resv, fillA, setMany, Nat.reduceLT, Nat.reduceLeDiff, Nat.reduceEqDiff, Nat.reduceAdd, Nat.reduceMul, Nat.reduceSub, reduceIte, reduceCtorEq, if_true, if_false, ite_true, ite_false, eq_self, forall_const, implies_true, Int.reduceLT, Int.reduceLE, Int.reduceToNat, Int.reduceAdd, Int.reduceSub, Int.reduceNeg, ne_eq, Int.reduceEq, Int.reduceNe, Int.reduceBEq, Int.reduceBNe, beq_self_eq_true, bne_self_eq_false, BitVec.reduceBEq, BitVec.reduceBNe, BitVec.reduceOfInt, BitVec.reduceSetWidth, wrD, engS0, engS1, engS2, engS3, engS4, engS5, engS6, engS7, engS8, engS9, engU0, engT0, engT1, engT2, Fx.t3, Fx.t4, Fx.t5, Fx.t6, Fx.t91, Fx.t92, Fx.t137, Fx.t138, Fx.t139, Fx.en89]
  exact Fin.keepW c2 (memSame_slf D2.nd) D2.nd D2.kp ⟨q, rfl, c1, rfl, c2⟩
end
end Go.Proofs.Ytmnbbpckglppjaa
