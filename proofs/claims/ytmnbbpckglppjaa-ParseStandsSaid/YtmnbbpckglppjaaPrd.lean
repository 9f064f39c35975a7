/- Parsing: Symbols. -/
import Derived.Test.YtmnbbpckglppjaaEng19
import Derived.Test.YtmnbbpckglppjaaEng26
import Derived.Test.YtmnbbpckglppjaaPrc
set_option linter.unusedVariables false
set_option linter.unusedSimpArgs false
set_option maxRecDepth 100000
namespace Go.Eng
open Go
theorem Rdm.consN {wr : Nat → Bool} {m : Mem} {N n : Nat} (r : Rdm wr m N) (h : ∀ p ∈ m, p.1 ≠ n) (o : AObj) : Rdm wr ((n, o) :: m) N :=
  ⟨by
    rw [List.map_cons, List.nodup_cons]
    refine ⟨fun hm => ?_, r.nd⟩
    obtain ⟨p, hp, e⟩ := List.mem_map.1 hm
    exact h p hp e, fun k hk => by
    obtain ⟨o', ho'⟩ := r.kp k hk
    by_cases e : n = k
    · exact ⟨o, by rw [look_cons, if_pos e]⟩
    · exact ⟨o', by rw [look_cons, if_neg e]; exact ho'⟩, r.wn⟩
theorem del_none : ∀ {m : Mem} {n : Nat}, (∀ p ∈ m, p.1 ≠ n) → del m n = m
  | [], _, _ => rfl
  | (k, o) :: r, n, h => by
    have hk : ¬ k = n := h (k, o) (.head _)
    simp only [del, if_neg hk, del_none fun p hp => h p (.tail _ hp)]
end Go.Eng
namespace Go.Proofs.Ytmnbbpckglppjaa
open Go Go.Eng

theorem symbolsNil (d : AV) (p q : Int) (r : R4) : CallG false Try.prog 46 [.nilp, d, .int .i64 p, .int .i64 q, .agg r.av] (fun _ => true) [] 0 fun v m nx => v = .tup [.nils, .agg [.int .i64 0, .int .i64 0, .int .i64 0, .int .i64 0], .int .i64 1] ∧ m = [] ∧ nx = 0 := by
  refine fn_okG Try.func46 rfl (by show 5 ≤ _; decide) ?_
  simp (config := { maxSteps := 1000000, implicitDefEqProofs := false }) only [-List.reduceReplicate, Nat.reduceBEq, renA, renL, renM, renO, evx, evs, evp, Eng.look, cst, cst1, putd, dstOk, params, loadx, partx, loI, hiI, bltx, mmI, boxx, srcx, calx, nilx, upd, del, resv, fillA, setMany, Nat.reduceLT, Nat.reduceLeDiff, Nat.reduceEqDiff, Nat.reduceAdd, Nat.reduceMul, Nat.reduceSub, reduceIte, reduceCtorEq, if_true, if_false, ite_true, ite_false, eq_self, forall_const, implies_true, Int.reduceLT, Int.reduceLE, Int.reduceToNat, Int.reduceAdd, Int.reduceSub, Int.reduceNeg, ne_eq, Int.reduceEq, Int.reduceNe, Int.reduceBEq, Int.reduceBNe, beq_self_eq_true, bne_self_eq_false, BitVec.reduceBEq, BitVec.reduceBNe, BitVec.reduceOfInt, BitVec.reduceSetWidth, wrD, engS0, engS1, engS2, engS3, engS4, engS5, engS6, engS7, engS8, engS9, engU0, engT0, engT1, engT2, Fx.t1, Fx.t2, Fx.t3, Fx.t4, Fx.t5, Fx.t23, Fx.t25, Fx.t35, Fx.t75, Fx.t76, Fx.t82, Fx.t83, Fx.t91, Fx.t109, Fx.t110, Fx.t111, Fx.t112, Fx.t113, Fx.t128, Fx.t129, Fx.t130, Fx.en83, Try.results46, Try.ntmps46, R4.av]
  refine ⟨rfl, Nat.le_of_ble_eq_true rfl, ?_⟩
  exact Fin.flatv (v := .tup [.nils, .agg [.int .i64 0, .int .i64 0, .int .i64 0, .int .i64 0], .int .i64 1]) (fun _ => rfl) (fun _ => rfl) ⟨rfl, rfl, rfl⟩
theorem spl5' (a b c d f a' b' c' d' f' : AV) : spl [a, b, c, d, f] 0 [a', b', c', d', f'] = [a', b', c', d', f'] := rfl
def syB (m : Mem) (nx f : Nat) (r : R4) : Mem := (nx + 2, stO f r) :: (nx + 1, .cells [.int .i64 0, .int .i64 0, .int .i64 0, .int .i64 0] 76) :: m
set_option maxHeartbeats 4000000 in
theorem symbolsOk {wr : Nat → Bool} {m : Mem} {nx f : Nat} {d : List (BitVec 8)} {dict nice : Int} (R : Rdm wr m nx) (hlt : ∀ p ∈ m, p.1 < nx) (F : FinderM m nx f d dict nice) (hd : 1 ≤ dict) (p q : Nat) (hpq : p ≤ q) (hq : q ≤ d.length) (hl : d.length ≤ 100000) (r : R4) :
    CallG false Try.prog 46 [.ptr f 0, .ro d.length (bvs .u8 d), .int .i64 p, .int .i64 q, .agg r.av] wr m nx (SymsK (symsF d dict nice q (q - p) p r).1 (symsF d dict nice q (q - p) p r).2 m nx) := by
  refine fn_okG Try.func46 rfl (by show 5 ≤ _; decide) ?_
  have k1 : decide ((p : Int) < 0) = false := decide_eq_false (by omega)
  have k2 : decide ((q : Int) < (p : Int)) = false := decide_eq_false (by omega)
  have k3 : decide ((q : Int) > (d.length : Int)) = false := decide_eq_false (by omega)
  have hbt : bytesT Try.prog 83 = some 40 := by kernel_rfl
  have e1 : (nx + 1 = nx) = False := eq_false (by omega)
  have e2 : (nx + 1 + 1 = nx) = False := eq_false (by omega)
  simp (config := { maxSteps := 1000000, implicitDefEqProofs := false }) only [-List.reduceReplicate, Nat.reduceBEq, renA, renL, renM, renO, evx, evs, evp, Eng.look, cst, cst1, putd, dstOk, params, loadx, partx, loI, hiI, bltx, mmI, boxx, srcx, calx, nilx, upd, del, resv, fillA, setMany, Nat.reduceLT, Nat.reduceLeDiff, Nat.reduceEqDiff, Nat.reduceAdd, Nat.reduceMul, Nat.reduceSub, reduceIte, reduceCtorEq, if_true, if_false, ite_true, ite_false, eq_self, forall_const, implies_true, Int.reduceLT, Int.reduceLE, Int.reduceToNat, Int.reduceAdd, Int.reduceSub, Int.reduceNeg, ne_eq, Int.reduceEq, Int.reduceNe, Int.reduceBEq, Int.reduceBNe, beq_self_eq_true, bne_self_eq_false, BitVec.reduceBEq, BitVec.reduceBNe, BitVec.reduceOfInt, BitVec.reduceSetWidth, wrD, engS0, engS1, engS2, engS3, engS4, engS5, engS6, engS7, engS8, engS9, engU0, engT0, engT1, engT2, Fx.t1, Fx.t2, Fx.t3, Fx.t4, Fx.t5, Fx.t23, Fx.t25, Fx.t35, Fx.t75, Fx.t76, Fx.t82, Fx.t83, Fx.t91, Fx.t109, Fx.t110, Fx.t111, Fx.t112, Fx.t113, Fx.t128, Fx.t129, Fx.t130, Fx.en83, Try.results46, Try.ntmps46, R4.av, k1, k2, k3, e1, e2]
  have RB : ∀ (r' : R4) (N : Nat), nx + 3 ≤ N → Rdm wr (syB m nx f r') N := fun r' N hN => by
    refine Rdm.consN (Rdm.consN (R.up (by omega)) (fun p hp => by have := hlt p hp; omega) _) (fun p hp => ?_) _
    rcases List.mem_cons.1 hp with rfl | hp
    · show nx + 1 ≠ nx + 2; omega
    · have := hlt p hp; omega
  have ltB : ∀ (r' : R4) (N : Nat), nx + 3 ≤ N → ∀ p ∈ syB m nx f r', p.1 < N := fun r' N hN p hp => by
    rcases List.mem_cons.1 hp with rfl | hp
    · show nx + 2 < N; omega
    rcases List.mem_cons.1 hp with rfl | hp
    · show nx + 1 < N; omega
    · have := hlt p hp; omega
  refine ⟨[.ptr f 0, .int .i64 r.a, .int .i64 r.b, .int .i64 r.c, .int .i64 r.d], rfl, ?_⟩
  refine LoopOk.upX (fun i (g : List Sym × Nat × R4 × Option (Nat × Nat × List Value) × Nat) => p + i ≤ g.2.1 ∧ g.2.1 ≤ q ∧ outQ g.1 (nx + 3) g.2.2.2.2 g.2.2.2.1 ∧ nx + 3 ≤ g.2.2.2.2 ∧ g.1.length ≤ i ∧ symsF d dict nice q (q - p) p r = (g.1 ++ (symsF d dict nice q (q - p - i) g.2.1 g.2.2.1).1, (symsF d dict nice q (q - p - i) g.2.1 g.2.2.1).2)) (q - p)
    (fun i g => ([(14, outA g.1 g.2.2.2.1), (13, .ptr (nx + 2) 0), (12, .int .i64 0), (11, .ptr (nx + 1) 0), (3, .int .i64 q), (2, .int .i64 (g.2.1 : Nat)), (1, .ro d.length (bvs .u8 d)), (0, .ptr f 0)], outM g.1 g.2.2.2.1 ++ syB m nx f g.2.2.1, g.2.2.2.2)) ([], p, r, none, nx + 3) ⟨Nat.le_refl _, hpq, rfl, Nat.le_refl _, Nat.le_refl _, rfl⟩ ?_ ?_
  · refine Le.same (by show nx ≤ nx + 3; omega) ⟨rfl, rfl, rfl, rfl, rfl, rfl, rfl, rfl, trivial⟩ (memSame_all fun x hx => ?_) (RB r _ (Nat.le_refl _)).nd (fun n hn => R.wn n (by have hn : nx + 3 ≤ n := hn; omega)) (RB r _ (Nat.le_refl _)).kp
    rcases List.mem_cons.1 hx with rfl | hx
    · rw [look_cons, if_pos rfl]; rfl
    rcases List.mem_cons.1 hx with rfl | hx
    · rw [look_cons, if_neg (by show ¬ nx + 1 + 1 = nx + 1; omega), look_cons, if_pos rfl]; rfl
    · have := hlt x hx
      rw [look_cons, look_cons, look_cons, if_neg (by omega), if_neg (by omega), if_neg (by omega)]
      exact look_mem R.nd hx
  rintro i ⟨L, p', r', o, N⟩ ⟨hi, s1, s2, s3, s4, s6, s5⟩
  have q1 : p + i ≤ p' := s1
  have q2 : p' ≤ q := s2
  have q3 : outQ L (nx + 3) N o := s3
  have q4 : nx + 3 ≤ N := s4
  have q6 : L.length ≤ i := s6
  have q5 : symsF d dict nice q (q - p) p r = (L ++ (symsF d dict nice q (q - p - i) p' r').1, (symsF d dict nice q (q - p - i) p' r').2) := s5
  rcases Nat.lt_or_ge p' q with h | h
  · have g1 : decide ((p' : Int) < (q : Int)) = true := decide_eq_true (by omega)
    have w1 : IntKind.i64.wrap ((q : Int) - (p' : Int)) = (q : Int) - (p' : Int) := by rw [wrap_i64] <;> omega
    obtain ⟨k, hk⟩ : ∃ k, q - p - i = k + 1 := ⟨q - p - i - 1, by omega⟩
    have hadv := adv_le d dict nice p' q r' h
    rw [hk, symsF, if_pos h] at q5
    have wa : 1 ≤ (nextF d dict nice p' ((q : Int) - p') r').1.len ∨ (nextF d dict nice p' ((q : Int) - p') r').1.len < 1 := by omega
    rcases o with _ | ⟨n, cap, sp⟩
    · have hL : L = [] := q3
      subst hL
      simp (config := { maxSteps := 1000000, implicitDefEqProofs := false }) only [-List.reduceReplicate, Nat.reduceBEq, renA, renL, renM, renO, evx, evs, evp, Eng.look, cst, cst1, putd, dstOk, params, loadx, partx, loI, hiI, bltx, mmI, boxx, srcx, calx, nilx, upd, del, resv, fillA, setMany, Nat.reduceLT, Nat.reduceLeDiff, Nat.reduceEqDiff, Nat.reduceAdd, Nat.reduceMul, Nat.reduceSub, reduceIte, reduceCtorEq, if_true, if_false, ite_true, ite_false, eq_self, forall_const, implies_true, Int.reduceLT, Int.reduceLE, Int.reduceToNat, Int.reduceAdd, Int.reduceSub, Int.reduceNeg, ne_eq, Int.reduceEq, Int.reduceNe, Int.reduceBEq, Int.reduceBNe, beq_self_eq_true, bne_self_eq_false, BitVec.reduceBEq, BitVec.reduceBNe, BitVec.reduceOfInt, BitVec.reduceSetWidth, wrD, engS0, engS1, engS2, engS3, engS4, engS5, engS6, engS7, engS8, engS9, engU0, engT0, engT1, engT2, Fx.t1, Fx.t2, Fx.t3, Fx.t4, Fx.t5, Fx.t23, Fx.t25, Fx.t35, Fx.t75, Fx.t76, Fx.t82, Fx.t83, Fx.t91, Fx.t109, Fx.t110, Fx.t111, Fx.t112, Fx.t113, Fx.t128, Fx.t129, Fx.t130, Fx.en83, g1, w1, outM]
      refine (nextOk (RB r' N q4) (ltB r' N q4) (by rw [syB, look_cons, if_pos rfl]) (R.wn _ (by omega)) (by omega) (F.ext (by omega) fun k o hk h => by rw [syB, look_cons, look_cons, if_neg (by omega), if_neg (by omega)]; exact h) hd p' ((q : Int) - p') (by omega) (by omega)).weak ?_
      rintro v m2 N2 ⟨rfl, rfl, hN2⟩
      rw [show Eng.upd (syB m nx f r') (nx + 2) (stO f (nextF d dict nice p' ((q : Int) - p') r').2) = syB m nx f (nextF d dict nice p' ((q : Int) - p') r').2 by simp [syB, Eng.upd]]
      generalize nextF d dict nice p' ((q : Int) - p') r' = z at hadv q5
      obtain ⟨s, r2⟩ := z
      have hadv : 1 ≤ advS s ∧ p' + advS s ≤ q := hadv
      have w2 : IntKind.i64.wrap ((p' : Int) + if s.len < 1 then 1 else s.len) = ((p' + advS s : Nat) : Int) := by
        have e : (p' : Int) + (if s.len < 1 then 1 else s.len) = ((p' + advS s : Nat) : Int) := by
          unfold advS
          split <;> omega
        rw [e, wrap_i64] <;> omega
      have f1 : (N2 + 1 = N2) = False := eq_false (by omega)
      have f2 : (N2 = N2 + 1) = False := eq_false (by omega)
      have f3 : (N2 + 1 + 1 = N2) = False := eq_false (by omega)
      have f4 : (N2 = nx + 2) = False := eq_false (by omega)
      have f5 : (N2 + 1 = nx + 2) = False := eq_false (by omega)
      have f6 := f1
      have f7 := f1
      simp (config := { maxSteps := 1000000, implicitDefEqProofs := false }) only [-List.reduceReplicate, Nat.reduceBEq, renA, renL, renM, renO, evx, evs, evp, Eng.look, cst, cst1, putd, dstOk, params, loadx, partx, loI, hiI, bltx, mmI, boxx, srcx, calx, nilx, upd, del, resv, fillA, setMany, Nat.reduceLT, Nat.reduceLeDiff, Nat.reduceEqDiff, Nat.reduceAdd, Nat.reduceMul, Nat.reduceSub, reduceIte, reduceCtorEq, if_true, if_false, ite_true, ite_false, eq_self, forall_const, implies_true, Int.reduceLT, Int.reduceLE, Int.reduceToNat, Int.reduceAdd, Int.reduceSub, Int.reduceNeg, ne_eq, Int.reduceEq, Int.reduceNe, Int.reduceBEq, Int.reduceBNe, beq_self_eq_true, bne_self_eq_false, BitVec.reduceBEq, BitVec.reduceBNe, BitVec.reduceOfInt, BitVec.reduceSetWidth, wrD, engS0, engS1, engS2, engS3, engS4, engS5, engS6, engS7, engS8, engS9, engU0, engT0, engT1, engT2, Fx.t1, Fx.t2, Fx.t3, Fx.t4, Fx.t5, Fx.t23, Fx.t25, Fx.t35, Fx.t75, Fx.t76, Fx.t82, Fx.t83, Fx.t91, Fx.t109, Fx.t110, Fx.t111, Fx.t112, Fx.t113, Fx.t128, Fx.t129, Fx.t130, Fx.en83, f1, f2, f3, f4, f5, f6, f7, symC, spl5']
      refine ⟨R.wn _ (by omega), .inr trivial, symC s, rfl, ?_⟩
      simp (config := { maxSteps := 1000000, implicitDefEqProofs := false }) only [-List.reduceReplicate, Nat.reduceBEq, renA, renL, renM, renO, evx, evs, evp, Eng.look, cst, cst1, putd, dstOk, params, loadx, partx, loI, hiI, bltx, mmI, boxx, srcx, calx, nilx, upd, del, resv, fillA, setMany, Nat.reduceLT, Nat.reduceLeDiff, Nat.reduceEqDiff, Nat.reduceAdd, Nat.reduceMul, Nat.reduceSub, reduceIte, reduceCtorEq, if_true, if_false, ite_true, ite_false, eq_self, forall_const, implies_true, Int.reduceLT, Int.reduceLE, Int.reduceToNat, Int.reduceAdd, Int.reduceSub, Int.reduceNeg, ne_eq, Int.reduceEq, Int.reduceNe, Int.reduceBEq, Int.reduceBNe, beq_self_eq_true, bne_self_eq_false, BitVec.reduceBEq, BitVec.reduceBNe, BitVec.reduceOfInt, BitVec.reduceSetWidth, wrD, engS0, engS1, engS2, engS3, engS4, engS5, engS6, engS7, engS8, engS9, engU0, engT0, engT1, engT2, Fx.t1, Fx.t2, Fx.t3, Fx.t4, Fx.t5, Fx.t23, Fx.t25, Fx.t35, Fx.t75, Fx.t76, Fx.t82, Fx.t83, Fx.t91, Fx.t109, Fx.t110, Fx.t111, Fx.t112, Fx.t113, Fx.t128, Fx.t129, Fx.t130, Fx.en83, f1, f2, f3, f6, f7, hbt, outA]
      refine ⟨rfl, rfl, ?_⟩
      refine appk_cells0 (k := 1) (bt := 40) (s := 5) (by decide) (by decide) (by decide) ?_
      intro cap' sp' d1 d2 d3
      simp (config := { maxSteps := 1000000, implicitDefEqProofs := false }) only [-List.reduceReplicate, Nat.reduceBEq, renA, renL, renM, renO, evx, evs, evp, Eng.look, cst, cst1, putd, dstOk, params, loadx, partx, loI, hiI, bltx, mmI, boxx, srcx, calx, nilx, upd, del, resv, fillA, setMany, Nat.reduceLT, Nat.reduceLeDiff, Nat.reduceEqDiff, Nat.reduceAdd, Nat.reduceMul, Nat.reduceSub, reduceIte, reduceCtorEq, if_true, if_false, ite_true, ite_false, eq_self, forall_const, implies_true, Int.reduceLT, Int.reduceLE, Int.reduceToNat, Int.reduceAdd, Int.reduceSub, Int.reduceNeg, ne_eq, Int.reduceEq, Int.reduceNe, Int.reduceBEq, Int.reduceBNe, beq_self_eq_true, bne_self_eq_false, BitVec.reduceBEq, BitVec.reduceBNe, BitVec.reduceOfInt, BitVec.reduceSetWidth, wrD, engS0, engS1, engS2, engS3, engS4, engS5, engS6, engS7, engS8, engS9, engU0, engT0, engT1, engT2, Fx.t1, Fx.t2, Fx.t3, Fx.t4, Fx.t5, Fx.t23, Fx.t25, Fx.t35, Fx.t75, Fx.t76, Fx.t82, Fx.t83, Fx.t91, Fx.t109, Fx.t110, Fx.t111, Fx.t112, Fx.t113, Fx.t128, Fx.t129, Fx.t130, Fx.en83, f1, f2, f3, f4, f5, f6, f7, spl5', w2]
      refine UpX_normal (by omega) ([s], p' + advS s, r2, some (N2 + 1 + 1, cap', sp'), N2 + 1 + 1 + 1) ⟨by show p + (i + 1) ≤ p' + advS s; omega, hadv.2, ⟨by show nx + 3 ≤ N2 + 1 + 1; omega, by show N2 + 1 + 1 < N2 + 1 + 1 + 1; omega, d1, d2, d3⟩, by show nx + 3 ≤ N2 + 1 + 1 + 1; omega, by show ([s]).length ≤ i + 1; simp only [List.length_append, List.length_cons, List.length_nil]; omega, ?_⟩ ?_
      · show symsF d dict nice q (q - p) p r = ([s] ++ (symsF d dict nice q (q - p - (i + 1)) (p' + advS s) r2).1, (symsF d dict nice q (q - p - (i + 1)) (p' + advS s) r2).2)
        rw [q5, show q - p - (i + 1) = k by omega]
        rfl
      · have RS := Rdm.consN (RB r2 (N2 + 1 + 1 + 1) (by omega)) (n := N2 + 1 + 1) (fun x hx => by have := ltB r2 (nx + 3) (Nat.le_refl _) x hx; omega) (symRow ([s]) sp')
        refine Le.same (by show nx ≤ N2 + 1 + 1 + 1; omega) ⟨by show some (AV.sl _ _ _ _) = _; rfl, rfl, rfl, rfl, rfl, rfl, rfl, rfl, trivial⟩ (memSame_all fun x hx => ?_) RS.nd RS.wn RS.kp
        rcases List.mem_cons.1 hx with rfl | hx
        · rw [look_cons, if_pos rfl]
          show some (AObj.cells (symC s ++ sp'.map AV.val) _) = some (AObj.cells ([s].flatMap symC ++ sp'.map AV.val) _)
          rw [List.flatMap_singleton]
        · have := ltB r2 (nx + 3) (Nat.le_refl _) x hx
          rw [look_cons, look_cons, look_cons, if_neg (by omega), if_neg (by omega), if_neg (by omega)]
          exact look_mem (RB r2 (nx + 3) (Nat.le_refl _)).nd hx
    · obtain ⟨c0, c4, c1, c2, c3⟩ : nx + 3 ≤ n ∧ n < N ∧ L.length ≤ cap ∧ cap ≤ maxI ∧ sp.length = (cap - L.length) * 5 := q3
      have nn : ∀ r', ∀ x ∈ syB m nx f r', x.1 ≠ n := fun r' x hx => by have := ltB r' (nx + 3) (Nat.le_refl _) x hx; omega
      simp (config := { maxSteps := 1000000, implicitDefEqProofs := false }) only [-List.reduceReplicate, Nat.reduceBEq, renA, renL, renM, renO, evx, evs, evp, Eng.look, cst, cst1, putd, dstOk, params, loadx, partx, loI, hiI, bltx, mmI, boxx, srcx, calx, nilx, upd, del, resv, fillA, setMany, Nat.reduceLT, Nat.reduceLeDiff, Nat.reduceEqDiff, Nat.reduceAdd, Nat.reduceMul, Nat.reduceSub, reduceIte, reduceCtorEq, if_true, if_false, ite_true, ite_false, eq_self, forall_const, implies_true, Int.reduceLT, Int.reduceLE, Int.reduceToNat, Int.reduceAdd, Int.reduceSub, Int.reduceNeg, ne_eq, Int.reduceEq, Int.reduceNe, Int.reduceBEq, Int.reduceBNe, beq_self_eq_true, bne_self_eq_false, BitVec.reduceBEq, BitVec.reduceBNe, BitVec.reduceOfInt, BitVec.reduceSetWidth, wrD, engS0, engS1, engS2, engS3, engS4, engS5, engS6, engS7, engS8, engS9, engU0, engT0, engT1, engT2, Fx.t1, Fx.t2, Fx.t3, Fx.t4, Fx.t5, Fx.t23, Fx.t25, Fx.t35, Fx.t75, Fx.t76, Fx.t82, Fx.t83, Fx.t91, Fx.t109, Fx.t110, Fx.t111, Fx.t112, Fx.t113, Fx.t128, Fx.t129, Fx.t130, Fx.en83, g1, w1, outM]
      refine (nextOk (m := (n, symRow L sp) :: syB m nx f r') (Rdm.consN (RB r' N q4) (nn r') _) (fun x hx => by
        rcases List.mem_cons.1 hx with rfl | hx
        · exact c4
        · exact ltB r' N q4 x hx) (by rw [look_cons, if_neg (by omega), syB, look_cons, if_pos rfl]) (R.wn _ (by omega)) (by omega) (F.ext (by omega) fun k o hk h => by rw [look_cons, if_neg (by omega), syB, look_cons, look_cons, if_neg (by omega), if_neg (by omega)]; exact h) hd p' ((q : Int) - p') (by omega) (by omega)).weak ?_
      rintro v m2 N2 ⟨rfl, rfl, hN2⟩
      have hne : ¬ n = nx + 2 := by omega
      rw [show Eng.upd ((n, symRow L sp) :: syB m nx f r') (nx + 2) (stO f (nextF d dict nice p' ((q : Int) - p') r').2) = (n, symRow L sp) :: syB m nx f (nextF d dict nice p' ((q : Int) - p') r').2 by simp [syB, Eng.upd, hne]]
      generalize nextF d dict nice p' ((q : Int) - p') r' = z at hadv q5
      obtain ⟨s, r2⟩ := z
      have hadv : 1 ≤ advS s ∧ p' + advS s ≤ q := hadv
      have w2 : IntKind.i64.wrap ((p' : Int) + if s.len < 1 then 1 else s.len) = ((p' + advS s : Nat) : Int) := by
        have e : (p' : Int) + (if s.len < 1 then 1 else s.len) = ((p' + advS s : Nat) : Int) := by
          unfold advS
          split <;> omega
        rw [e, wrap_i64] <;> omega
      have f1 : (N2 + 1 = N2) = False := eq_false (by omega)
      have f2 : (N2 = N2 + 1) = False := eq_false (by omega)
      have f3 : (N2 + 1 + 1 = N2) = False := eq_false (by omega)
      have f4 : (N2 = nx + 2) = False := eq_false (by omega)
      have f5 : (N2 + 1 = nx + 2) = False := eq_false (by omega)
      have f6 : (N2 = n) = False := eq_false (by omega)
      have f7 : (N2 + 1 = n) = False := eq_false (by omega)
      have hdl : del (syB m nx f r2) n = syB m nx f r2 := del_none (nn r2)
      simp (config := { maxSteps := 1000000, implicitDefEqProofs := false }) only [-List.reduceReplicate, Nat.reduceBEq, renA, renL, renM, renO, evx, evs, evp, Eng.look, cst, cst1, putd, dstOk, params, loadx, partx, loI, hiI, bltx, mmI, boxx, srcx, calx, nilx, upd, del, resv, fillA, setMany, Nat.reduceLT, Nat.reduceLeDiff, Nat.reduceEqDiff, Nat.reduceAdd, Nat.reduceMul, Nat.reduceSub, reduceIte, reduceCtorEq, if_true, if_false, ite_true, ite_false, eq_self, forall_const, implies_true, Int.reduceLT, Int.reduceLE, Int.reduceToNat, Int.reduceAdd, Int.reduceSub, Int.reduceNeg, ne_eq, Int.reduceEq, Int.reduceNe, Int.reduceBEq, Int.reduceBNe, beq_self_eq_true, bne_self_eq_false, BitVec.reduceBEq, BitVec.reduceBNe, BitVec.reduceOfInt, BitVec.reduceSetWidth, wrD, engS0, engS1, engS2, engS3, engS4, engS5, engS6, engS7, engS8, engS9, engU0, engT0, engT1, engT2, Fx.t1, Fx.t2, Fx.t3, Fx.t4, Fx.t5, Fx.t23, Fx.t25, Fx.t35, Fx.t75, Fx.t76, Fx.t82, Fx.t83, Fx.t91, Fx.t109, Fx.t110, Fx.t111, Fx.t112, Fx.t113, Fx.t128, Fx.t129, Fx.t130, Fx.en83, f1, f2, f3, f4, f5, f6, f7, symC, spl5']
      refine ⟨R.wn _ (by omega), .inr trivial, symC s, rfl, ?_⟩
      simp (config := { maxSteps := 1000000, implicitDefEqProofs := false }) only [-List.reduceReplicate, Nat.reduceBEq, renA, renL, renM, renO, evx, evs, evp, Eng.look, cst, cst1, putd, dstOk, params, loadx, partx, loI, hiI, bltx, mmI, boxx, srcx, calx, nilx, upd, del, resv, fillA, setMany, Nat.reduceLT, Nat.reduceLeDiff, Nat.reduceEqDiff, Nat.reduceAdd, Nat.reduceMul, Nat.reduceSub, reduceIte, reduceCtorEq, if_true, if_false, ite_true, ite_false, eq_self, forall_const, implies_true, Int.reduceLT, Int.reduceLE, Int.reduceToNat, Int.reduceAdd, Int.reduceSub, Int.reduceNeg, ne_eq, Int.reduceEq, Int.reduceNe, Int.reduceBEq, Int.reduceBNe, beq_self_eq_true, bne_self_eq_false, BitVec.reduceBEq, BitVec.reduceBNe, BitVec.reduceOfInt, BitVec.reduceSetWidth, wrD, engS0, engS1, engS2, engS3, engS4, engS5, engS6, engS7, engS8, engS9, engU0, engT0, engT1, engT2, Fx.t1, Fx.t2, Fx.t3, Fx.t4, Fx.t5, Fx.t23, Fx.t25, Fx.t35, Fx.t75, Fx.t76, Fx.t82, Fx.t83, Fx.t91, Fx.t109, Fx.t110, Fx.t111, Fx.t112, Fx.t113, Fx.t128, Fx.t129, Fx.t130, Fx.en83, f1, f2, f3, f6, f7, hbt, outA]
      refine ⟨rfl, rfl, ?_⟩
      refine appk_cells (X := L.flatMap symC) (sp := sp) (k := 1) (bt := 40) (s := 5) ?_ (R.wn _ (by omega)) (flat_len L) c3 c1 c2 (by omega) (by decide) ?_
      · rw [look_cons, look_cons, look_cons, if_neg (by omega), if_neg (by omega), if_pos rfl]; rfl
      intro cap' sp' d1 d2 d3
      simp (config := { maxSteps := 1000000, implicitDefEqProofs := false }) only [-List.reduceReplicate, Nat.reduceBEq, renA, renL, renM, renO, evx, evs, evp, Eng.look, cst, cst1, putd, dstOk, params, loadx, partx, loI, hiI, bltx, mmI, boxx, srcx, calx, nilx, upd, del, resv, fillA, setMany, Nat.reduceLT, Nat.reduceLeDiff, Nat.reduceEqDiff, Nat.reduceAdd, Nat.reduceMul, Nat.reduceSub, reduceIte, reduceCtorEq, if_true, if_false, ite_true, ite_false, eq_self, forall_const, implies_true, Int.reduceLT, Int.reduceLE, Int.reduceToNat, Int.reduceAdd, Int.reduceSub, Int.reduceNeg, ne_eq, Int.reduceEq, Int.reduceNe, Int.reduceBEq, Int.reduceBNe, beq_self_eq_true, bne_self_eq_false, BitVec.reduceBEq, BitVec.reduceBNe, BitVec.reduceOfInt, BitVec.reduceSetWidth, wrD, engS0, engS1, engS2, engS3, engS4, engS5, engS6, engS7, engS8, engS9, engU0, engT0, engT1, engT2, Fx.t1, Fx.t2, Fx.t3, Fx.t4, Fx.t5, Fx.t23, Fx.t25, Fx.t35, Fx.t75, Fx.t76, Fx.t82, Fx.t83, Fx.t91, Fx.t109, Fx.t110, Fx.t111, Fx.t112, Fx.t113, Fx.t128, Fx.t129, Fx.t130, Fx.en83, f1, f2, f3, f4, f5, f6, f7, spl5', w2, hdl]
      refine UpX_normal (by omega) (L ++ [s], p' + advS s, r2, some (N2 + 1 + 1, cap', sp'), N2 + 1 + 1 + 1) ⟨by show p + (i + 1) ≤ p' + advS s; omega, hadv.2, ⟨by show nx + 3 ≤ N2 + 1 + 1; omega, by show N2 + 1 + 1 < N2 + 1 + 1 + 1; omega, by show (L ++ [s]).length ≤ cap'; rw [List.length_append]; exact d1, d2, by show sp'.length = (cap' - (L ++ [s]).length) * 5; rw [List.length_append]; exact d3⟩, by show nx + 3 ≤ N2 + 1 + 1 + 1; omega, by show (L ++ [s]).length ≤ i + 1; simp only [List.length_append, List.length_cons, List.length_nil]; omega, ?_⟩ ?_
      · show symsF d dict nice q (q - p) p r = (L ++ [s] ++ (symsF d dict nice q (q - p - (i + 1)) (p' + advS s) r2).1, (symsF d dict nice q (q - p - (i + 1)) (p' + advS s) r2).2)
        rw [q5, show q - p - (i + 1) = k by omega]
        rw [List.append_assoc]; rfl
      · have RS := Rdm.consN (RB r2 (N2 + 1 + 1 + 1) (by omega)) (n := N2 + 1 + 1) (fun x hx => by have := ltB r2 (nx + 3) (Nat.le_refl _) x hx; omega) (symRow (L ++ [s]) sp')
        refine Le.same (by show nx ≤ N2 + 1 + 1 + 1; omega) ⟨by show some (AV.sl _ _ _ _) = _; rw [List.length_append]; rfl, rfl, rfl, rfl, rfl, rfl, rfl, rfl, trivial⟩ (memSame_all fun x hx => ?_) RS.nd RS.wn RS.kp
        rcases List.mem_cons.1 hx with rfl | hx
        · rw [look_cons, if_pos rfl]
          show some (AObj.cells (L.flatMap symC ++ symC s ++ sp'.map AV.val) _) = some (AObj.cells ((L ++ [s]).flatMap symC ++ sp'.map AV.val) _)
          rw [List.flatMap_append, List.flatMap_singleton]
        · have := ltB r2 (nx + 3) (Nat.le_refl _) x hx
          rw [look_cons, look_cons, look_cons, if_neg (by omega), if_neg (by omega), if_neg (by omega)]
          exact look_mem (RB r2 (nx + 3) (Nat.le_refl _)).nd hx
  · have hp : p' = q := by omega
    subst hp
    have g1 : decide ((p' : Int) < (p' : Int)) = false := decide_eq_false (by omega)
    rw [symsF_done _ _ _ _ _ _ _ (Nat.le_refl _), List.append_nil] at q5
    simp (config := { maxSteps := 1000000, implicitDefEqProofs := false }) only [-List.reduceReplicate, Nat.reduceBEq, renA, renL, renM, renO, evx, evs, evp, Eng.look, cst, cst1, putd, dstOk, params, loadx, partx, loI, hiI, bltx, mmI, boxx, srcx, calx, nilx, upd, del, resv, fillA, setMany, Nat.reduceLT, Nat.reduceLeDiff, Nat.reduceEqDiff, Nat.reduceAdd, Nat.reduceMul, Nat.reduceSub, reduceIte, reduceCtorEq, if_true, if_false, ite_true, ite_false, eq_self, forall_const, implies_true, Int.reduceLT, Int.reduceLE, Int.reduceToNat, Int.reduceAdd, Int.reduceSub, Int.reduceNeg, ne_eq, Int.reduceEq, Int.reduceNe, Int.reduceBEq, Int.reduceBNe, beq_self_eq_true, bne_self_eq_false, BitVec.reduceBEq, BitVec.reduceBNe, BitVec.reduceOfInt, BitVec.reduceSetWidth, wrD, engS0, engS1, engS2, engS3, engS4, engS5, engS6, engS7, engS8, engS9, engU0, engT0, engT1, engT2, Fx.t1, Fx.t2, Fx.t3, Fx.t4, Fx.t5, Fx.t23, Fx.t25, Fx.t35, Fx.t75, Fx.t76, Fx.t82, Fx.t83, Fx.t91, Fx.t109, Fx.t110, Fx.t111, Fx.t112, Fx.t113, Fx.t128, Fx.t129, Fx.t130, Fx.en83, g1, outM]
    have h1 : decide (N ≤ nx + 1) = false := decide_eq_false (by omega)
    have h2 : decide (N ≤ nx + 2) = false := decide_eq_false (by omega)
    have h3 : (nx + 2 = nx + 1) = False := eq_false (by omega)
    have h4 : (nx + 2 == nx + 1) = false := by simp
    rcases o with _ | ⟨n, cap, sp⟩
    · have hL : L = [] := q3
      subst hL
      refine ⟨Fx.mixed, .inl ⟨[(0, false), (1, false), (2, false), (3, false), (4, false), (5, false), (6, true), (7, false)], [nx + 1], by kernel_rfl, (fun n hn => by cases List.mem_singleton.1 hn; exact ⟨R.wn _ (by omega), by show (Eng.look (syB m nx f r') (nx + 1)).isSome = true; rw [syB, look_cons, if_neg (by omega), look_cons, if_pos rfl]; rfl⟩), ?_⟩⟩
      simp (config := { maxSteps := 1000000, implicitDefEqProofs := false }) only [-List.reduceReplicate, Nat.reduceBEq, renA, renL, renM, renO, evx, evs, evp, Eng.look, cst, cst1, putd, dstOk, params, loadx, partx, loI, hiI, bltx, mmI, boxx, srcx, calx, nilx, upd, del, resv, fillA, setMany, Nat.reduceLT, Nat.reduceLeDiff, Nat.reduceEqDiff, Nat.reduceAdd, Nat.reduceMul, Nat.reduceSub, reduceIte, reduceCtorEq, if_true, if_false, ite_true, ite_false, eq_self, forall_const, implies_true, Int.reduceLT, Int.reduceLE, Int.reduceToNat, Int.reduceAdd, Int.reduceSub, Int.reduceNeg, ne_eq, Int.reduceEq, Int.reduceNe, Int.reduceBEq, Int.reduceBNe, beq_self_eq_true, bne_self_eq_false, BitVec.reduceBEq, BitVec.reduceBNe, BitVec.reduceOfInt, BitVec.reduceSetWidth, wrD, engS0, engS1, engS2, engS3, engS4, engS5, engS6, engS7, engS8, engS9, engU0, engT0, engT1, engT2, Fx.t1, Fx.t2, Fx.t3, Fx.t4, Fx.t5, Fx.t23, Fx.t25, Fx.t35, Fx.t75, Fx.t76, Fx.t82, Fx.t83, Fx.t91, Fx.t109, Fx.t110, Fx.t111, Fx.t112, Fx.t113, Fx.t128, Fx.t129, Fx.t130, Fx.en83, syB, stO, outM, outA, h1, h2, h3, h4]
      refine ⟨rfl, Nat.le_of_ble_eq_true rfl, rfl, Nat.le_of_ble_eq_true rfl, ?_⟩
      rw [q5]
      refine Fin.keepW (m0 := m) (by omega) (memSame_all fun x hx => ?_) R.nd R.kp ⟨none, rfl, rfl, rfl, by omega⟩
      have := hlt x hx
      rw [look_cons, look_cons, if_neg (by omega), if_neg (by omega)]
      exact look_mem R.nd hx
    · obtain ⟨c0, c4, c1, c2, c3⟩ : nx + 3 ≤ n ∧ n < N ∧ L.length ≤ cap ∧ cap ≤ maxI ∧ sp.length = (cap - L.length) * 5 := q3
      have h5 : (n = nx + 1) = False := eq_false (by omega)
      have h6 : (n = nx + 2) = False := eq_false (by omega)
      refine ⟨Fx.mixed, .inl ⟨[(0, false), (1, false), (2, false), (3, false), (4, false), (5, false), (6, true), (7, false)], [nx + 1], by kernel_rfl, (fun k hn => by cases List.mem_singleton.1 hn; exact ⟨R.wn _ (by omega), by show (Eng.look ((n, symRow L sp) :: syB m nx f r') (nx + 1)).isSome = true; rw [look_cons, if_neg (by omega), syB, look_cons, if_neg (by omega), look_cons, if_pos rfl]; rfl⟩), ?_⟩⟩
      simp (config := { maxSteps := 1000000, implicitDefEqProofs := false }) only [-List.reduceReplicate, Nat.reduceBEq, renA, renL, renM, renO, evx, evs, evp, Eng.look, cst, cst1, putd, dstOk, params, loadx, partx, loI, hiI, bltx, mmI, boxx, srcx, calx, nilx, upd, del, resv, fillA, setMany, Nat.reduceLT, Nat.reduceLeDiff, Nat.reduceEqDiff, Nat.reduceAdd, Nat.reduceMul, Nat.reduceSub, reduceIte, reduceCtorEq, if_true, if_false, ite_true, ite_false, eq_self, forall_const, implies_true, Int.reduceLT, Int.reduceLE, Int.reduceToNat, Int.reduceAdd, Int.reduceSub, Int.reduceNeg, ne_eq, Int.reduceEq, Int.reduceNe, Int.reduceBEq, Int.reduceBNe, beq_self_eq_true, bne_self_eq_false, BitVec.reduceBEq, BitVec.reduceBNe, BitVec.reduceOfInt, BitVec.reduceSetWidth, wrD, engS0, engS1, engS2, engS3, engS4, engS5, engS6, engS7, engS8, engS9, engU0, engT0, engT1, engT2, Fx.t1, Fx.t2, Fx.t3, Fx.t4, Fx.t5, Fx.t23, Fx.t25, Fx.t35, Fx.t75, Fx.t76, Fx.t82, Fx.t83, Fx.t91, Fx.t109, Fx.t110, Fx.t111, Fx.t112, Fx.t113, Fx.t128, Fx.t129, Fx.t130, Fx.en83, syB, stO, outM, outA, h1, h2, h3, h4, h5, h6]
      refine ⟨rfl, Nat.le_of_ble_eq_true rfl, rfl, Nat.le_of_ble_eq_true rfl, ?_⟩
      rw [q5]
      have RS := Rdm.consN (R.up (show nx ≤ N by omega)) (n := n) (fun x hx => by have := hlt x hx; omega) (symRow L sp)
      refine Fin.keepW (m0 := (n, symRow L sp) :: m) (by omega) (memSame_all fun x hx => ?_) RS.nd RS.kp ⟨some (n, cap, sp), rfl, ⟨by omega, c4, c1, c2, c3⟩, rfl, by omega⟩
      rcases List.mem_cons.1 hx with rfl | hx
      · rw [look_cons, if_pos rfl]
      · have := hlt x hx
        rw [look_cons, look_cons, look_cons, if_neg (by omega), if_neg (by omega), if_neg (by omega)]
        exact look_mem R.nd hx
end Go.Proofs.Ytmnbbpckglppjaa
