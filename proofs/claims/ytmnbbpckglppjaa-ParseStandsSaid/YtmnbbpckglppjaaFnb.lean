/- Finding: the finder's inner functions. -/
import Derived.Test.YtmnbbpckglppjaaEng19
import Derived.Test.YtmnbbpckglppjaaEng26
import Derived.Test.YtmnbbpckglppjaaFna
import Derived.Test.YtmnbbpckglppjaaFx
set_option linter.unusedVariables false
set_option linter.unusedSimpArgs false
set_option maxRecDepth 100000
namespace Go.Eng
open Go
/-- a memory that a call reads alone -/
structure Rdm (wr : Nat → Bool) (m : Mem) (nx : Nat) : Prop where
  nd : (m.map fun p => p.1).Nodup
  kp : ∀ n, wr n = false → ∃ o, look m n = some o
  wn : ∀ n, nx ≤ n → wr n = true
def Kr (V : AV) (m : Mem) (nx : Nat) : Kv := fun v m' nx' => v = V ∧ m' = m ∧ nx' = nx
theorem Rdm.fin {wr : Nat → Bool} {m : Mem} {nx : Nat} (r : Rdm wr m nx) (V : AV) : Fin nx wr m nx (Kr V m nx) V := Fin.keepW (m0 := m) (Nat.le_refl _) (memSame_slf r.nd) r.nd r.kp ⟨rfl, rfl, rfl⟩
theorem Rdm.le {wr : Nat → Bool} {m : Mem} {nx : Nat} (r : Rdm wr m nx) {t t' : Slots} (hs : slotsSame t t') : ∃ l, Le nx l wr t m nx t' m nx := Le.same (Nat.le_refl _) hs (memSame_slf r.nd) r.nd r.wn r.kp
end Go.Eng
namespace Go.Proofs.Ytmnbbpckglppjaa
open Go Go.Eng

def finO (b c len cap : Nat) (dict nice : Int) : AObj := .cells [.sl b 0 len cap, .int .i64 dict, .int .i64 nice, .map c] 111
theorem rowGet (d : List (BitVec 8)) (S : List AV) (i : Nat) (h : i < d.length) : (bvs .u8 d ++ S).getD i (.int .u8 0) = .int .u8 ((d.getD i 0).toNat : Int) := by
  have hb := bvs_getD (k := .u8) (l := d) (n := i)
  rw [List.getD_eq_getElem?_getD] at hb ⊢
  rw [List.getElem?_append_left (by rw [bvs_length]; exact h)]
  exact hb
theorem bv_beq (x y : BitVec 8) (h : x = y) : (x == y) = true := by rw [h]; exact beq_self_eq_true y
set_option maxHeartbeats 1000000 in
theorem likeOk {wr : Nat → Bool} {m : Mem} {nx a b c cap : Nat} {sp : List Value} {d : List (BitVec 8)} {dict nice : Int} (r : Rdm wr m nx) (h1 : Eng.look m a = some (finO b c d.length cap dict nice)) (h2 : Eng.look m b = some (rowO d sp)) (ha : a < nx) (hb : b < nx)
    (p e : Nat) (M : Int) (he : e ≤ p) (hM : M ≤ (d.length : Int) - p) (hp : p ≤ d.length) (hl : d.length ≤ 1000000) :
    CallG false Try.prog 70 [.ptr a 0, .int .i64 p, .int .i64 e, .int .i64 M] wr m nx (Kr (.int .i64 (lkn d p (p - e) M.toNat)) m nx) := by
  refine fn_okG Try.func70 rfl (by show 4 ≤ _; decide) ?_
  have ra : decide (nx ≤ a) = false := decide_eq_false (by omega)
  have rb : decide (nx ≤ b) = false := decide_eq_false (by omega)
  simp (config := { maxSteps := 1000000, implicitDefEqProofs := false }) only [-List.reduceReplicate, Nat.reduceBEq, renA, renL, renM, renO, evx, evs, evp, Eng.look, cst, cst1, putd, dstOk, params, loadx, partx, loI, hiI, bltx, mmI, boxx, srcx, calx, nilx, upd, del, resv, fillA, setMany, Nat.reduceLT, Nat.reduceLeDiff, Nat.reduceEqDiff, Nat.reduceAdd, Nat.reduceMul, Nat.reduceSub, reduceIte, reduceCtorEq, if_true, if_false, ite_true, ite_false, eq_self, forall_const, implies_true, Int.reduceLT, Int.reduceLE, Int.reduceToNat, Int.reduceAdd, Int.reduceSub, Int.reduceNeg, ne_eq, Int.reduceEq, Int.reduceNe, Int.reduceBEq, Int.reduceBNe, beq_self_eq_true, bne_self_eq_false, BitVec.reduceBEq, BitVec.reduceBNe, BitVec.reduceOfInt, BitVec.reduceSetWidth, wrD, engS0, engS1, engS2, engS3, engS4, engS5, engS6, engS7, engS8, engS9, engU0, engT0, engT1, engT2, Fx.t3, Fx.t4, Fx.t5, Fx.t23, Fx.t35, Fx.t91, Fx.t109, Fx.t110, Fx.t111, Fx.t112, Fx.t113, Try.results70, Try.ntmps70]
  refine LoopOk.upX (fun n (_ : Unit) => (n : Int) ≤ max M 0 ∧ ∀ j, j < n → d.getD (p + j) 0 = d.getD (p - e + j) 0) 1000000 (fun n _ => ([(9, .int .i64 n), (3, .int .i64 M), (2, .int .i64 e), (1, .int .i64 p), (0, .ptr a 0)], m, nx)) () ⟨by omega, fun j hj => by omega⟩ ?_ ?_
  · exact r.le ⟨rfl, rfl, rfl, rfl, rfl, trivial⟩
  rintro n _ ⟨hi, hn, heq⟩
  rcases Int.lt_or_le (n : Int) M with g | g
  · have g1 : decide ((n : Int) < M) = true := decide_eq_true g
    have w1 : IntKind.i64.wrap ((p : Int) + (n : Int)) = ((p + n : Nat) : Int) := by rw [wrap_i64] <;> omega
    have w2 : IntKind.i64.wrap ((p : Int) - (e : Int)) = ((p - e : Nat) : Int) := by rw [wrap_i64] <;> omega
    have w3 : IntKind.i64.wrap (((p - e : Nat) : Int) + (n : Int)) = ((p - e + n : Nat) : Int) := by rw [wrap_i64] <;> omega
    have w4 : IntKind.i64.wrap ((n : Int) + 1) = ((n + 1 : Nat) : Int) := by rw [wrap_i64] <;> omega
    simp (config := { maxSteps := 1000000, implicitDefEqProofs := false }) only [-List.reduceReplicate, Nat.reduceBEq, renA, renL, renM, renO, evx, evs, evp, Eng.look, cst, cst1, putd, dstOk, params, loadx, partx, loI, hiI, bltx, mmI, boxx, srcx, calx, nilx, upd, del, resv, fillA, setMany, Nat.reduceLT, Nat.reduceLeDiff, Nat.reduceEqDiff, Nat.reduceAdd, Nat.reduceMul, Nat.reduceSub, reduceIte, reduceCtorEq, if_true, if_false, ite_true, ite_false, eq_self, forall_const, implies_true, Int.reduceLT, Int.reduceLE, Int.reduceToNat, Int.reduceAdd, Int.reduceSub, Int.reduceNeg, ne_eq, Int.reduceEq, Int.reduceNe, Int.reduceBEq, Int.reduceBNe, beq_self_eq_true, bne_self_eq_false, BitVec.reduceBEq, BitVec.reduceBNe, BitVec.reduceOfInt, BitVec.reduceSetWidth, wrD, engS0, engS1, engS2, engS3, engS4, engS5, engS6, engS7, engS8, engS9, engU0, engT0, engT1, engT2, Fx.t3, Fx.t4, Fx.t5, Fx.t23, Fx.t35, Fx.t91, Fx.t109, Fx.t110, Fx.t111, Fx.t112, Fx.t113]
    refine ⟨Fx.mixed, .inl ⟨[(0, false), (1, false), (2, false), (3, false), (4, false), (5, false), (6, false), (7, false), (8, false), (9, false), (10, false), (11, false), (12, false), (13, false), (14, false), (15, false), (16, false), (17, false), (18, false), (19, false), (20, false), (21, false), (22, false), (23, false), (24, false), (25, false)], [], by kernel_rfl, (fun n hn => by cases hn), ?_⟩⟩
    simp (config := { maxSteps := 1000000, implicitDefEqProofs := false }) only [-List.reduceReplicate, Nat.reduceBEq, renA, renL, renM, renO, evx, evs, evp, Eng.look, cst, cst1, putd, dstOk, params, loadx, partx, loI, hiI, bltx, mmI, boxx, srcx, calx, nilx, upd, del, resv, fillA, setMany, Nat.reduceLT, Nat.reduceLeDiff, Nat.reduceEqDiff, Nat.reduceAdd, Nat.reduceMul, Nat.reduceSub, reduceIte, reduceCtorEq, if_true, if_false, ite_true, ite_false, eq_self, forall_const, implies_true, Int.reduceLT, Int.reduceLE, Int.reduceToNat, Int.reduceAdd, Int.reduceSub, Int.reduceNeg, ne_eq, Int.reduceEq, Int.reduceNe, Int.reduceBEq, Int.reduceBNe, beq_self_eq_true, bne_self_eq_false, BitVec.reduceBEq, BitVec.reduceBNe, BitVec.reduceOfInt, BitVec.reduceSetWidth, wrD, engS0, engS1, engS2, engS3, engS4, engS5, engS6, engS7, engS8, engS9, engU0, engT0, engT1, engT2, Fx.t3, Fx.t4, Fx.t5, Fx.t23, Fx.t35, Fx.t91, Fx.t109, Fx.t110, Fx.t111, Fx.t112, Fx.t113, g1, h1, h2, finO, rowO, ra, rb, w1, w2, w3, w4]
    refine ⟨by omega, by omega, by omega, by omega, ?_⟩
    rw [rowGet d _ (p + n) (by omega), rowGet d _ (p - e + n) (by omega)]
    rcases Decidable.em (d.getD (p + n) 0 = d.getD (p - e + n) 0) with hq | hq
    · have hb : (d.getD (p + n) 0 == d.getD (p - e + n) 0) = true := bv_beq _ _ hq
      simp (config := { maxSteps := 1000000, implicitDefEqProofs := false }) only [-List.reduceReplicate, Nat.reduceBEq, renA, renL, renM, renO, evx, evs, evp, Eng.look, cst, cst1, putd, dstOk, params, loadx, partx, loI, hiI, bltx, mmI, boxx, srcx, calx, nilx, upd, del, resv, fillA, setMany, Nat.reduceLT, Nat.reduceLeDiff, Nat.reduceEqDiff, Nat.reduceAdd, Nat.reduceMul, Nat.reduceSub, reduceIte, reduceCtorEq, if_true, if_false, ite_true, ite_false, eq_self, forall_const, implies_true, Int.reduceLT, Int.reduceLE, Int.reduceToNat, Int.reduceAdd, Int.reduceSub, Int.reduceNeg, ne_eq, Int.reduceEq, Int.reduceNe, Int.reduceBEq, Int.reduceBNe, beq_self_eq_true, bne_self_eq_false, BitVec.reduceBEq, BitVec.reduceBNe, BitVec.reduceOfInt, BitVec.reduceSetWidth, wrD, engS0, engS1, engS2, engS3, engS4, engS5, engS6, engS7, engS8, engS9, engU0, engT0, engT1, engT2, Fx.t3, Fx.t4, Fx.t5, Fx.t23, Fx.t35, Fx.t91, Fx.t109, Fx.t110, Fx.t111, Fx.t112, Fx.t113, hb, w4]
      refine UpX_normal (by omega) () ⟨by omega, fun j hj => ?_⟩ ?_
      · rcases Nat.lt_or_ge j n with g2 | g2
        · exact heq j g2
        · have : j = n := by omega
          subst this; exact hq
      · exact r.le ⟨rfl, rfl, rfl, rfl, rfl, trivial⟩
    · have hb : (d.getD (p + n) 0 == d.getD (p - e + n) 0) = false := by simpa using hq
      simp (config := { maxSteps := 1000000, implicitDefEqProofs := false }) only [-List.reduceReplicate, Nat.reduceBEq, renA, renL, renM, renO, evx, evs, evp, Eng.look, cst, cst1, putd, dstOk, params, loadx, partx, loI, hiI, bltx, mmI, boxx, srcx, calx, nilx, upd, del, resv, fillA, setMany, Nat.reduceLT, Nat.reduceLeDiff, Nat.reduceEqDiff, Nat.reduceAdd, Nat.reduceMul, Nat.reduceSub, reduceIte, reduceCtorEq, if_true, if_false, ite_true, ite_false, eq_self, forall_const, implies_true, Int.reduceLT, Int.reduceLE, Int.reduceToNat, Int.reduceAdd, Int.reduceSub, Int.reduceNeg, ne_eq, Int.reduceEq, Int.reduceNe, Int.reduceBEq, Int.reduceBNe, beq_self_eq_true, bne_self_eq_false, BitVec.reduceBEq, BitVec.reduceBNe, BitVec.reduceOfInt, BitVec.reduceSetWidth, wrD, engS0, engS1, engS2, engS3, engS4, engS5, engS6, engS7, engS8, engS9, engU0, engT0, engT1, engT2, Fx.t3, Fx.t4, Fx.t5, Fx.t23, Fx.t35, Fx.t91, Fx.t109, Fx.t110, Fx.t111, Fx.t112, Fx.t113, hb]
      rw [lkn_at d n M.toNat p (p - e) (by omega) heq (.inr hq)]
      exact r.fin _
  · have g1 : decide ((n : Int) < M) = false := decide_eq_false (by omega)
    simp (config := { maxSteps := 1000000, implicitDefEqProofs := false }) only [-List.reduceReplicate, Nat.reduceBEq, renA, renL, renM, renO, evx, evs, evp, Eng.look, cst, cst1, putd, dstOk, params, loadx, partx, loI, hiI, bltx, mmI, boxx, srcx, calx, nilx, upd, del, resv, fillA, setMany, Nat.reduceLT, Nat.reduceLeDiff, Nat.reduceEqDiff, Nat.reduceAdd, Nat.reduceMul, Nat.reduceSub, reduceIte, reduceCtorEq, if_true, if_false, ite_true, ite_false, eq_self, forall_const, implies_true, Int.reduceLT, Int.reduceLE, Int.reduceToNat, Int.reduceAdd, Int.reduceSub, Int.reduceNeg, ne_eq, Int.reduceEq, Int.reduceNe, Int.reduceBEq, Int.reduceBNe, beq_self_eq_true, bne_self_eq_false, BitVec.reduceBEq, BitVec.reduceBNe, BitVec.reduceOfInt, BitVec.reduceSetWidth, wrD, engS0, engS1, engS2, engS3, engS4, engS5, engS6, engS7, engS8, engS9, engU0, engT0, engT1, engT2, Fx.t3, Fx.t4, Fx.t5, Fx.t23, Fx.t35, Fx.t91, Fx.t109, Fx.t110, Fx.t111, Fx.t112, Fx.t113]
    refine ⟨Fx.mixed, .inl ⟨[(0, false), (1, false), (2, false), (3, false), (4, false), (5, false), (6, false), (7, false), (8, false), (9, false), (10, false), (11, false), (12, false), (13, false), (14, false), (15, false), (16, false), (17, false), (18, false), (19, false), (20, false), (21, false), (22, false), (23, false), (24, false), (25, false)], [], by kernel_rfl, (fun n hn => by cases hn), ?_⟩⟩
    simp (config := { maxSteps := 1000000, implicitDefEqProofs := false }) only [-List.reduceReplicate, Nat.reduceBEq, renA, renL, renM, renO, evx, evs, evp, Eng.look, cst, cst1, putd, dstOk, params, loadx, partx, loI, hiI, bltx, mmI, boxx, srcx, calx, nilx, upd, del, resv, fillA, setMany, Nat.reduceLT, Nat.reduceLeDiff, Nat.reduceEqDiff, Nat.reduceAdd, Nat.reduceMul, Nat.reduceSub, reduceIte, reduceCtorEq, if_true, if_false, ite_true, ite_false, eq_self, forall_const, implies_true, Int.reduceLT, Int.reduceLE, Int.reduceToNat, Int.reduceAdd, Int.reduceSub, Int.reduceNeg, ne_eq, Int.reduceEq, Int.reduceNe, Int.reduceBEq, Int.reduceBNe, beq_self_eq_true, bne_self_eq_false, BitVec.reduceBEq, BitVec.reduceBNe, BitVec.reduceOfInt, BitVec.reduceSetWidth, wrD, engS0, engS1, engS2, engS3, engS4, engS5, engS6, engS7, engS8, engS9, engU0, engT0, engT1, engT2, Fx.t3, Fx.t4, Fx.t5, Fx.t23, Fx.t35, Fx.t91, Fx.t109, Fx.t110, Fx.t111, Fx.t112, Fx.t113, g1]
    rw [lkn_at d n M.toNat p (p - e) (by omega) heq (.inl (by omega))]
    exact r.fin _
theorem cutOk {wr : Nat → Bool} {m : Mem} {nx a b c cap : Nat} {d : List (BitVec 8)} {dict nice : Int} (r : Rdm wr m nx) (h1 : Eng.look m a = some (finO b c d.length cap dict nice))
    (p : Nat) (M L : Int) (hp : p ≤ d.length) (hl : d.length ≤ 1000000) :
    CallG false Try.prog 68 [.ptr a 0, .int .i64 p, .int .i64 M, .int .i64 L] wr m nx (Kr (.int .i64 (min (min M L) ((d.length - p : Nat) : Int))) m nx) := by
  refine fn_okG Try.func68 rfl (by show 4 ≤ _; decide) ?_
  have w1 : IntKind.i64.wrap ((d.length : Int) - (p : Int)) = ((d.length - p : Nat) : Int) := by rw [wrap_i64] <;> omega
  simp (config := { maxSteps := 1000000, implicitDefEqProofs := false }) only [-List.reduceReplicate, Nat.reduceBEq, renA, renL, renM, renO, evx, evs, evp, Eng.look, cst, cst1, putd, dstOk, params, loadx, partx, loI, hiI, bltx, mmI, boxx, srcx, calx, nilx, upd, del, resv, fillA, setMany, Nat.reduceLT, Nat.reduceLeDiff, Nat.reduceEqDiff, Nat.reduceAdd, Nat.reduceMul, Nat.reduceSub, reduceIte, reduceCtorEq, if_true, if_false, ite_true, ite_false, eq_self, forall_const, implies_true, Int.reduceLT, Int.reduceLE, Int.reduceToNat, Int.reduceAdd, Int.reduceSub, Int.reduceNeg, ne_eq, Int.reduceEq, Int.reduceNe, Int.reduceBEq, Int.reduceBNe, beq_self_eq_true, bne_self_eq_false, BitVec.reduceBEq, BitVec.reduceBNe, BitVec.reduceOfInt, BitVec.reduceSetWidth, wrD, engS0, engS1, engS2, engS3, engS4, engS5, engS6, engS7, engS8, engS9, engU0, engT0, engT1, engT2, Fx.t3, Fx.t5, Fx.t23, Fx.t35, Fx.t91, Fx.t109, Fx.t110, Fx.t111, Fx.t112, Fx.t113, Try.results68, Try.ntmps68, h1, finO, w1]
  have e : ∀ X : Int, (if X < (if L < M then L else M) then X else if L < M then L else M) = min (min M L) X := by
    intro X
    by_cases h : L < M
    · simp only [if_pos h]; split <;> omega
    · simp only [if_neg h]; split <;> omega
  rw [e]
  exact r.fin _
/-- what Like answers -/
def LikeV (d : List (BitVec 8)) (dict p e M : Int) : Int := if p < 0 ∨ (d.length : Int) ≤ p ∨ e < 1 ∨ p < e ∨ dict < e then 0 else (lkn d p.toNat (p.toNat - e.toNat) (min (min M 273) ((d.length - p.toNat : Nat) : Int)).toNat : Nat)
set_option maxHeartbeats 1000000 in
theorem LikeOk {wr : Nat → Bool} {m : Mem} {nx a b c cap : Nat} {sp : List Value} {d : List (BitVec 8)} {dict nice : Int} (r : Rdm wr m nx) (h1 : Eng.look m a = some (finO b c d.length cap dict nice)) (h2 : Eng.look m b = some (rowO d sp)) (ha : a < nx) (hb : b < nx)
    (p e M : Int) (hl : d.length ≤ 1000000) :
    CallG false Try.prog 23 [.ptr a 0, .int .i64 p, .int .i64 e, .int .i64 M] wr m nx (Kr (.int .i64 (LikeV d dict p e M)) m nx) := by
  refine fn_okG Try.func23 rfl (by show 4 ≤ _; decide) ?_
  rcases Int.lt_or_le p 0 with g | g
  · have g1 : decide (p < 0) = true := decide_eq_true g
    simp (config := { maxSteps := 1000000, implicitDefEqProofs := false }) only [-List.reduceReplicate, Nat.reduceBEq, renA, renL, renM, renO, evx, evs, evp, Eng.look, cst, cst1, putd, dstOk, params, loadx, partx, loI, hiI, bltx, mmI, boxx, srcx, calx, nilx, upd, del, resv, fillA, setMany, Nat.reduceLT, Nat.reduceLeDiff, Nat.reduceEqDiff, Nat.reduceAdd, Nat.reduceMul, Nat.reduceSub, reduceIte, reduceCtorEq, if_true, if_false, ite_true, ite_false, eq_self, forall_const, implies_true, Int.reduceLT, Int.reduceLE, Int.reduceToNat, Int.reduceAdd, Int.reduceSub, Int.reduceNeg, ne_eq, Int.reduceEq, Int.reduceNe, Int.reduceBEq, Int.reduceBNe, beq_self_eq_true, bne_self_eq_false, BitVec.reduceBEq, BitVec.reduceBNe, BitVec.reduceOfInt, BitVec.reduceSetWidth, wrD, engS0, engS1, engS2, engS3, engS4, engS5, engS6, engS7, engS8, engS9, engU0, engT0, engT1, engT2, Fx.t1, Fx.t3, Fx.t4, Fx.t5, Fx.t23, Fx.t35, Fx.t91, Fx.t109, Fx.t110, Fx.t111, Fx.t112, Fx.t113, Fx.en68, Fx.en70, Try.results23, Try.ntmps23, g1]
    rw [LikeV, if_pos (.inl g)]
    exact r.fin _
  have g1 : decide (p < 0) = false := decide_eq_false (by omega)
  rcases Int.lt_or_le (p : Int) (d.length : Int) |>.symm with g' | g'
  · have g2 : decide (p ≥ (d.length : Int)) = true := decide_eq_true g'
    simp (config := { maxSteps := 1000000, implicitDefEqProofs := false }) only [-List.reduceReplicate, Nat.reduceBEq, renA, renL, renM, renO, evx, evs, evp, Eng.look, cst, cst1, putd, dstOk, params, loadx, partx, loI, hiI, bltx, mmI, boxx, srcx, calx, nilx, upd, del, resv, fillA, setMany, Nat.reduceLT, Nat.reduceLeDiff, Nat.reduceEqDiff, Nat.reduceAdd, Nat.reduceMul, Nat.reduceSub, reduceIte, reduceCtorEq, if_true, if_false, ite_true, ite_false, eq_self, forall_const, implies_true, Int.reduceLT, Int.reduceLE, Int.reduceToNat, Int.reduceAdd, Int.reduceSub, Int.reduceNeg, ne_eq, Int.reduceEq, Int.reduceNe, Int.reduceBEq, Int.reduceBNe, beq_self_eq_true, bne_self_eq_false, BitVec.reduceBEq, BitVec.reduceBNe, BitVec.reduceOfInt, BitVec.reduceSetWidth, wrD, engS0, engS1, engS2, engS3, engS4, engS5, engS6, engS7, engS8, engS9, engU0, engT0, engT1, engT2, Fx.t1, Fx.t3, Fx.t4, Fx.t5, Fx.t23, Fx.t35, Fx.t91, Fx.t109, Fx.t110, Fx.t111, Fx.t112, Fx.t113, Fx.en68, Fx.en70, Try.results23, Try.ntmps23, g1, g2, h1, finO]
    rw [LikeV, if_pos (.inr (.inl g'))]
    exact r.fin _
  have g2 : decide (p ≥ (d.length : Int)) = false := decide_eq_false (by omega)
  rcases Int.lt_or_le e 1 with k | k
  · have g3 : decide (e < 1) = true := decide_eq_true k
    simp (config := { maxSteps := 1000000, implicitDefEqProofs := false }) only [-List.reduceReplicate, Nat.reduceBEq, renA, renL, renM, renO, evx, evs, evp, Eng.look, cst, cst1, putd, dstOk, params, loadx, partx, loI, hiI, bltx, mmI, boxx, srcx, calx, nilx, upd, del, resv, fillA, setMany, Nat.reduceLT, Nat.reduceLeDiff, Nat.reduceEqDiff, Nat.reduceAdd, Nat.reduceMul, Nat.reduceSub, reduceIte, reduceCtorEq, if_true, if_false, ite_true, ite_false, eq_self, forall_const, implies_true, Int.reduceLT, Int.reduceLE, Int.reduceToNat, Int.reduceAdd, Int.reduceSub, Int.reduceNeg, ne_eq, Int.reduceEq, Int.reduceNe, Int.reduceBEq, Int.reduceBNe, beq_self_eq_true, bne_self_eq_false, BitVec.reduceBEq, BitVec.reduceBNe, BitVec.reduceOfInt, BitVec.reduceSetWidth, wrD, engS0, engS1, engS2, engS3, engS4, engS5, engS6, engS7, engS8, engS9, engU0, engT0, engT1, engT2, Fx.t1, Fx.t3, Fx.t4, Fx.t5, Fx.t23, Fx.t35, Fx.t91, Fx.t109, Fx.t110, Fx.t111, Fx.t112, Fx.t113, Fx.en68, Fx.en70, Try.results23, Try.ntmps23, g1, g2, g3, h1, finO]
    rw [LikeV, if_pos (.inr (.inr (.inl k)))]
    exact r.fin _
  have g3 : decide (e < 1) = false := decide_eq_false (by omega)
  rcases Int.lt_or_le p e with k2 | k2
  · have g4 : decide (e > p) = true := decide_eq_true k2
    simp (config := { maxSteps := 1000000, implicitDefEqProofs := false }) only [-List.reduceReplicate, Nat.reduceBEq, renA, renL, renM, renO, evx, evs, evp, Eng.look, cst, cst1, putd, dstOk, params, loadx, partx, loI, hiI, bltx, mmI, boxx, srcx, calx, nilx, upd, del, resv, fillA, setMany, Nat.reduceLT, Nat.reduceLeDiff, Nat.reduceEqDiff, Nat.reduceAdd, Nat.reduceMul, Nat.reduceSub, reduceIte, reduceCtorEq, if_true, if_false, ite_true, ite_false, eq_self, forall_const, implies_true, Int.reduceLT, Int.reduceLE, Int.reduceToNat, Int.reduceAdd, Int.reduceSub, Int.reduceNeg, ne_eq, Int.reduceEq, Int.reduceNe, Int.reduceBEq, Int.reduceBNe, beq_self_eq_true, bne_self_eq_false, BitVec.reduceBEq, BitVec.reduceBNe, BitVec.reduceOfInt, BitVec.reduceSetWidth, wrD, engS0, engS1, engS2, engS3, engS4, engS5, engS6, engS7, engS8, engS9, engU0, engT0, engT1, engT2, Fx.t1, Fx.t3, Fx.t4, Fx.t5, Fx.t23, Fx.t35, Fx.t91, Fx.t109, Fx.t110, Fx.t111, Fx.t112, Fx.t113, Fx.en68, Fx.en70, Try.results23, Try.ntmps23, g1, g2, g3, g4, h1, finO]
    rw [LikeV, if_pos (.inr (.inr (.inr (.inl k2))))]
    exact r.fin _
  have g4 : decide (e > p) = false := decide_eq_false (by omega)
  rcases Int.lt_or_le dict e with k3 | k3
  · have g5 : decide (e > dict) = true := decide_eq_true k3
    simp (config := { maxSteps := 1000000, implicitDefEqProofs := false }) only [-List.reduceReplicate, Nat.reduceBEq, renA, renL, renM, renO, evx, evs, evp, Eng.look, cst, cst1, putd, dstOk, params, loadx, partx, loI, hiI, bltx, mmI, boxx, srcx, calx, nilx, upd, del, resv, fillA, setMany, Nat.reduceLT, Nat.reduceLeDiff, Nat.reduceEqDiff, Nat.reduceAdd, Nat.reduceMul, Nat.reduceSub, reduceIte, reduceCtorEq, if_true, if_false, ite_true, ite_false, eq_self, forall_const, implies_true, Int.reduceLT, Int.reduceLE, Int.reduceToNat, Int.reduceAdd, Int.reduceSub, Int.reduceNeg, ne_eq, Int.reduceEq, Int.reduceNe, Int.reduceBEq, Int.reduceBNe, beq_self_eq_true, bne_self_eq_false, BitVec.reduceBEq, BitVec.reduceBNe, BitVec.reduceOfInt, BitVec.reduceSetWidth, wrD, engS0, engS1, engS2, engS3, engS4, engS5, engS6, engS7, engS8, engS9, engU0, engT0, engT1, engT2, Fx.t1, Fx.t3, Fx.t4, Fx.t5, Fx.t23, Fx.t35, Fx.t91, Fx.t109, Fx.t110, Fx.t111, Fx.t112, Fx.t113, Fx.en68, Fx.en70, Try.results23, Try.ntmps23, g1, g2, g3, g4, g5, h1, finO]
    rw [LikeV, if_pos (.inr (.inr (.inr (.inr k3))))]
    exact r.fin _
  have g5 : decide (e > dict) = false := decide_eq_false (by omega)
  rw [LikeV, if_neg (by omega)]
  obtain ⟨P, rfl⟩ : ∃ P : Nat, p = (P : Int) := ⟨p.toNat, by omega⟩
  obtain ⟨E, rfl⟩ : ∃ E : Nat, e = (E : Int) := ⟨e.toNat, by omega⟩
  rw [Int.toNat_natCast, Int.toNat_natCast]
  simp (config := { maxSteps := 1000000, implicitDefEqProofs := false }) only [-List.reduceReplicate, Nat.reduceBEq, renA, renL, renM, renO, evx, evs, evp, Eng.look, cst, cst1, putd, dstOk, params, loadx, partx, loI, hiI, bltx, mmI, boxx, srcx, calx, nilx, upd, del, resv, fillA, setMany, Nat.reduceLT, Nat.reduceLeDiff, Nat.reduceEqDiff, Nat.reduceAdd, Nat.reduceMul, Nat.reduceSub, reduceIte, reduceCtorEq, if_true, if_false, ite_true, ite_false, eq_self, forall_const, implies_true, Int.reduceLT, Int.reduceLE, Int.reduceToNat, Int.reduceAdd, Int.reduceSub, Int.reduceNeg, ne_eq, Int.reduceEq, Int.reduceNe, Int.reduceBEq, Int.reduceBNe, beq_self_eq_true, bne_self_eq_false, BitVec.reduceBEq, BitVec.reduceBNe, BitVec.reduceOfInt, BitVec.reduceSetWidth, wrD, engS0, engS1, engS2, engS3, engS4, engS5, engS6, engS7, engS8, engS9, engU0, engT0, engT1, engT2, Fx.t1, Fx.t3, Fx.t4, Fx.t5, Fx.t23, Fx.t35, Fx.t91, Fx.t109, Fx.t110, Fx.t111, Fx.t112, Fx.t113, Fx.en68, Fx.en70, Try.results23, Try.ntmps23, g1, g2, g3, g4, g5, h1, finO]
  refine (cutOk r h1 P M 273 (by omega) hl).weak ?_
  rintro v m' nx' ⟨rfl, rfl, rfl⟩
  simp (config := { maxSteps := 1000000, implicitDefEqProofs := false }) only [-List.reduceReplicate, Nat.reduceBEq, renA, renL, renM, renO, evx, evs, evp, Eng.look, cst, cst1, putd, dstOk, params, loadx, partx, loI, hiI, bltx, mmI, boxx, srcx, calx, nilx, upd, del, resv, fillA, setMany, Nat.reduceLT, Nat.reduceLeDiff, Nat.reduceEqDiff, Nat.reduceAdd, Nat.reduceMul, Nat.reduceSub, reduceIte, reduceCtorEq, if_true, if_false, ite_true, ite_false, eq_self, forall_const, implies_true, Int.reduceLT, Int.reduceLE, Int.reduceToNat, Int.reduceAdd, Int.reduceSub, Int.reduceNeg, ne_eq, Int.reduceEq, Int.reduceNe, Int.reduceBEq, Int.reduceBNe, beq_self_eq_true, bne_self_eq_false, BitVec.reduceBEq, BitVec.reduceBNe, BitVec.reduceOfInt, BitVec.reduceSetWidth, wrD, engS0, engS1, engS2, engS3, engS4, engS5, engS6, engS7, engS8, engS9, engU0, engT0, engT1, engT2, Fx.t1, Fx.t3, Fx.t4, Fx.t5, Fx.t23, Fx.t35, Fx.t91, Fx.t109, Fx.t110, Fx.t111, Fx.t112, Fx.t113, Fx.en68, Fx.en70]
  refine (likeOk r h1 h2 ha hb P E _ (by omega) (by omega) (by omega) hl).weak ?_
  rintro v m' nx' ⟨rfl, rfl, rfl⟩
  simp (config := { maxSteps := 1000000, implicitDefEqProofs := false }) only [-List.reduceReplicate, Nat.reduceBEq, renA, renL, renM, renO, evx, evs, evp, Eng.look, cst, cst1, putd, dstOk, params, loadx, partx, loI, hiI, bltx, mmI, boxx, srcx, calx, nilx, upd, del, resv, fillA, setMany, Nat.reduceLT, Nat.reduceLeDiff, Nat.reduceEqDiff, Nat.reduceAdd, Nat.reduceMul, Nat.reduceSub, reduceIte, reduceCtorEq, if_true, if_false, ite_true, ite_false, eq_self, forall_const, implies_true, Int.reduceLT, Int.reduceLE, Int.reduceToNat, Int.reduceAdd, Int.reduceSub, Int.reduceNeg, ne_eq, Int.reduceEq, Int.reduceNe, Int.reduceBEq, Int.reduceBNe, beq_self_eq_true, bne_self_eq_false, BitVec.reduceBEq, BitVec.reduceBNe, BitVec.reduceOfInt, BitVec.reduceSetWidth, wrD, engS0, engS1, engS2, engS3, engS4, engS5, engS6, engS7, engS8, engS9, engU0, engT0, engT1, engT2, Fx.t1, Fx.t3, Fx.t4, Fx.t5, Fx.t23, Fx.t35, Fx.t91, Fx.t109, Fx.t110, Fx.t111, Fx.t112, Fx.t113, Fx.en68, Fx.en70]
  exact r.fin _
end Go.Proofs.Ytmnbbpckglppjaa
