/- Turns: the document's pool: how many, the first, how many are alive, the next. -/
import Derived.Test.YtmnbbpckglppjaaEng19
import Derived.Test.YtmnbbpckglppjaaEng26
import Derived.Test.YtmnbbpckglppjaaEng33
import Derived.Test.YtmnbbpckglppjaaFx
set_option linter.unusedVariables false
set_option linter.unusedSimpArgs false
set_option maxRecDepth 100000
namespace Go.Proofs.Ytmnbbpckglppjaa
open Go Go.Eng

def zs (l : List Int) : List AV := l.map (AV.int .i64)
theorem zs_len (l : List Int) : (zs l).length = l.length := by simp [zs]
theorem zs_get (l : List Int) (S : List AV) (i : Nat) (h : i < l.length) : (zs l ++ S).getD i (.int .i64 0) = .int .i64 (l.getD i 0) := by
  rw [List.getD_eq_getElem?_getD, List.getElem?_append_left (by rw [zs_len]; exact h), zs, List.getElem?_map, List.getD_eq_getElem?_getD, List.getElem?_eq_getElem h]; rfl
theorem zs_get' (l : List Int) (i : Nat) (h : i < l.length) : (zs l).getD i (.int .i64 0) = .int .i64 (l.getD i 0) := by
  have := zs_get l [] i h
  rwa [List.append_nil] at this
/-- the first place of a number; below 0: it has none -/
def fstZ (x : Int) : List Int → Int
  | [] => -1
  | y :: r => if y = x then 0 else if fstZ x r < 0 then -1 else fstZ x r + 1
theorem cnt_succ (A : List Int) (x : Int) (i : Nat) (h : i < A.length) : (A.take (i + 1)).count x = (A.take i).count x + if A.getD i 0 = x then 1 else 0 := by
  rw [List.take_add_one, List.getElem?_eq_getElem h, List.count_append, List.getD_eq_getElem?_getD, List.getElem?_eq_getElem h]
  show _ + List.count x [A[i]] = _
  rw [List.count_singleton]
  show _ = _ + if A[i] = x then 1 else 0
  by_cases hx : A[i] = x
  · simp [hx]
  · simp [hx]
theorem fst_at : ∀ (A : List Int) (x : Int) (i : Nat), (∀ j, j < i → A.getD j 0 ≠ x) → i < A.length → A.getD i 0 = x → fstZ x A = i
  | [], _, _, _, h, _ => by cases h
  | y :: r, x, 0, _, _, hx => by
    have hx : y = x := hx
    rw [fstZ, if_pos hx]; rfl
  | y :: r, x, i + 1, h, hl, hx => by
    have h0 : y ≠ x := h 0 (Nat.succ_pos _)
    have := fst_at r x i (fun j hj => h (j + 1) (by omega)) (by rw [List.length_cons] at hl; omega) hx
    rw [fstZ, if_neg h0, this, if_neg (by omega)]; rfl
theorem fst_none : ∀ (A : List Int) (x : Int), (∀ j, j < A.length → A.getD j 0 ≠ x) → fstZ x A = -1
  | [], _, _ => rfl
  | y :: r, x, h => by
    have h0 : y ≠ x := h 0 (Nat.succ_pos _)
    have := fst_none r x (fun j hj => h (j + 1) (by rw [List.length_cons]; omega))
    rw [fstZ, if_neg h0, this, if_pos (by decide)]
/-- the document's pool -/
structure RefAt (m : Mem) (nx a n : Nat) (A : List Int) (W R : Int) : Prop where
  o : Eng.look m a = some (.cells [.sl n 0 A.length A.length, .int .i64 W, .int .i64 R] 98)
  q : Eng.look m n = some (.cells (zs A) 3)
  an : a < nx
  nn : n < nx
  ne : a ≠ n
  sm : A.length ≤ 1000000
section
variable {wr : Nat → Bool} {m : Mem} {nx a n : Nat} {A : List Int} {W R : Int}
theorem manyOk (D : Rdm wr m nx) (F : RefAt m nx a n A W R) (x : Int) : CallG false Try.prog 64 [.ptr a 0, .int .i64 x] wr m nx (Kr (.int .i64 (A.count x : Nat)) m nx) := by
  refine fn_okG Try.func64 rfl (by show 2 ≤ _; decide) ?_
  have o := F.o
  have q := F.q
  have sm := F.sm
  simp (config := { maxSteps := 1000000, implicitDefEqProofs := false }) only [-List.reduceReplicate, Nat.reduceBEq, renA, renL, renM, renO, evx, evs, evp, Eng.look, cst, cst1, putd, dstOk, params, loadx, partx, loI, hiI, bltx, mmI, boxx, srcx, calx, nilx, upd, del, resv, fillA, setMany, Nat.reduceLT, Nat.reduceLeDiff, Nat.reduceEqDiff, Nat.reduceAdd, Nat.reduceMul, Nat.reduceSub, reduceIte, reduceCtorEq, if_true, if_false, ite_true, ite_false, eq_self, forall_const, implies_true, Int.reduceLT, Int.reduceLE, Int.reduceToNat, Int.reduceAdd, Int.reduceSub, Int.reduceNeg, ne_eq, Int.reduceEq, Int.reduceNe, Int.reduceBEq, Int.reduceBNe, beq_self_eq_true, bne_self_eq_false, BitVec.reduceBEq, BitVec.reduceBNe, BitVec.reduceOfInt, BitVec.reduceSetWidth, wrD, engS0, engS1, engS2, engS3, engS4, engS5, engS6, engS7, engS8, engS9, engU0, engT0, engT1, engT2, Fx.t3, Fx.t4, Fx.t91, Fx.t96, Fx.t97, Fx.t98, Try.results64, Try.ntmps64]
  refine LoopOk.up A.length (fun i => ([(6, .int .i64 (i : Nat)), (5, .int .i64 ((A.take i).count x : Nat)), (1, .int .i64 x), (0, .ptr a 0)], m, nx)) (D.le ⟨rfl, rfl, rfl, rfl, trivial⟩) ?_
  intro i hi
  rcases Nat.lt_or_ge i A.length with h | h
  · have g1 : decide ((i : Int) < (A.length : Int)) = true := decide_eq_true (by omega)
    have w1 : IntKind.i64.wrap ((i : Int) + 1) = ((i + 1 : Nat) : Int) := by rw [wrap_i64] <;> omega
    have hg := zs_get' A i h
    have hc := cnt_succ A x i h
    have hle : (A.take i).count x ≤ i := Nat.le_trans List.count_le_length (by rw [List.length_take]; omega)
    by_cases hx : A.getD i 0 = x
    · have b1 : (A.getD i 0 == x) = true := by rw [hx]; exact beq_self_eq_true x
      have w2 : IntKind.i64.wrap (((A.take i).count x : Nat) + 1 : Int) = (((A.take i).count x + 1 : Nat) : Int) := by rw [wrap_i64] <;> omega
      rw [if_pos hx] at hc
      simp (config := { maxSteps := 1000000, implicitDefEqProofs := false }) only [-List.reduceReplicate, Nat.reduceBEq, renA, renL, renM, renO, evx, evs, evp, Eng.look, cst, cst1, putd, dstOk, params, loadx, partx, loI, hiI, bltx, mmI, boxx, srcx, calx, nilx, upd, del, resv, fillA, setMany, Nat.reduceLT, Nat.reduceLeDiff, Nat.reduceEqDiff, Nat.reduceAdd, Nat.reduceMul, Nat.reduceSub, reduceIte, reduceCtorEq, if_true, if_false, ite_true, ite_false, eq_self, forall_const, implies_true, Int.reduceLT, Int.reduceLE, Int.reduceToNat, Int.reduceAdd, Int.reduceSub, Int.reduceNeg, ne_eq, Int.reduceEq, Int.reduceNe, Int.reduceBEq, Int.reduceBNe, beq_self_eq_true, bne_self_eq_false, BitVec.reduceBEq, BitVec.reduceBNe, BitVec.reduceOfInt, BitVec.reduceSetWidth, wrD, engS0, engS1, engS2, engS3, engS4, engS5, engS6, engS7, engS8, engS9, engU0, engT0, engT1, engT2, Fx.t3, Fx.t4, Fx.t91, Fx.t96, Fx.t97, Fx.t98, g1, w1, w2, o, q, hg, b1, zs_len]
      refine ⟨by omega, by omega, ?_⟩
      exact UpK_normal h (by rw [hc]; exact D.le ⟨rfl, rfl, rfl, rfl, trivial⟩)
    · have b1 : (A.getD i 0 == x) = false := by simpa using hx
      rw [if_neg hx] at hc
      simp (config := { maxSteps := 1000000, implicitDefEqProofs := false }) only [-List.reduceReplicate, Nat.reduceBEq, renA, renL, renM, renO, evx, evs, evp, Eng.look, cst, cst1, putd, dstOk, params, loadx, partx, loI, hiI, bltx, mmI, boxx, srcx, calx, nilx, upd, del, resv, fillA, setMany, Nat.reduceLT, Nat.reduceLeDiff, Nat.reduceEqDiff, Nat.reduceAdd, Nat.reduceMul, Nat.reduceSub, reduceIte, reduceCtorEq, if_true, if_false, ite_true, ite_false, eq_self, forall_const, implies_true, Int.reduceLT, Int.reduceLE, Int.reduceToNat, Int.reduceAdd, Int.reduceSub, Int.reduceNeg, ne_eq, Int.reduceEq, Int.reduceNe, Int.reduceBEq, Int.reduceBNe, beq_self_eq_true, bne_self_eq_false, BitVec.reduceBEq, BitVec.reduceBNe, BitVec.reduceOfInt, BitVec.reduceSetWidth, wrD, engS0, engS1, engS2, engS3, engS4, engS5, engS6, engS7, engS8, engS9, engU0, engT0, engT1, engT2, Fx.t3, Fx.t4, Fx.t91, Fx.t96, Fx.t97, Fx.t98, g1, w1, o, q, hg, b1, zs_len]
      refine ⟨by omega, by omega, ?_⟩
      exact UpK_normal h (by rw [hc]; exact D.le ⟨rfl, rfl, rfl, rfl, trivial⟩)
  · have hil : i = A.length := by omega
    subst hil
    have g1 : decide ((A.length : Int) < (A.length : Int)) = false := decide_eq_false (by omega)
    simp (config := { maxSteps := 1000000, implicitDefEqProofs := false }) only [-List.reduceReplicate, Nat.reduceBEq, renA, renL, renM, renO, evx, evs, evp, Eng.look, cst, cst1, putd, dstOk, params, loadx, partx, loI, hiI, bltx, mmI, boxx, srcx, calx, nilx, upd, del, resv, fillA, setMany, Nat.reduceLT, Nat.reduceLeDiff, Nat.reduceEqDiff, Nat.reduceAdd, Nat.reduceMul, Nat.reduceSub, reduceIte, reduceCtorEq, if_true, if_false, ite_true, ite_false, eq_self, forall_const, implies_true, Int.reduceLT, Int.reduceLE, Int.reduceToNat, Int.reduceAdd, Int.reduceSub, Int.reduceNeg, ne_eq, Int.reduceEq, Int.reduceNe, Int.reduceBEq, Int.reduceBNe, beq_self_eq_true, bne_self_eq_false, BitVec.reduceBEq, BitVec.reduceBNe, BitVec.reduceOfInt, BitVec.reduceSetWidth, wrD, engS0, engS1, engS2, engS3, engS4, engS5, engS6, engS7, engS8, engS9, engU0, engT0, engT1, engT2, Fx.t3, Fx.t4, Fx.t91, Fx.t96, Fx.t97, Fx.t98, g1, o, List.take_length]
    exact D.fin _
theorem firstOk (D : Rdm wr m nx) (F : RefAt m nx a n A W R) (x : Int) : CallG false Try.prog 98 [.ptr a 0, .int .i64 x] wr m nx (Kr (.int .i64 (fstZ x A)) m nx) := by
  refine fn_okG Try.func98 rfl (by show 2 ≤ _; decide) ?_
  have o := F.o
  have q := F.q
  have sm := F.sm
  simp (config := { maxSteps := 1000000, implicitDefEqProofs := false }) only [-List.reduceReplicate, Nat.reduceBEq, renA, renL, renM, renO, evx, evs, evp, Eng.look, cst, cst1, putd, dstOk, params, loadx, partx, loI, hiI, bltx, mmI, boxx, srcx, calx, nilx, upd, del, resv, fillA, setMany, Nat.reduceLT, Nat.reduceLeDiff, Nat.reduceEqDiff, Nat.reduceAdd, Nat.reduceMul, Nat.reduceSub, reduceIte, reduceCtorEq, if_true, if_false, ite_true, ite_false, eq_self, forall_const, implies_true, Int.reduceLT, Int.reduceLE, Int.reduceToNat, Int.reduceAdd, Int.reduceSub, Int.reduceNeg, ne_eq, Int.reduceEq, Int.reduceNe, Int.reduceBEq, Int.reduceBNe, beq_self_eq_true, bne_self_eq_false, BitVec.reduceBEq, BitVec.reduceBNe, BitVec.reduceOfInt, BitVec.reduceSetWidth, wrD, engS0, engS1, engS2, engS3, engS4, engS5, engS6, engS7, engS8, engS9, engU0, engT0, engT1, engT2, Fx.t1, Fx.t3, Fx.t4, Fx.t91, Fx.t96, Fx.t97, Fx.t98, Try.results98, Try.ntmps98]
  refine LoopOk.upX (fun i (_ : Unit) => ∀ j, j < i → A.getD j 0 ≠ x) A.length (fun i _ => ([(5, .int .i64 (i : Nat)), (1, .int .i64 x), (0, .ptr a 0)], m, nx)) () (fun j hj => by omega) (D.le ⟨rfl, rfl, rfl, trivial⟩) ?_
  rintro i _ ⟨hi, hn⟩
  rcases Nat.lt_or_ge i A.length with h | h
  · have g1 : decide ((i : Int) < (A.length : Int)) = true := decide_eq_true (by omega)
    have w1 : IntKind.i64.wrap ((i : Int) + 1) = ((i + 1 : Nat) : Int) := by rw [wrap_i64] <;> omega
    have hg := zs_get' A i h
    by_cases hx : A.getD i 0 = x
    · have b1 : (A.getD i 0 == x) = true := by rw [hx]; exact beq_self_eq_true x
      simp (config := { maxSteps := 1000000, implicitDefEqProofs := false }) only [-List.reduceReplicate, Nat.reduceBEq, renA, renL, renM, renO, evx, evs, evp, Eng.look, cst, cst1, putd, dstOk, params, loadx, partx, loI, hiI, bltx, mmI, boxx, srcx, calx, nilx, upd, del, resv, fillA, setMany, Nat.reduceLT, Nat.reduceLeDiff, Nat.reduceEqDiff, Nat.reduceAdd, Nat.reduceMul, Nat.reduceSub, reduceIte, reduceCtorEq, if_true, if_false, ite_true, ite_false, eq_self, forall_const, implies_true, Int.reduceLT, Int.reduceLE, Int.reduceToNat, Int.reduceAdd, Int.reduceSub, Int.reduceNeg, ne_eq, Int.reduceEq, Int.reduceNe, Int.reduceBEq, Int.reduceBNe, beq_self_eq_true, bne_self_eq_false, BitVec.reduceBEq, BitVec.reduceBNe, BitVec.reduceOfInt, BitVec.reduceSetWidth, wrD, engS0, engS1, engS2, engS3, engS4, engS5, engS6, engS7, engS8, engS9, engU0, engT0, engT1, engT2, Fx.t1, Fx.t3, Fx.t4, Fx.t91, Fx.t96, Fx.t97, Fx.t98, g1, w1, o, q, hg, b1, zs_len]
      refine ⟨by omega, by omega, ?_⟩
      rw [fst_at A x i hn h hx]
      exact D.fin _
    · have b1 : (A.getD i 0 == x) = false := by simpa using hx
      simp (config := { maxSteps := 1000000, implicitDefEqProofs := false }) only [-List.reduceReplicate, Nat.reduceBEq, renA, renL, renM, renO, evx, evs, evp, Eng.look, cst, cst1, putd, dstOk, params, loadx, partx, loI, hiI, bltx, mmI, boxx, srcx, calx, nilx, upd, del, resv, fillA, setMany, Nat.reduceLT, Nat.reduceLeDiff, Nat.reduceEqDiff, Nat.reduceAdd, Nat.reduceMul, Nat.reduceSub, reduceIte, reduceCtorEq, if_true, if_false, ite_true, ite_false, eq_self, forall_const, implies_true, Int.reduceLT, Int.reduceLE, Int.reduceToNat, Int.reduceAdd, Int.reduceSub, Int.reduceNeg, ne_eq, Int.reduceEq, Int.reduceNe, Int.reduceBEq, Int.reduceBNe, beq_self_eq_true, bne_self_eq_false, BitVec.reduceBEq, BitVec.reduceBNe, BitVec.reduceOfInt, BitVec.reduceSetWidth, wrD, engS0, engS1, engS2, engS3, engS4, engS5, engS6, engS7, engS8, engS9, engU0, engT0, engT1, engT2, Fx.t1, Fx.t3, Fx.t4, Fx.t91, Fx.t96, Fx.t97, Fx.t98, g1, w1, o, q, hg, b1, zs_len]
      refine ⟨by omega, by omega, ?_⟩
      refine UpX_normal h () (fun j hj => ?_) (D.le ⟨rfl, rfl, rfl, trivial⟩)
      rcases Nat.lt_or_ge j i with hji | hji
      · exact hn j hji
      · rw [show j = i by omega]; exact hx
  · have hil : i = A.length := by omega
    subst hil
    have g1 : decide ((A.length : Int) < (A.length : Int)) = false := decide_eq_false (by omega)
    simp (config := { maxSteps := 1000000, implicitDefEqProofs := false }) only [-List.reduceReplicate, Nat.reduceBEq, renA, renL, renM, renO, evx, evs, evp, Eng.look, cst, cst1, putd, dstOk, params, loadx, partx, loI, hiI, bltx, mmI, boxx, srcx, calx, nilx, upd, del, resv, fillA, setMany, Nat.reduceLT, Nat.reduceLeDiff, Nat.reduceEqDiff, Nat.reduceAdd, Nat.reduceMul, Nat.reduceSub, reduceIte, reduceCtorEq, if_true, if_false, ite_true, ite_false, eq_self, forall_const, implies_true, Int.reduceLT, Int.reduceLE, Int.reduceToNat, Int.reduceAdd, Int.reduceSub, Int.reduceNeg, ne_eq, Int.reduceEq, Int.reduceNe, Int.reduceBEq, Int.reduceBNe, beq_self_eq_true, bne_self_eq_false, BitVec.reduceBEq, BitVec.reduceBNe, BitVec.reduceOfInt, BitVec.reduceSetWidth, wrD, engS0, engS1, engS2, engS3, engS4, engS5, engS6, engS7, engS8, engS9, engU0, engT0, engT1, engT2, Fx.t1, Fx.t3, Fx.t4, Fx.t91, Fx.t96, Fx.t97, Fx.t98, g1, o]
    rw [fst_none A x hn]
    exact D.fin _
def alZ (A : List Int) : Int := (A.length : Int) - (A.count 0 : Nat) - (A.count 3 : Nat)
theorem aliveROk (D : Rdm wr m nx) (F : RefAt m nx a n A W R) : CallG false Try.prog 62 [.ptr a 0] wr m nx (Kr (.int .i64 (alZ A)) m nx) := by
  refine fn_okG Try.func62 rfl (by show 1 ≤ _; decide) ?_
  have o := F.o
  have q := F.q
  have sm := F.sm
  have DW := D.drawn []
  have f1 : decide (nx ≤ a) = false := decide_eq_false (by have := F.an; omega)
  have c0 : A.count 0 ≤ A.length := List.count_le_length
  have c3 : A.count 3 ≤ A.length := List.count_le_length
  have w1 : IntKind.i64.wrap ((A.length : Int) - (A.count 0 : Nat)) = (A.length : Int) - (A.count 0 : Nat) := by rw [wrap_i64] <;> omega
  have w2 : IntKind.i64.wrap ((A.length : Int) - (A.count 0 : Nat) - (A.count 3 : Nat)) = alZ A := by rw [wrap_i64]; rfl; all_goals omega
  simp (config := { maxSteps := 1000000, implicitDefEqProofs := false }) only [-List.reduceReplicate, Nat.reduceBEq, renA, renL, renM, renO, evx, evs, evp, Eng.look, cst, cst1, putd, dstOk, params, loadx, partx, loI, hiI, bltx, mmI, boxx, srcx, calx, nilx, upd, del, resv, fillA, setMany, Nat.reduceLT, Nat.reduceLeDiff, Nat.reduceEqDiff, Nat.reduceAdd, Nat.reduceMul, Nat.reduceSub, reduceIte, reduceCtorEq, if_true, if_false, ite_true, ite_false, eq_self, forall_const, implies_true, Int.reduceLT, Int.reduceLE, Int.reduceToNat, Int.reduceAdd, Int.reduceSub, Int.reduceNeg, ne_eq, Int.reduceEq, Int.reduceNe, Int.reduceBEq, Int.reduceBNe, beq_self_eq_true, bne_self_eq_false, BitVec.reduceBEq, BitVec.reduceBNe, BitVec.reduceOfInt, BitVec.reduceSetWidth, wrD, engS0, engS1, engS2, engS3, engS4, engS5, engS6, engS7, engS8, engS9, engU0, engT0, engT1, engT2, Fx.t3, Fx.t91, Fx.t96, Fx.t97, Fx.t98, Fx.en64, Try.results62, Try.ntmps62]
  refine ⟨Fx.mixed, .inl ⟨[(0, false), (1, false), (2, false), (3, false), (4, false), (5, false), (8, false), (6, true), (7, false), (9, true), (10, false), (11, false)], [], by kernel_rfl, (fun n hn => by cases hn), ?_⟩⟩
  simp (config := { maxSteps := 1000000, implicitDefEqProofs := false }) only [-List.reduceReplicate, Nat.reduceBEq, renA, renL, renM, renO, evx, evs, evp, Eng.look, cst, cst1, putd, dstOk, params, loadx, partx, loI, hiI, bltx, mmI, boxx, srcx, calx, nilx, upd, del, resv, fillA, setMany, Nat.reduceLT, Nat.reduceLeDiff, Nat.reduceEqDiff, Nat.reduceAdd, Nat.reduceMul, Nat.reduceSub, reduceIte, reduceCtorEq, if_true, if_false, ite_true, ite_false, eq_self, forall_const, implies_true, Int.reduceLT, Int.reduceLE, Int.reduceToNat, Int.reduceAdd, Int.reduceSub, Int.reduceNeg, ne_eq, Int.reduceEq, Int.reduceNe, Int.reduceBEq, Int.reduceBNe, beq_self_eq_true, bne_self_eq_false, BitVec.reduceBEq, BitVec.reduceBNe, BitVec.reduceOfInt, BitVec.reduceSetWidth, wrD, engS0, engS1, engS2, engS3, engS4, engS5, engS6, engS7, engS8, engS9, engU0, engT0, engT1, engT2, Fx.t3, Fx.t91, Fx.t96, Fx.t97, Fx.t98, Fx.en64, o, f1]
  refine (manyOk DW F 0).weak ?_
  rintro v m3 nx3 ⟨rfl, rfl, rfl⟩
  simp (config := { maxSteps := 1000000, implicitDefEqProofs := false }) only [-List.reduceReplicate, Nat.reduceBEq, renA, renL, renM, renO, evx, evs, evp, Eng.look, cst, cst1, putd, dstOk, params, loadx, partx, loI, hiI, bltx, mmI, boxx, srcx, calx, nilx, upd, del, resv, fillA, setMany, Nat.reduceLT, Nat.reduceLeDiff, Nat.reduceEqDiff, Nat.reduceAdd, Nat.reduceMul, Nat.reduceSub, reduceIte, reduceCtorEq, if_true, if_false, ite_true, ite_false, eq_self, forall_const, implies_true, Int.reduceLT, Int.reduceLE, Int.reduceToNat, Int.reduceAdd, Int.reduceSub, Int.reduceNeg, ne_eq, Int.reduceEq, Int.reduceNe, Int.reduceBEq, Int.reduceBNe, beq_self_eq_true, bne_self_eq_false, BitVec.reduceBEq, BitVec.reduceBNe, BitVec.reduceOfInt, BitVec.reduceSetWidth, wrD, engS0, engS1, engS2, engS3, engS4, engS5, engS6, engS7, engS8, engS9, engU0, engT0, engT1, engT2, Fx.t3, Fx.t91, Fx.t96, Fx.t97, Fx.t98, Fx.en64, o, f1, w1]
  refine (manyOk DW F 3).weak ?_
  rintro v m3 nx3 ⟨rfl, rfl, rfl⟩
  simp (config := { maxSteps := 1000000, implicitDefEqProofs := false }) only [-List.reduceReplicate, Nat.reduceBEq, renA, renL, renM, renO, evx, evs, evp, Eng.look, cst, cst1, putd, dstOk, params, loadx, partx, loI, hiI, bltx, mmI, boxx, srcx, calx, nilx, upd, del, resv, fillA, setMany, Nat.reduceLT, Nat.reduceLeDiff, Nat.reduceEqDiff, Nat.reduceAdd, Nat.reduceMul, Nat.reduceSub, reduceIte, reduceCtorEq, if_true, if_false, ite_true, ite_false, eq_self, forall_const, implies_true, Int.reduceLT, Int.reduceLE, Int.reduceToNat, Int.reduceAdd, Int.reduceSub, Int.reduceNeg, ne_eq, Int.reduceEq, Int.reduceNe, Int.reduceBEq, Int.reduceBNe, beq_self_eq_true, bne_self_eq_false, BitVec.reduceBEq, BitVec.reduceBNe, BitVec.reduceOfInt, BitVec.reduceSetWidth, wrD, engS0, engS1, engS2, engS3, engS4, engS5, engS6, engS7, engS8, engS9, engU0, engT0, engT1, engT2, Fx.t3, Fx.t91, Fx.t96, Fx.t97, Fx.t98, Fx.en64, w2]
  exact D.fin _
end
end Go.Proofs.Ytmnbbpckglppjaa
