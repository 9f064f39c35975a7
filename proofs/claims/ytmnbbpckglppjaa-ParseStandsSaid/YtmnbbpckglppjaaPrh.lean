/- Parsing: the bytes grown; a new coder of the document's. -/
import Derived.Test.YtmnbbpckglppjaaEng19
import Derived.Test.YtmnbbpckglppjaaEng26
import Derived.Test.YtmnbbpckglppjaaPrg
set_option linter.unusedVariables false
set_option linter.unusedSimpArgs false
set_option maxRecDepth 100000
namespace Go.Proofs.Ytmnbbpckglppjaa
open Go Go.Eng

/-- bytes, with more of them, that lie e back -/
def grw (X : List (BitVec 8)) (e : Nat) : Nat → List (BitVec 8)
  | 0 => X
  | i + 1 => grw X e i ++ [(grw X e i).getD ((grw X e i).length - e) 0]
theorem grw_len (X : List (BitVec 8)) (e : Nat) : ∀ i, (grw X e i).length = X.length + i
  | 0 => rfl
  | i + 1 => by rw [grw, List.length_append, grw_len X e i, List.length_singleton]; omega
def GrowK (X : List (BitVec 8)) (m : Mem) (nx : Nat) : Kv := fun v m' nx' => ∃ (n' cap' : Nat) (sp' : List Value), v = .sl n' 0 X.length cap' ∧ m' = (n', rowO X sp') :: m ∧ nx ≤ n' ∧ n' < nx' ∧ X.length + sp'.length = cap' ∧ cap' ≤ maxI
theorem one8 (b : BitVec 8) : [AV.int .u8 (b.toNat : Int)] = bvs .u8 [b] := rfl
section
variable {wr : Nat → Bool} {m : Mem} {nx : Nat}
theorem growFin (R : Rdm wr m nx) (hlt : ∀ p ∈ m, p.1 < nx) {n' cap' N : Nat} {X : List (BitVec 8)} {sp' : List Value} {m2 : Mem} (h1 : nx ≤ n') (h2 : n' < N) (h3 : Eng.look m2 n' = some (rowO X sp')) (h4 : ∀ p ∈ m, Eng.look m2 p.1 = some p.2) (h5 : X.length + sp'.length = cap') (h6 : cap' ≤ maxI) :
    Eng.Fin nx wr m2 N (GrowK X m nx) (.sl n' 0 X.length cap') := by
  have RS := Rdm.consN (R.up (show nx ≤ nx from Nat.le_refl _)) (n := n') (fun x hx => by have := hlt x hx; omega) (rowO X sp')
  refine Fin.keepW (m0 := (n', rowO X sp') :: m) (by omega) (memSame_all fun x hx => ?_) RS.nd RS.kp ⟨n', cap', sp', rfl, rfl, h1, h2, h5, h6⟩
  rcases List.mem_cons.1 hx with rfl | hx
  · exact h3
  · exact h4 x hx
set_option maxHeartbeats 1000000 in
theorem growLit (R : Rdm wr m nx) (hlt : ∀ p ∈ m, p.1 < nx) {h hc : Nat} {X : List (BitVec 8)} {sp : List Value} (hh : Eng.look m h = some (rowO X sp)) (hhn : h < nx) (hX : X.length ≤ 100000) (b : BitVec 8) (e : Int) :
    CallG false Try.prog 52 [.sl h 0 X.length hc, .agg (symC (Lit b)), .int .i64 e] wr m nx (GrowK (X ++ [b]) m nx) := by
  refine fn_okG Try.func52 rfl (by show 3 ≤ _; decide) ?_
  have e1 : (nx = h) = False := eq_false (by omega)
  have e2 : (nx + 1 = h) = False := eq_false (by omega)
  have e3 : (nx + 1 = nx) = False := eq_false (by omega)
  have e4 : (nx + 1 + 1 = nx) = False := eq_false (by omega)
  have e5 : (nx = nx + 1) = False := eq_false (by omega)
  have e6 : (nx = nx + 1 + 1) = False := eq_false (by omega)
  have dl1 : del m (nx + 1) = m := del_none fun p hp => by have := hlt p hp; omega
  have dl2 : del m (nx + 1 + 1) = m := del_none fun p hp => by have := hlt p hp; omega
  simp (config := { maxSteps := 1000000, implicitDefEqProofs := false }) only [-List.reduceReplicate, Nat.reduceBEq, renA, renL, renM, renO, evx, evs, evp, Eng.look, cst, cst1, putd, dstOk, params, loadx, partx, loI, hiI, bltx, mmI, boxx, srcx, calx, nilx, upd, del, resv, fillA, setMany, Nat.reduceLT, Nat.reduceLeDiff, Nat.reduceEqDiff, Nat.reduceAdd, Nat.reduceMul, Nat.reduceSub, reduceIte, reduceCtorEq, if_true, if_false, ite_true, ite_false, eq_self, forall_const, implies_true, Int.reduceLT, Int.reduceLE, Int.reduceToNat, Int.reduceAdd, Int.reduceSub, Int.reduceNeg, ne_eq, Int.reduceEq, Int.reduceNe, Int.reduceBEq, Int.reduceBNe, beq_self_eq_true, bne_self_eq_false, BitVec.reduceBEq, BitVec.reduceBNe, BitVec.reduceOfInt, BitVec.reduceSetWidth, wrD, engS0, engS1, engS2, engS3, engS4, engS5, engS6, engS7, engS8, engS9, engU0, engT0, engT1, engT2, Fx.t1, Fx.t2, Fx.t3, Fx.t4, Fx.t5, Fx.t23, Fx.t82, Fx.t83, Try.results52, Try.ntmps52, symC, Lit, hh, rowO, e1, e2, e3]
  refine ⟨.inr trivial, by rw [takeA', bvs_length], by rw [takeA']; exact one1_bvs _ _, ?_⟩
  rw [takeA']
  refine appk_bvs (k := .u8) (x := ([] : List (BitVec 8))) (y := X) (sp := []) (cap := 0) (bt := 1) (by rw [look_cons, if_pos rfl]; rfl) (R.wn _ (by omega)) rfl (by decide) (by decide) (by rw [List.length_nil]; omega) ?_
  intro cap1 sp1 d1 d2
  rw [List.nil_append] at d1 ⊢
  have e7 : (nx + 1 + 1 + 1 = nx + 1 + 1) = False := eq_false (by omega)
  simp (config := { maxSteps := 1000000, implicitDefEqProofs := false }) only [-List.reduceReplicate, Nat.reduceBEq, renA, renL, renM, renO, evx, evs, evp, Eng.look, cst, cst1, putd, dstOk, params, loadx, partx, loI, hiI, bltx, mmI, boxx, srcx, calx, nilx, upd, del, resv, fillA, setMany, Nat.reduceLT, Nat.reduceLeDiff, Nat.reduceEqDiff, Nat.reduceAdd, Nat.reduceMul, Nat.reduceSub, reduceIte, reduceCtorEq, if_true, if_false, ite_true, ite_false, eq_self, forall_const, implies_true, Int.reduceLT, Int.reduceLE, Int.reduceToNat, Int.reduceAdd, Int.reduceSub, Int.reduceNeg, ne_eq, Int.reduceEq, Int.reduceNe, Int.reduceBEq, Int.reduceBNe, beq_self_eq_true, bne_self_eq_false, BitVec.reduceBEq, BitVec.reduceBNe, BitVec.reduceOfInt, BitVec.reduceSetWidth, wrD, engS0, engS1, engS2, engS3, engS4, engS5, engS6, engS7, engS8, engS9, engU0, engT0, engT1, engT2, Fx.t1, Fx.t2, Fx.t3, Fx.t4, Fx.t5, Fx.t23, Fx.t82, Fx.t83, e1, e2, e3, e4, e5, dl1]
  refine ⟨.inr trivial, rfl, ?_⟩
  rw [show List.take 1 ((List.replicate 1 (0 : BitVec 8)).set 0 b) = [b] from rfl]
  refine appk_bvs (k := .u8) (x := X) (y := [b]) (sp := sp1) (cap := cap1) (bt := 1) (by rw [look_cons, if_neg (by omega), look_cons, if_pos rfl]) (R.wn _ (by omega)) d1 d2 (by decide) (by rw [List.length_singleton]; omega) ?_
  intro cap2 sp2 d3 d4
  simp (config := { maxSteps := 1000000, implicitDefEqProofs := false }) only [-List.reduceReplicate, Nat.reduceBEq, renA, renL, renM, renO, evx, evs, evp, Eng.look, cst, cst1, putd, dstOk, params, loadx, partx, loI, hiI, bltx, mmI, boxx, srcx, calx, nilx, upd, del, resv, fillA, setMany, Nat.reduceLT, Nat.reduceLeDiff, Nat.reduceEqDiff, Nat.reduceAdd, Nat.reduceMul, Nat.reduceSub, reduceIte, reduceCtorEq, if_true, if_false, ite_true, ite_false, eq_self, forall_const, implies_true, Int.reduceLT, Int.reduceLE, Int.reduceToNat, Int.reduceAdd, Int.reduceSub, Int.reduceNeg, ne_eq, Int.reduceEq, Int.reduceNe, Int.reduceBEq, Int.reduceBNe, beq_self_eq_true, bne_self_eq_false, BitVec.reduceBEq, BitVec.reduceBNe, BitVec.reduceOfInt, BitVec.reduceSetWidth, wrD, engS0, engS1, engS2, engS3, engS4, engS5, engS6, engS7, engS8, engS9, engU0, engT0, engT1, engT2, Fx.t1, Fx.t2, Fx.t3, Fx.t4, Fx.t5, Fx.t23, Fx.t82, Fx.t83, e1, e2, e3, e4, e5, e6, e7, dl1, dl2]
  have := growFin R hlt (n' := nx + 1 + 1 + 1 + 1) (cap' := cap2) (N := nx + 1 + 1 + 1 + 1 + 1) (X := X ++ [b]) (sp' := sp2) (by omega) (by omega) (m2 := (nx + 1 + 1 + 1 + 1, rowO (X ++ [b]) sp2) :: (nx + 1 + 1 + 1, AObj.cells (bvs IntKind.u8 ((List.replicate 1 0).set 0 b)) 5) :: (nx, .cells (symC (Lit b)) 83) :: m) (by rw [look_cons, if_pos rfl]) (fun x hx => by
    have := hlt x hx
    rw [look_cons, look_cons, look_cons, if_neg (by omega), if_neg (by omega), if_neg (by omega)]
    exact look_mem R.nd hx) d3 d4
  rw [List.length_append, List.length_singleton] at this
  exact this
set_option maxHeartbeats 1000000 in
theorem growBack (R : Rdm wr m nx) (hlt : ∀ p ∈ m, p.1 < nx) {h hc : Nat} {X : List (BitVec 8)} {sp : List Value} (hh : Eng.look m h = some (rowO X sp)) (hhn : h < nx) (hX : X.length ≤ 100000) (s : Sym) (l e : Nat) (hk : s.kind ≠ 0) (hl : s.len = l) (hl3 : l ≤ 273) (he : 1 ≤ e ∧ e ≤ X.length) :
    CallG false Try.prog 52 [.sl h 0 X.length hc, .agg (symC s), .int .i64 e] wr m nx (GrowK (grw X e l) m nx) := by
  obtain ⟨sk, sb, sl, sd, sr⟩ := s
  have hl : sl = (l : Int) := hl
  subst hl
  have hk : sk ≠ 0 := hk
  refine fn_okG Try.func52 rfl (by show 3 ≤ _; decide) ?_
  have e1 : (nx = h) = False := eq_false (by omega)
  have e2 : (nx + 1 = h) = False := eq_false (by omega)
  have e3 : (nx + 1 = nx) = False := eq_false (by omega)
  have e4 : (nx + 1 + 1 = nx) = False := eq_false (by omega)
  have e5 : (nx = nx + 1) = False := eq_false (by omega)
  have dl1 : del m (nx + 1) = m := del_none fun p hp => by have := hlt p hp; omega
  have hk0 : (sk == 0) = false := by simpa using hk
  simp (config := { maxSteps := 1000000, implicitDefEqProofs := false }) only [-List.reduceReplicate, Nat.reduceBEq, renA, renL, renM, renO, evx, evs, evp, Eng.look, cst, cst1, putd, dstOk, params, loadx, partx, loI, hiI, bltx, mmI, boxx, srcx, calx, nilx, upd, del, resv, fillA, setMany, Nat.reduceLT, Nat.reduceLeDiff, Nat.reduceEqDiff, Nat.reduceAdd, Nat.reduceMul, Nat.reduceSub, reduceIte, reduceCtorEq, if_true, if_false, ite_true, ite_false, eq_self, forall_const, implies_true, Int.reduceLT, Int.reduceLE, Int.reduceToNat, Int.reduceAdd, Int.reduceSub, Int.reduceNeg, ne_eq, Int.reduceEq, Int.reduceNe, Int.reduceBEq, Int.reduceBNe, beq_self_eq_true, bne_self_eq_false, BitVec.reduceBEq, BitVec.reduceBNe, BitVec.reduceOfInt, BitVec.reduceSetWidth, wrD, engS0, engS1, engS2, engS3, engS4, engS5, engS6, engS7, engS8, engS9, engU0, engT0, engT1, engT2, Fx.t1, Fx.t2, Fx.t3, Fx.t4, Fx.t5, Fx.t23, Fx.t82, Fx.t83, Try.results52, Try.ntmps52, symC, hh, rowO, e1, e2, e3, hk0]
  refine ⟨.inr trivial, by rw [takeA', bvs_length], by rw [takeA']; exact one1_bvs _ _, ?_⟩
  rw [takeA']
  refine appk_bvs (k := .u8) (x := ([] : List (BitVec 8))) (y := X) (sp := []) (cap := 0) (bt := 1) (by rw [look_cons, if_pos rfl]; rfl) (R.wn _ (by omega)) rfl (by decide) (by decide) (by rw [List.length_nil]; omega) ?_
  intro cap1 sp1 d1 d2
  rw [List.nil_append] at d1 ⊢
  simp (config := { maxSteps := 1000000, implicitDefEqProofs := false }) only [-List.reduceReplicate, Nat.reduceBEq, renA, renL, renM, renO, evx, evs, evp, Eng.look, cst, cst1, putd, dstOk, params, loadx, partx, loI, hiI, bltx, mmI, boxx, srcx, calx, nilx, upd, del, resv, fillA, setMany, Nat.reduceLT, Nat.reduceLeDiff, Nat.reduceEqDiff, Nat.reduceAdd, Nat.reduceMul, Nat.reduceSub, reduceIte, reduceCtorEq, if_true, if_false, ite_true, ite_false, eq_self, forall_const, implies_true, Int.reduceLT, Int.reduceLE, Int.reduceToNat, Int.reduceAdd, Int.reduceSub, Int.reduceNeg, ne_eq, Int.reduceEq, Int.reduceNe, Int.reduceBEq, Int.reduceBNe, beq_self_eq_true, bne_self_eq_false, BitVec.reduceBEq, BitVec.reduceBNe, BitVec.reduceOfInt, BitVec.reduceSetWidth, wrD, engS0, engS1, engS2, engS3, engS4, engS5, engS6, engS7, engS8, engS9, engU0, engT0, engT1, engT2, Fx.t1, Fx.t2, Fx.t3, Fx.t4, Fx.t5, Fx.t23, Fx.t82, Fx.t83, e1, e2, e3, e4, e5, dl1, hk0]
  refine LoopOk.upX (fun i (g : Nat × Nat × List Value × Nat) => nx + 1 ≤ g.1 ∧ g.1 < g.2.2.2 ∧ (grw X e i).length + g.2.2.1.length = g.2.1 ∧ g.2.1 ≤ maxI) l
    (fun i g => ([(8, .int .i64 (i : Nat)), (7, .sl g.1 0 (grw X e i).length g.2.1), (4, .ptr nx 0), (2, .int .i64 e)], (g.1, rowO (grw X e i) g.2.2.1) :: (nx, .cells (symC ⟨sk, sb, l, sd, sr⟩) 83) :: m, g.2.2.2)) (nx + 1 + 1, cap1, sp1, nx + 1 + 1 + 1) ⟨by show nx + 1 ≤ nx + 1 + 1; omega, Nat.lt_succ_self _, d1, d2⟩ ?_ ?_
  · have RS := Rdm.consN ((R.cons hlt (.cells (symC ⟨sk, sb, l, sd, sr⟩) 83)).up (show nx + 1 ≤ nx + 1 + 1 + 1 by omega)) (n := nx + 1 + 1) (fun x hx => by
      rcases List.mem_cons.1 hx with rfl | hx
      · show nx ≠ nx + 1 + 1; omega
      · have := hlt x hx; omega) (rowO (grw X e 0) sp1)
    refine Le.same (by show nx ≤ nx + 1 + 1 + 1; omega) ⟨rfl, rfl, rfl, rfl, trivial⟩ (memSame_all fun x hx => ?_) RS.nd RS.wn RS.kp
    rcases List.mem_cons.1 hx with rfl | hx
    · rw [look_cons, if_pos rfl]; rfl
    rcases List.mem_cons.1 hx with rfl | hx
    · rw [look_cons, if_neg (by show ¬ nx + 1 + 1 = nx; omega), look_cons, if_pos rfl]; rfl
    · have := hlt x hx
      rw [look_cons, look_cons, if_neg (by omega), if_neg (by omega)]
      exact look_mem R.nd hx
  rintro i ⟨n', cap', sp', N⟩ ⟨hi, s1, s2, s3, s4⟩
  have c1 : nx + 1 ≤ n' := s1
  have c2 : n' < N := s2
  have c3 : (grw X e i).length + sp'.length = cap' := s3
  have c4 : cap' ≤ maxI := s4
  have d3 : (n' = nx) = False := eq_false (by omega)
  have d4 : (nx = n') = False := eq_false (by omega)
  have d5 : (N = n') = False := eq_false (by omega)
  have hdl : del m n' = m := del_none fun p hp => by have := hlt p hp; omega
  have hgl := grw_len X e i
  rcases Nat.lt_or_ge i l with k | k
  · have g1 : decide ((i : Int) < (l : Int)) = true := decide_eq_true (by omega)
    have w1 : IntKind.i64.wrap ((i : Int) + 1) = ((i + 1 : Nat) : Int) := by rw [wrap_i64] <;> omega
    have w2 : IntKind.i64.wrap (((grw X e i).length : Int) - (e : Int)) = (((grw X e i).length - e : Nat) : Int) := by rw [wrap_i64] <;> omega
    have hrow := rowGet (grw X e i) (sp'.map AV.val) ((grw X e i).length - e) (by omega)
    simp (config := { maxSteps := 1000000, implicitDefEqProofs := false }) only [-List.reduceReplicate, Nat.reduceBEq, renA, renL, renM, renO, evx, evs, evp, Eng.look, cst, cst1, putd, dstOk, params, loadx, partx, loI, hiI, bltx, mmI, boxx, srcx, calx, nilx, upd, del, resv, fillA, setMany, Nat.reduceLT, Nat.reduceLeDiff, Nat.reduceEqDiff, Nat.reduceAdd, Nat.reduceMul, Nat.reduceSub, reduceIte, reduceCtorEq, if_true, if_false, ite_true, ite_false, eq_self, forall_const, implies_true, Int.reduceLT, Int.reduceLE, Int.reduceToNat, Int.reduceAdd, Int.reduceSub, Int.reduceNeg, ne_eq, Int.reduceEq, Int.reduceNe, Int.reduceBEq, Int.reduceBNe, beq_self_eq_true, bne_self_eq_false, BitVec.reduceBEq, BitVec.reduceBNe, BitVec.reduceOfInt, BitVec.reduceSetWidth, wrD, engS0, engS1, engS2, engS3, engS4, engS5, engS6, engS7, engS8, engS9, engU0, engT0, engT1, engT2, Fx.t1, Fx.t2, Fx.t3, Fx.t4, Fx.t5, Fx.t23, Fx.t82, Fx.t83, g1, w1, w2, symC, rowO, d3, d4, d5, hrow, Int.toNat_natCast]
    refine ⟨by omega, by omega, .inr trivial, rfl, ?_⟩
    rw [show List.take 1 ((List.replicate 1 (0 : BitVec 8)).set 0 ((grw X e i).getD ((grw X e i).length - e) 0)) = [(grw X e i).getD ((grw X e i).length - e) 0] from rfl]
    refine appk_bvs (k := .u8) (x := grw X e i) (y := [(grw X e i).getD ((grw X e i).length - e) 0]) (sp := sp') (cap := cap') (bt := 1) (by rw [look_cons, if_neg (by omega), look_cons, if_pos rfl]) (R.wn _ (by omega)) c3 c4 (by decide) (by rw [List.length_singleton]; omega) ?_
    intro cap2 sp2 f1 f2
    simp (config := { maxSteps := 1000000, implicitDefEqProofs := false }) only [-List.reduceReplicate, Nat.reduceBEq, renA, renL, renM, renO, evx, evs, evp, Eng.look, cst, cst1, putd, dstOk, params, loadx, partx, loI, hiI, bltx, mmI, boxx, srcx, calx, nilx, upd, del, resv, fillA, setMany, Nat.reduceLT, Nat.reduceLeDiff, Nat.reduceEqDiff, Nat.reduceAdd, Nat.reduceMul, Nat.reduceSub, reduceIte, reduceCtorEq, if_true, if_false, ite_true, ite_false, eq_self, forall_const, implies_true, Int.reduceLT, Int.reduceLE, Int.reduceToNat, Int.reduceAdd, Int.reduceSub, Int.reduceNeg, ne_eq, Int.reduceEq, Int.reduceNe, Int.reduceBEq, Int.reduceBNe, beq_self_eq_true, bne_self_eq_false, BitVec.reduceBEq, BitVec.reduceBNe, BitVec.reduceOfInt, BitVec.reduceSetWidth, wrD, engS0, engS1, engS2, engS3, engS4, engS5, engS6, engS7, engS8, engS9, engU0, engT0, engT1, engT2, Fx.t1, Fx.t2, Fx.t3, Fx.t4, Fx.t5, Fx.t23, Fx.t82, Fx.t83, w1, d3, d4, d5, hdl]
    refine UpX_normal k (N + 1, cap2, sp2, N + 1 + 1) ⟨by show nx + 1 ≤ N + 1; omega, Nat.lt_succ_self _, f1, f2⟩ ?_
    have RS := Rdm.consN ((R.cons hlt (.cells (symC ⟨sk, sb, l, sd, sr⟩) 83)).up (show nx + 1 ≤ N + 1 + 1 by omega)) (n := N + 1) (fun x hx => by
      rcases List.mem_cons.1 hx with rfl | hx
      · show nx ≠ N + 1; omega
      · have := hlt x hx; omega) (rowO (grw X e (i + 1)) sp2)
    refine Le.same (by show nx ≤ N + 1 + 1; omega) ⟨rfl, by rw [grw, List.length_append]; rfl, rfl, rfl, trivial⟩ (memSame_all fun x hx => ?_) RS.nd RS.wn RS.kp
    rcases List.mem_cons.1 hx with rfl | hx
    · rw [look_cons, if_pos rfl]; rfl
    rcases List.mem_cons.1 hx with rfl | hx
    · rw [look_cons, if_neg (by show ¬ N + 1 = nx; omega), look_cons, if_neg (by show ¬ N = nx; omega), look_cons, if_pos rfl]
    · have := hlt x hx
      rw [look_cons, look_cons, look_cons, if_neg (by omega), if_neg (by omega), if_neg (by omega)]
      exact look_mem R.nd hx
  · have hil : i = l := by omega
    subst hil
    have g1 : decide ((i : Int) < (i : Int)) = false := decide_eq_false (by omega)
    simp (config := { maxSteps := 1000000, implicitDefEqProofs := false }) only [-List.reduceReplicate, Nat.reduceBEq, renA, renL, renM, renO, evx, evs, evp, Eng.look, cst, cst1, putd, dstOk, params, loadx, partx, loI, hiI, bltx, mmI, boxx, srcx, calx, nilx, upd, del, resv, fillA, setMany, Nat.reduceLT, Nat.reduceLeDiff, Nat.reduceEqDiff, Nat.reduceAdd, Nat.reduceMul, Nat.reduceSub, reduceIte, reduceCtorEq, if_true, if_false, ite_true, ite_false, eq_self, forall_const, implies_true, Int.reduceLT, Int.reduceLE, Int.reduceToNat, Int.reduceAdd, Int.reduceSub, Int.reduceNeg, ne_eq, Int.reduceEq, Int.reduceNe, Int.reduceBEq, Int.reduceBNe, beq_self_eq_true, bne_self_eq_false, BitVec.reduceBEq, BitVec.reduceBNe, BitVec.reduceOfInt, BitVec.reduceSetWidth, wrD, engS0, engS1, engS2, engS3, engS4, engS5, engS6, engS7, engS8, engS9, engU0, engT0, engT1, engT2, Fx.t1, Fx.t2, Fx.t3, Fx.t4, Fx.t5, Fx.t23, Fx.t82, Fx.t83, g1, symC, d3, d4]
    refine growFin R hlt (n' := n') (sp' := sp') (by omega) c2 (by rw [look_cons, if_pos rfl]) (fun x hx => ?_) c3 c4
    have := hlt x hx
    rw [look_cons, look_cons, if_neg (by omega), if_neg (by omega)]
    exact look_mem R.nd hx
end
theorem twoOk (k : Nat) (hk : k ≤ 16) : CallG false Try.prog 84 [.int .i64 k] (fun _ => true) [] 0 fun v m nx => v = .int .i64 ((2 ^ k : Nat) : Int) ∧ m = [] ∧ nx = 0 := by
  refine fn_okG Try.func84 rfl (by show 1 ≤ _; decide) ?_
  simp (config := { maxSteps := 1000000, implicitDefEqProofs := false }) only [-List.reduceReplicate, Nat.reduceBEq, renA, renL, renM, renO, evx, evs, evp, Eng.look, cst, cst1, putd, dstOk, params, loadx, partx, loI, hiI, bltx, mmI, boxx, srcx, calx, nilx, upd, del, resv, fillA, setMany, Nat.reduceLT, Nat.reduceLeDiff, Nat.reduceEqDiff, Nat.reduceAdd, Nat.reduceMul, Nat.reduceSub, reduceIte, reduceCtorEq, if_true, if_false, ite_true, ite_false, eq_self, forall_const, implies_true, Int.reduceLT, Int.reduceLE, Int.reduceToNat, Int.reduceAdd, Int.reduceSub, Int.reduceNeg, ne_eq, Int.reduceEq, Int.reduceNe, Int.reduceBEq, Int.reduceBNe, beq_self_eq_true, bne_self_eq_false, BitVec.reduceBEq, BitVec.reduceBNe, BitVec.reduceOfInt, BitVec.reduceSetWidth, wrD, engS0, engS1, engS2, engS3, engS4, engS5, engS6, engS7, engS8, engS9, engU0, engT0, engT1, engT2, Fx.t3, Fx.t4, Try.results84, Try.ntmps84]
  refine LoopOk.up k (fun i => ([(4, .int .i64 (i : Nat)), (3, .int .i64 ((2 ^ i : Nat) : Int)), (0, .int .i64 k)], [], 0)) (Le.sameT (Nat.le_refl _) ⟨rfl, rfl, rfl, trivial⟩ trivial (by show ([] : List Nat).Nodup; exact List.nodup_nil)) ?_
  intro i hi
  rcases Nat.lt_or_ge i k with h | h
  · have g1 : decide ((i : Int) < (k : Int)) = true := decide_eq_true (by omega)
    have w1 : IntKind.i64.wrap ((i : Int) + 1) = ((i + 1 : Nat) : Int) := by rw [wrap_i64] <;> omega
    have h2 : 2 ^ i ≤ 2 ^ 16 := Nat.pow_le_pow_right (by decide) (by omega)
    have h3 : 2 ^ (i + 1) = 2 ^ i * 2 := Nat.pow_succ _ _
    have w2 : IntKind.i64.wrap (2 * ((2 ^ i : Nat) : Int)) = ((2 ^ (i + 1) : Nat) : Int) := by
      rw [show (2 : Int) * ((2 ^ i : Nat) : Int) = ((2 ^ (i + 1) : Nat) : Int) by omega, wrap_i64] <;> omega
    simp (config := { maxSteps := 1000000, implicitDefEqProofs := false }) only [-List.reduceReplicate, Nat.reduceBEq, renA, renL, renM, renO, evx, evs, evp, Eng.look, cst, cst1, putd, dstOk, params, loadx, partx, loI, hiI, bltx, mmI, boxx, srcx, calx, nilx, upd, del, resv, fillA, setMany, Nat.reduceLT, Nat.reduceLeDiff, Nat.reduceEqDiff, Nat.reduceAdd, Nat.reduceMul, Nat.reduceSub, reduceIte, reduceCtorEq, if_true, if_false, ite_true, ite_false, eq_self, forall_const, implies_true, Int.reduceLT, Int.reduceLE, Int.reduceToNat, Int.reduceAdd, Int.reduceSub, Int.reduceNeg, ne_eq, Int.reduceEq, Int.reduceNe, Int.reduceBEq, Int.reduceBNe, beq_self_eq_true, bne_self_eq_false, BitVec.reduceBEq, BitVec.reduceBNe, BitVec.reduceOfInt, BitVec.reduceSetWidth, wrD, engS0, engS1, engS2, engS3, engS4, engS5, engS6, engS7, engS8, engS9, engU0, engT0, engT1, engT2, Fx.t3, Fx.t4, g1, w1, w2]
    exact UpK_normal h (Le.sameT (Nat.le_refl _) ⟨rfl, rfl, rfl, trivial⟩ trivial (by show ([] : List Nat).Nodup; exact List.nodup_nil))
  · have hk2 : i = k := by omega
    subst hk2
    have g1 : decide ((i : Int) < (i : Int)) = false := decide_eq_false (by omega)
    simp (config := { maxSteps := 1000000, implicitDefEqProofs := false }) only [-List.reduceReplicate, Nat.reduceBEq, renA, renL, renM, renO, evx, evs, evp, Eng.look, cst, cst1, putd, dstOk, params, loadx, partx, loI, hiI, bltx, mmI, boxx, srcx, calx, nilx, upd, del, resv, fillA, setMany, Nat.reduceLT, Nat.reduceLeDiff, Nat.reduceEqDiff, Nat.reduceAdd, Nat.reduceMul, Nat.reduceSub, reduceIte, reduceCtorEq, if_true, if_false, ite_true, ite_false, eq_self, forall_const, implies_true, Int.reduceLT, Int.reduceLE, Int.reduceToNat, Int.reduceAdd, Int.reduceSub, Int.reduceNeg, ne_eq, Int.reduceEq, Int.reduceNe, Int.reduceBEq, Int.reduceBNe, beq_self_eq_true, bne_self_eq_false, BitVec.reduceBEq, BitVec.reduceBNe, BitVec.reduceOfInt, BitVec.reduceSetWidth, wrD, engS0, engS1, engS2, engS3, engS4, engS5, engS6, engS7, engS8, engS9, engU0, engT0, engT1, engT2, Fx.t3, Fx.t4, g1]
    exact finF (fun _ => rfl)
end Go.Proofs.Ytmnbbpckglppjaa
