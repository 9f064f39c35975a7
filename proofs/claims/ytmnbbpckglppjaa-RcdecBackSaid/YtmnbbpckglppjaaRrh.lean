/- Coding bits: a row of bits, coded the same by both. -/
import Derived.Test.YtmnbbpckglppjaaEng19
import Derived.Test.YtmnbbpckglppjaaEng26
import Derived.Test.YtmnbbpckglppjaaRrg
import Derived.Test.YtmnbbpckglppjaaRdf
set_option linter.unusedVariables false
set_option linter.unusedSimpArgs false
set_option maxRecDepth 100000
namespace Go.Proofs.Ytmnbbpckglppjaa
open Go Go.Eng

theorem useEB {fz : Bool} {R : Mem} {nx : Nat} {e : ES} {z : Option (Nat × Nat × List Value)} {s : RS} {w : Nat × Nat × List Value} {wr : Nat → Bool} {K : Kv} (q : LQ R nx e z s w) (hb : e.out.length + e.full + 5 ≤ 1000000) (hw : ∀ n, nx ≤ n → wr n = true) {X : List (BitVec 8)} (hX : bytE e = X)
    (hK : ∀ cap sp, K (.sl nx 0 X.length cap) ((nx, rowO X sp) :: (R ++ LM e z s w)) (nx + 1)) : CallG fz Try.prog 43 [.ptr 0 0] wr (R ++ LM e z s w) nx K := by
  subst hX
  have h1 := q.w2
  have h2 := q.wn
  rcases z with _ | ⟨n, cap, sp⟩
  · exact bytN hb q.zq (by omega) (by rw [q.look]; rfl) hw hK
  · obtain ⟨z1, z2, z3, z4, z5⟩ : 2 ≤ n ∧ n < nx ∧ n ≠ w.1 ∧ e.out.length + sp.length = cap ∧ cap ≤ maxI := q.zq
    have hn0 : ¬ n = 0 := by omega
    have hn1 : ¬ n = 1 := by omega
    exact bytS (n := n) (cap := cap) (sp := sp) hb (by omega) z2 (by omega) (by rw [q.look]; rfl) (by rw [q.look]; simp only [LF, zL, if_neg hn0, if_neg hn1, if_neg z3, if_true]) z4 z5 hw hK
theorem useRB {fz : Bool} {R : Mem} {nx : Nat} {e : ES} {z : Option (Nat × Nat × List Value)} {s : RS} {w : Nat × Nat × List Value} {wr : Nat → Bool} {K : Kv} (q : LQ R nx e z s w) (hl : s.low.length ≤ 1000000) (hw : ∀ n, nx ≤ n → wr n = true) {X : List (BitVec 8)} (hX : 0#8 :: s.low = X)
    (hK : ∀ cap sp, K (.sl nx 0 X.length cap) ((nx, rowO X sp) :: (R ++ LM e z s w)) (nx + 1)) : CallG fz Try.prog 44 [.ptr 1 0] wr (R ++ LM e z s w) nx K := by
  subst hX
  have h1 := q.w2
  have h2 := q.wn
  have hw0 : ¬ w.1 = 0 := by omega
  have hw1 : ¬ w.1 = 1 := by omega
  exact rbytU (n := w.1) (cap := w.2.1) (sp := w.2.2) hl (by omega) h2 (by omega) (by rw [q.look]; rfl) (by rw [q.look]; simp only [LF, zL, if_neg hw0, if_neg hw1, if_true]) hw hK
theorem LQ.new {R : Mem} {nx : Nat} {e : ES} {z : Option (Nat × Nat × List Value)} {s : RS} {w : Nat × Nat × List Value} (q : LQ R nx e z s w) (o : AObj) : LQ ((nx, o) :: R) (nx + 1) e z s w := by
  have h1 := q.w2
  have h2 := q.wn
  refine ⟨fun k hk => ?_, ?_, q.w2, by omega, q.wl, q.wc⟩
  · have hne : ¬ nx = k := by
      rintro rfl
      rcases hk with hk | hk | hk | hk
      · omega
      · omega
      · rcases z with _ | ⟨n, cap, sp⟩
        · exact hk
        · have h3 : nx = n := hk
          have := q.zq.2.1
          omega
      · omega
    rw [look_cons, if_neg hne]
    refine q.r k ?_
    rcases hk with hk | hk | hk | hk
    · exact .inl hk
    · exact .inr (.inl (by omega))
    · exact .inr (.inr (.inl hk))
    · exact .inr (.inr (.inr hk))
  · rcases z with _ | ⟨n, cap, sp⟩
    · exact q.zq
    · obtain ⟨z1, z2, z3⟩ := q.zq
      exact ⟨z1, by omega, z3⟩
theorem LQ.drop {R : Mem} {nx : Nat} {e : ES} {z : Option (Nat × Nat × List Value)} {s : RS} {w : Nat × Nat × List Value} (q : LQ R nx e z s w) : LQ [] nx e z s w := ⟨fun _ _ => rfl, q.zq, q.w2, q.wn, q.wl, q.wc⟩
theorem LQ.same {R : Mem} {nx : Nat} {e : ES} {z : Option (Nat × Nat × List Value)} {s : RS} {w : Nat × Nat × List Value} (q : LQ R nx e z s w) : memSame (R ++ LM e z s w) (LM e z s w) := by
  have h1 := q.w2
  have hw0 : ¬ w.1 = 0 := by omega
  have hw1 : ¬ w.1 = 1 := by omega
  refine ⟨by rw [q.look]; rfl, by rw [q.look]; rfl, by rw [q.look]; simp only [LF, zL, if_neg hw0, if_neg hw1, if_true], ?_⟩
  rcases z with _ | ⟨n, cap, sp⟩
  · trivial
  · obtain ⟨z1, z2, z3, z4, z5⟩ : 2 ≤ n ∧ n < nx ∧ n ≠ w.1 ∧ e.out.length + sp.length = cap ∧ cap ≤ maxI := q.zq
    have hn0 : ¬ n = 0 := by omega
    have hn1 : ¬ n = 1 := by omega
    exact ⟨by rw [q.look]; simp only [LF, zL, if_neg hn0, if_neg hn1, if_neg z3, if_true], trivial⟩
theorem LQ.nodup {R : Mem} {nx : Nat} {e : ES} {z : Option (Nat × Nat × List Value)} {s : RS} {w : Nat × Nat × List Value} (q : LQ R nx e z s w) : ((LM e z s w).map fun p => p.1).Nodup := by
  have h1 := q.w2
  rcases z with _ | ⟨n, cap, sp⟩
  · simp [LM, eM]; omega
  · obtain ⟨z1, z2, z3, z4, z5⟩ : 2 ≤ n ∧ n < nx ∧ n ≠ w.1 ∧ e.out.length + sp.length = cap ∧ cap ≤ maxI := q.zq
    simp [LM, eM]; omega
theorem bitE_len (e : ES) (p : BitVec 16) (b : Bool) : (bitE e p b).out.length + (bitE e p b).full ≤ e.out.length + e.full + 3 := by
  have h1 := sclE_len 3 (bit1 e (bnd e.size p) b)
  obtain ⟨h2, h3⟩ := bit1_out e (bnd e.size p) b
  rw [h2, h3] at h1
  exact h1
def sbE (p : BitVec 16) (L : List Bool) : Nat → ES × RS × BitVec 16
  | 0 => (newS, newR, p)
  | j + 1 => (bitE (sbE p L j).1 (fairV (sbE p L j).2.2) (L.getD j false), rbitE (sbE p L j).2.1 (fairV (sbE p L j).2.2) (L.getD j false), nxB (fairV (sbE p L j).2.2) (L.getD j false))
theorem sbE_ok (p : BitVec 16) (L : List Bool) : ∀ j, RelE (sbE p L j).1 (sbE p L j).2.1 ∧ (sbE p L j).1.out.length + (sbE p L j).1.full ≤ 3 * j
  | 0 => ⟨newRel, Nat.le_refl _⟩
  | j + 1 => by
    obtain ⟨h1, h2⟩ := sbE_ok p L j
    obtain ⟨p1, p2⟩ := fairV_range (sbE p L j).2.2
    refine ⟨h1.bit _ p1 p2 _, ?_⟩
    have := bitE_len (sbE p L j).1 (fairV (sbE p L j).2.2) (L.getD j false)
    show (bitE (sbE p L j).1 (fairV (sbE p L j).2.2) (L.getD j false)).out.length + (bitE (sbE p L j).1 (fairV (sbE p L j).2.2) (L.getD j false)).full ≤ _
    omega
theorem kn05 {fz : Bool} {wr : Nat → Bool} {m : Mem} {nx : Nat} {K : Kv} (h : K (.bool true) m nx) : CallG fz Try.prog 37 [] wr m nx K := knows05.flat0 trivial (fun _ => rfl) rfl h
theorem flat_bool : ∀ (L : List Bool), (L.flatMap fun b => [Eng.AV.bool b]) = L.map Eng.AV.bool
  | [] => rfl
  | x :: r => by rw [List.flatMap_cons, List.map_cons, flat_bool r]; rfl
theorem bool_at {L : List Bool} {i : Nat} (h : i < L.length) : (L.flatMap fun b => [Eng.AV.bool b]).getD i (.bool false) = .bool (L.getD i false) := by
  rw [flat_bool]
  simp [List.getD_eq_getElem?_getD, List.getElem?_eq_getElem h]
set_option maxHeartbeats 4000000 in
theorem rcencSameOk (L : List Bool) (hL : L.length ≤ maxLen ∧ ∀ z ∈ L, True) (ch : BitVec 16) :
    CallOk Try.prog 9 [.ro L.length (L.flatMap fun b => [Eng.AV.bool b]), .int .u16 (ch.toNat : Int)] (fun _ => true) [] 0 fun v _ _ => v = .bool true := by
  have hL := hL.1
  refine fn_ok Try.func9 rfl (by show 2 ≤ _; decide) ?_
  have fin : ∀ {m : Mem} {nx : Nat}, Eng.Fin 0 (fun _ => true) m nx (fun v _ _ => v = .bool true) (.bool true) := Fin.flatv (fun _ => rfl) (fun _ => rfl) rfl
  simp (config := { maxSteps := 1000000, implicitDefEqProofs := false }) only [-List.reduceReplicate, Nat.reduceBEq, renA, renL, renM, renO, evx, evs, evp, Eng.look, cst, cst1, putd, dstOk, params, loadx, partx, loI, hiI, bltx, mmI, boxx, srcx, calx, nilx, upd, del, resv, fillA, setMany, Nat.reduceLT, Nat.reduceLeDiff, Nat.reduceEqDiff, Nat.reduceAdd, Nat.reduceMul, Nat.reduceSub, reduceIte, reduceCtorEq, if_true, if_false, ite_true, ite_false, eq_self, forall_const, implies_true, Int.reduceLT, Int.reduceLE, Int.reduceToNat, Int.reduceAdd, Int.reduceSub, Int.reduceNeg, ne_eq, Int.reduceEq, Int.reduceNe, Int.reduceBEq, Int.reduceBNe, beq_self_eq_true, bne_self_eq_false, BitVec.reduceBEq, BitVec.reduceBNe, BitVec.reduceOfInt, BitVec.reduceSetWidth, wrD, engS0, engS1, engS2, engS3, engS4, engS5, engS6, engS7, engS8, engS9, engT0, engT1, engT2, Fx.t1, Fx.t3, Fx.t4, Fx.t5, Fx.t9, Fx.t22, Fx.t23, Fx.t52, Fx.t53, Fx.t65, Fx.t67, Fx.t73, Fx.t123, Fx.t124, Fx.t125, Fx.t126, Fx.en36, Fx.en37, Fx.en38, Fx.en39, Fx.en40, Fx.en43, Fx.en44, Try.results9, Try.ntmps9]
  refine newEOk.newE rfl ?_
  rintro v m' nx' ⟨rfl, rfl, rfl⟩
  simp only [renM, encO_ren, renA, List.append_nil]
  rcases Decidable.em (500 < L.length) with h1 | h1
  · have e1 : decide ((L.length : Int) > 500) = true := by simp; omega
    simp (config := { maxSteps := 1000000, implicitDefEqProofs := false }) only [-List.reduceReplicate, Nat.reduceBEq, renA, renL, renM, renO, evx, evs, evp, Eng.look, cst, cst1, putd, dstOk, params, loadx, partx, loI, hiI, bltx, mmI, boxx, srcx, calx, nilx, upd, del, resv, fillA, setMany, Nat.reduceLT, Nat.reduceLeDiff, Nat.reduceEqDiff, Nat.reduceAdd, Nat.reduceMul, Nat.reduceSub, reduceIte, reduceCtorEq, if_true, if_false, ite_true, ite_false, eq_self, forall_const, implies_true, Int.reduceLT, Int.reduceLE, Int.reduceToNat, Int.reduceAdd, Int.reduceSub, Int.reduceNeg, ne_eq, Int.reduceEq, Int.reduceNe, Int.reduceBEq, Int.reduceBNe, beq_self_eq_true, bne_self_eq_false, BitVec.reduceBEq, BitVec.reduceBNe, BitVec.reduceOfInt, BitVec.reduceSetWidth, wrD, engS0, engS1, engS2, engS3, engS4, engS5, engS6, engS7, engS8, engS9, engT0, engT1, engT2, Fx.t1, Fx.t3, Fx.t4, Fx.t5, Fx.t9, Fx.t22, Fx.t23, Fx.t52, Fx.t53, Fx.t65, Fx.t67, Fx.t73, Fx.t123, Fx.t124, Fx.t125, Fx.t126, Fx.en36, Fx.en37, Fx.en38, Fx.en39, Fx.en40, Fx.en43, Fx.en44, e1]
    refine kn05 ?_
    simp (config := { maxSteps := 1000000, implicitDefEqProofs := false }) only [-List.reduceReplicate, Nat.reduceBEq, renA, renL, renM, renO, evx, evs, evp, Eng.look, cst, cst1, putd, dstOk, params, loadx, partx, loI, hiI, bltx, mmI, boxx, srcx, calx, nilx, upd, del, resv, fillA, setMany, Nat.reduceLT, Nat.reduceLeDiff, Nat.reduceEqDiff, Nat.reduceAdd, Nat.reduceMul, Nat.reduceSub, reduceIte, reduceCtorEq, if_true, if_false, ite_true, ite_false, eq_self, forall_const, implies_true, Int.reduceLT, Int.reduceLE, Int.reduceToNat, Int.reduceAdd, Int.reduceSub, Int.reduceNeg, ne_eq, Int.reduceEq, Int.reduceNe, Int.reduceBEq, Int.reduceBNe, beq_self_eq_true, bne_self_eq_false, BitVec.reduceBEq, BitVec.reduceBNe, BitVec.reduceOfInt, BitVec.reduceSetWidth, wrD, engS0, engS1, engS2, engS3, engS4, engS5, engS6, engS7, engS8, engS9, engT0, engT1, engT2, Fx.t1, Fx.t3, Fx.t4, Fx.t5, Fx.t9, Fx.t22, Fx.t23, Fx.t52, Fx.t53, Fx.t65, Fx.t67, Fx.t73, Fx.t123, Fx.t124, Fx.t125, Fx.t126, Fx.en36, Fx.en37, Fx.en38, Fx.en39, Fx.en40, Fx.en43, Fx.en44]
    exact fin
  have e1 : decide ((L.length : Int) > 500) = false := by simp; omega
  simp (config := { maxSteps := 1000000, implicitDefEqProofs := false }) only [-List.reduceReplicate, Nat.reduceBEq, renA, renL, renM, renO, evx, evs, evp, Eng.look, cst, cst1, putd, dstOk, params, loadx, partx, loI, hiI, bltx, mmI, boxx, srcx, calx, nilx, upd, del, resv, fillA, setMany, Nat.reduceLT, Nat.reduceLeDiff, Nat.reduceEqDiff, Nat.reduceAdd, Nat.reduceMul, Nat.reduceSub, reduceIte, reduceCtorEq, if_true, if_false, ite_true, ite_false, eq_self, forall_const, implies_true, Int.reduceLT, Int.reduceLE, Int.reduceToNat, Int.reduceAdd, Int.reduceSub, Int.reduceNeg, ne_eq, Int.reduceEq, Int.reduceNe, Int.reduceBEq, Int.reduceBNe, beq_self_eq_true, bne_self_eq_false, BitVec.reduceBEq, BitVec.reduceBNe, BitVec.reduceOfInt, BitVec.reduceSetWidth, wrD, engS0, engS1, engS2, engS3, engS4, engS5, engS6, engS7, engS8, engS9, engT0, engT1, engT2, Fx.t1, Fx.t3, Fx.t4, Fx.t5, Fx.t9, Fx.t22, Fx.t23, Fx.t52, Fx.t53, Fx.t65, Fx.t67, Fx.t73, Fx.t123, Fx.t124, Fx.t125, Fx.t126, Fx.en36, Fx.en37, Fx.en38, Fx.en39, Fx.en40, Fx.en43, Fx.en44, e1]
  refine newROk.newE rfl ?_
  rintro v m' nx' ⟨rfl, rfl, rfl⟩
  simp only [renM, rEO_ren, rowO_ren, renA]
  simp (config := { maxSteps := 1000000, implicitDefEqProofs := false }) only [-List.reduceReplicate, Nat.reduceBEq, renA, renL, renM, renO, evx, evs, evp, Eng.look, cst, cst1, putd, dstOk, params, loadx, partx, loI, hiI, bltx, mmI, boxx, srcx, calx, nilx, upd, del, resv, fillA, setMany, Nat.reduceLT, Nat.reduceLeDiff, Nat.reduceEqDiff, Nat.reduceAdd, Nat.reduceMul, Nat.reduceSub, reduceIte, reduceCtorEq, if_true, if_false, ite_true, ite_false, eq_self, forall_const, implies_true, Int.reduceLT, Int.reduceLE, Int.reduceToNat, Int.reduceAdd, Int.reduceSub, Int.reduceNeg, ne_eq, Int.reduceEq, Int.reduceNe, Int.reduceBEq, Int.reduceBNe, beq_self_eq_true, bne_self_eq_false, BitVec.reduceBEq, BitVec.reduceBNe, BitVec.reduceOfInt, BitVec.reduceSetWidth, wrD, engS0, engS1, engS2, engS3, engS4, engS5, engS6, engS7, engS8, engS9, engT0, engT1, engT2, Fx.t1, Fx.t3, Fx.t4, Fx.t5, Fx.t9, Fx.t22, Fx.t23, Fx.t52, Fx.t53, Fx.t65, Fx.t67, Fx.t73, Fx.t123, Fx.t124, Fx.t125, Fx.t126, Fx.en36, Fx.en37, Fx.en38, Fx.en39, Fx.en40, Fx.en43, Fx.en44]
  refine LoopOk.upX (fun i (y : Option (Nat × Nat × List Value) × (Nat × Nat × List Value) × Nat) => LQ [] y.2.2 (sbE ch L i).1 y.1 (sbE ch L i).2.1 y.2.1) L.length
    (fun i y => ([(9, .int .i64 i), (8, .int .u16 ((sbE ch L i).2.2.toNat : Int)), (7, .int .u16 ((sbE ch L i).2.2.toNat : Int)), (6, .ptr 1 0), (5, .ptr 0 0), (0, .ro L.length (L.flatMap fun b => [Eng.AV.bool b]))], LM (sbE ch L i).1 y.1 (sbE ch L i).2.1 y.2.1, y.2.2)) (none, (2, 4, []), 3) ?_ ?_ ?_
  · exact ⟨fun _ _ => rfl, rfl, by decide, by decide, rfl, by decide⟩
  · exact Le.sameT (by decide) ⟨rfl, rfl, rfl, rfl, rfl, rfl, trivial⟩ ⟨rfl, rfl, rfl, trivial⟩ (by show [0, 1, 2].Nodup; decide)
  rintro i ⟨z, w, nx⟩ ⟨hi, q⟩
  dsimp only at q ⊢
  obtain ⟨hR, hlen⟩ := sbE_ok ch L i
  rcases Nat.lt_or_ge i L.length with h | h
  · have wi : IntKind.i64.wrap ((i : Int) + 1) = ((i + 1 : Nat) : Int) := by rw [wrap_i64] <;> omega
    have g1 : decide ((i : Int) < (L.length : Int)) = true := by simp; omega
    have hb := bool_at h
    have hnext : sbE ch L (i + 1) = (bitE (sbE ch L i).1 (fairV (sbE ch L i).2.2) (L.getD i false), rbitE (sbE ch L i).2.1 (fairV (sbE ch L i).2.2) (L.getD i false), nxB (fairV (sbE ch L i).2.2) (L.getD i false)) := rfl
    cases hbv : L.getD i false
    · rw [hbv] at hb hnext
      simp (config := { maxSteps := 1000000, implicitDefEqProofs := false }) only [-List.reduceReplicate, Nat.reduceBEq, renA, renL, renM, renO, evx, evs, evp, Eng.look, cst, cst1, putd, dstOk, params, loadx, partx, loI, hiI, bltx, mmI, boxx, srcx, calx, nilx, upd, del, resv, fillA, setMany, Nat.reduceLT, Nat.reduceLeDiff, Nat.reduceEqDiff, Nat.reduceAdd, Nat.reduceMul, Nat.reduceSub, reduceIte, reduceCtorEq, if_true, if_false, ite_true, ite_false, eq_self, forall_const, implies_true, Int.reduceLT, Int.reduceLE, Int.reduceToNat, Int.reduceAdd, Int.reduceSub, Int.reduceNeg, ne_eq, Int.reduceEq, Int.reduceNe, Int.reduceBEq, Int.reduceBNe, beq_self_eq_true, bne_self_eq_false, BitVec.reduceBEq, BitVec.reduceBNe, BitVec.reduceOfInt, BitVec.reduceSetWidth, wrD, engS0, engS1, engS2, engS3, engS4, engS5, engS6, engS7, engS8, engS9, engT0, engT1, engT2, Fx.t1, Fx.t3, Fx.t4, Fx.t5, Fx.t9, Fx.t22, Fx.t23, Fx.t52, Fx.t53, Fx.t65, Fx.t67, Fx.t73, Fx.t123, Fx.t124, Fx.t125, Fx.t126, Fx.en36, Fx.en37, Fx.en38, Fx.en39, Fx.en40, Fx.en43, Fx.en44, g1, hb]
      refine ⟨by omega, by rw [flat_bool, List.length_map]; exact h, by rw [List.length_drop, flat_bool, List.length_map]; omega, ?_⟩
      refine useE1 (R := []) q (bitEOk (sbE ch L i).1 (by omega) hR.2 (sbE ch L i).2.2 0) (fun _ => rfl) (tup2_ren _ _ rfl rfl) ?_
      intro z1 nx1 n1 q1
      simp (config := { maxSteps := 1000000, implicitDefEqProofs := false }) only [-List.reduceReplicate, Nat.reduceBEq, renA, renL, renM, renO, evx, evs, evp, Eng.look, cst, cst1, putd, dstOk, params, loadx, partx, loI, hiI, bltx, mmI, boxx, srcx, calx, nilx, upd, del, resv, fillA, setMany, Nat.reduceLT, Nat.reduceLeDiff, Nat.reduceEqDiff, Nat.reduceAdd, Nat.reduceMul, Nat.reduceSub, reduceIte, reduceCtorEq, if_true, if_false, ite_true, ite_false, eq_self, forall_const, implies_true, Int.reduceLT, Int.reduceLE, Int.reduceToNat, Int.reduceAdd, Int.reduceSub, Int.reduceNeg, ne_eq, Int.reduceEq, Int.reduceNe, Int.reduceBEq, Int.reduceBNe, beq_self_eq_true, bne_self_eq_false, BitVec.reduceBEq, BitVec.reduceBNe, BitVec.reduceOfInt, BitVec.reduceSetWidth, wrD, engS0, engS1, engS2, engS3, engS4, engS5, engS6, engS7, engS8, engS9, engT0, engT1, engT2, Fx.t1, Fx.t3, Fx.t4, Fx.t5, Fx.t9, Fx.t22, Fx.t23, Fx.t52, Fx.t53, Fx.t65, Fx.t67, Fx.t73, Fx.t123, Fx.t124, Fx.t125, Fx.t126, Fx.en36, Fx.en37, Fx.en38, Fx.en39, Fx.en40, Fx.en43, Fx.en44, List.nil_append]
      refine useR1 (R := []) q1 (rbitEOk (sbE ch L i).2.1 (by have := hR.1.len; omega) (by rw [← hR.1.sz]; exact hR.2) (sbE ch L i).2.2 false) (fun _ => rfl) (fun _ => rfl) ?_
      intro w2 nx2 n2 q2
      simp (config := { maxSteps := 1000000, implicitDefEqProofs := false }) only [-List.reduceReplicate, Nat.reduceBEq, renA, renL, renM, renO, evx, evs, evp, Eng.look, cst, cst1, putd, dstOk, params, loadx, partx, loI, hiI, bltx, mmI, boxx, srcx, calx, nilx, upd, del, resv, fillA, setMany, Nat.reduceLT, Nat.reduceLeDiff, Nat.reduceEqDiff, Nat.reduceAdd, Nat.reduceMul, Nat.reduceSub, reduceIte, reduceCtorEq, if_true, if_false, ite_true, ite_false, eq_self, forall_const, implies_true, Int.reduceLT, Int.reduceLE, Int.reduceToNat, Int.reduceAdd, Int.reduceSub, Int.reduceNeg, ne_eq, Int.reduceEq, Int.reduceNe, Int.reduceBEq, Int.reduceBNe, beq_self_eq_true, bne_self_eq_false, BitVec.reduceBEq, BitVec.reduceBNe, BitVec.reduceOfInt, BitVec.reduceSetWidth, wrD, engS0, engS1, engS2, engS3, engS4, engS5, engS6, engS7, engS8, engS9, engT0, engT1, engT2, Fx.t1, Fx.t3, Fx.t4, Fx.t5, Fx.t9, Fx.t22, Fx.t23, Fx.t52, Fx.t53, Fx.t65, Fx.t67, Fx.t73, Fx.t123, Fx.t124, Fx.t125, Fx.t126, Fx.en36, Fx.en37, Fx.en38, Fx.en39, Fx.en40, Fx.en43, Fx.en44, List.nil_append, show (((0 : Int) != 0) = false) from rfl, bne_self_eq_false, wi]
      refine UpX_normal h (z1, w2, nx2) ?_ ?_
      · rw [hnext]; exact q2
      · dsimp only
        rw [hnext]
        exact Le.sameT (Nat.zero_le _) ⟨rfl, rfl, rfl, rfl, rfl, rfl, trivial⟩ q2.same q2.nodup
    · rw [hbv] at hb hnext
      simp (config := { maxSteps := 1000000, implicitDefEqProofs := false }) only [-List.reduceReplicate, Nat.reduceBEq, renA, renL, renM, renO, evx, evs, evp, Eng.look, cst, cst1, putd, dstOk, params, loadx, partx, loI, hiI, bltx, mmI, boxx, srcx, calx, nilx, upd, del, resv, fillA, setMany, Nat.reduceLT, Nat.reduceLeDiff, Nat.reduceEqDiff, Nat.reduceAdd, Nat.reduceMul, Nat.reduceSub, reduceIte, reduceCtorEq, if_true, if_false, ite_true, ite_false, eq_self, forall_const, implies_true, Int.reduceLT, Int.reduceLE, Int.reduceToNat, Int.reduceAdd, Int.reduceSub, Int.reduceNeg, ne_eq, Int.reduceEq, Int.reduceNe, Int.reduceBEq, Int.reduceBNe, beq_self_eq_true, bne_self_eq_false, BitVec.reduceBEq, BitVec.reduceBNe, BitVec.reduceOfInt, BitVec.reduceSetWidth, wrD, engS0, engS1, engS2, engS3, engS4, engS5, engS6, engS7, engS8, engS9, engT0, engT1, engT2, Fx.t1, Fx.t3, Fx.t4, Fx.t5, Fx.t9, Fx.t22, Fx.t23, Fx.t52, Fx.t53, Fx.t65, Fx.t67, Fx.t73, Fx.t123, Fx.t124, Fx.t125, Fx.t126, Fx.en36, Fx.en37, Fx.en38, Fx.en39, Fx.en40, Fx.en43, Fx.en44, g1, hb]
      refine ⟨by omega, by rw [flat_bool, List.length_map]; exact h, by rw [List.length_drop, flat_bool, List.length_map]; omega, ?_⟩
      refine useE1 (R := []) q (bitEOk (sbE ch L i).1 (by omega) hR.2 (sbE ch L i).2.2 1) (fun _ => rfl) (tup2_ren _ _ rfl rfl) ?_
      intro z1 nx1 n1 q1
      simp (config := { maxSteps := 1000000, implicitDefEqProofs := false }) only [-List.reduceReplicate, Nat.reduceBEq, renA, renL, renM, renO, evx, evs, evp, Eng.look, cst, cst1, putd, dstOk, params, loadx, partx, loI, hiI, bltx, mmI, boxx, srcx, calx, nilx, upd, del, resv, fillA, setMany, Nat.reduceLT, Nat.reduceLeDiff, Nat.reduceEqDiff, Nat.reduceAdd, Nat.reduceMul, Nat.reduceSub, reduceIte, reduceCtorEq, if_true, if_false, ite_true, ite_false, eq_self, forall_const, implies_true, Int.reduceLT, Int.reduceLE, Int.reduceToNat, Int.reduceAdd, Int.reduceSub, Int.reduceNeg, ne_eq, Int.reduceEq, Int.reduceNe, Int.reduceBEq, Int.reduceBNe, beq_self_eq_true, bne_self_eq_false, BitVec.reduceBEq, BitVec.reduceBNe, BitVec.reduceOfInt, BitVec.reduceSetWidth, wrD, engS0, engS1, engS2, engS3, engS4, engS5, engS6, engS7, engS8, engS9, engT0, engT1, engT2, Fx.t1, Fx.t3, Fx.t4, Fx.t5, Fx.t9, Fx.t22, Fx.t23, Fx.t52, Fx.t53, Fx.t65, Fx.t67, Fx.t73, Fx.t123, Fx.t124, Fx.t125, Fx.t126, Fx.en36, Fx.en37, Fx.en38, Fx.en39, Fx.en40, Fx.en43, Fx.en44, List.nil_append]
      refine useR1 (R := []) q1 (rbitEOk (sbE ch L i).2.1 (by have := hR.1.len; omega) (by rw [← hR.1.sz]; exact hR.2) (sbE ch L i).2.2 true) (fun _ => rfl) (fun _ => rfl) ?_
      intro w2 nx2 n2 q2
      simp (config := { maxSteps := 1000000, implicitDefEqProofs := false }) only [-List.reduceReplicate, Nat.reduceBEq, renA, renL, renM, renO, evx, evs, evp, Eng.look, cst, cst1, putd, dstOk, params, loadx, partx, loI, hiI, bltx, mmI, boxx, srcx, calx, nilx, upd, del, resv, fillA, setMany, Nat.reduceLT, Nat.reduceLeDiff, Nat.reduceEqDiff, Nat.reduceAdd, Nat.reduceMul, Nat.reduceSub, reduceIte, reduceCtorEq, if_true, if_false, ite_true, ite_false, eq_self, forall_const, implies_true, Int.reduceLT, Int.reduceLE, Int.reduceToNat, Int.reduceAdd, Int.reduceSub, Int.reduceNeg, ne_eq, Int.reduceEq, Int.reduceNe, Int.reduceBEq, Int.reduceBNe, beq_self_eq_true, bne_self_eq_false, BitVec.reduceBEq, BitVec.reduceBNe, BitVec.reduceOfInt, BitVec.reduceSetWidth, wrD, engS0, engS1, engS2, engS3, engS4, engS5, engS6, engS7, engS8, engS9, engT0, engT1, engT2, Fx.t1, Fx.t3, Fx.t4, Fx.t5, Fx.t9, Fx.t22, Fx.t23, Fx.t52, Fx.t53, Fx.t65, Fx.t67, Fx.t73, Fx.t123, Fx.t124, Fx.t125, Fx.t126, Fx.en36, Fx.en37, Fx.en38, Fx.en39, Fx.en40, Fx.en43, Fx.en44, List.nil_append, show (((1 : Int) != 0) = true) from rfl, bne_self_eq_false, wi]
      refine UpX_normal h (z1, w2, nx2) ?_ ?_
      · rw [hnext]; exact q2
      · dsimp only
        rw [hnext]
        exact Le.sameT (Nat.zero_le _) ⟨rfl, rfl, rfl, rfl, rfl, rfl, trivial⟩ q2.same q2.nodup
  · have hi' : i = L.length := by omega
    have g1 : decide ((i : Int) < (L.length : Int)) = false := by simp; omega
    simp (config := { maxSteps := 1000000, implicitDefEqProofs := false }) only [-List.reduceReplicate, Nat.reduceBEq, renA, renL, renM, renO, evx, evs, evp, Eng.look, cst, cst1, putd, dstOk, params, loadx, partx, loI, hiI, bltx, mmI, boxx, srcx, calx, nilx, upd, del, resv, fillA, setMany, Nat.reduceLT, Nat.reduceLeDiff, Nat.reduceEqDiff, Nat.reduceAdd, Nat.reduceMul, Nat.reduceSub, reduceIte, reduceCtorEq, if_true, if_false, ite_true, ite_false, eq_self, forall_const, implies_true, Int.reduceLT, Int.reduceLE, Int.reduceToNat, Int.reduceAdd, Int.reduceSub, Int.reduceNeg, ne_eq, Int.reduceEq, Int.reduceNe, Int.reduceBEq, Int.reduceBNe, beq_self_eq_true, bne_self_eq_false, BitVec.reduceBEq, BitVec.reduceBNe, BitVec.reduceOfInt, BitVec.reduceSetWidth, wrD, engS0, engS1, engS2, engS3, engS4, engS5, engS6, engS7, engS8, engS9, engT0, engT1, engT2, Fx.t1, Fx.t3, Fx.t4, Fx.t5, Fx.t9, Fx.t22, Fx.t23, Fx.t52, Fx.t53, Fx.t65, Fx.t67, Fx.t73, Fx.t123, Fx.t124, Fx.t125, Fx.t126, Fx.en36, Fx.en37, Fx.en38, Fx.en39, Fx.en40, Fx.en43, Fx.en44, g1]
    refine ⟨Fx.mixed, .inr (.inr ⟨(.step 0 false (.step 3 false (.step 1 true (.both 2 (.step 4 true (.step 5 true (.step 6 false (.step 7 false (.step 8 true (.step 9 false (.step 10 false .done))))))) 4 (.both 2 (.step 5 true (.step 6 false (.step 7 false (.step 8 true (.step 9 false (.step 10 false .done)))))) 5 (.step 2 true (.step 6 false (.step 7 false (.step 8 true (.step 9 false (.step 10 false .done))))))))))), [], by kernel_rfl, (fun n hn => by cases hn), ?_⟩)⟩
    have hw : ∀ n, nx ≤ n → wrD (LM (sbE ch L i).1 z (sbE ch L i).2.1 w) nx [] n = true := fun n hn => by simp [wrD, hn]
    obtain ⟨X, hX⟩ : ∃ X, 0#8 :: (sbE ch L i).2.1.low = X := ⟨_, rfl⟩
    have hX2 : bytE (sbE ch L i).1 = X := by rw [← hX]; exact bytE_eq hR.1 (by have := hR.2; omega)
    have hlen2 := hR.1.len
    simp (config := { maxSteps := 1000000, implicitDefEqProofs := false }) only [-List.reduceReplicate, Nat.reduceBEq, renA, renL, renM, renO, evx, evs, evp, Eng.look, cst, cst1, putd, dstOk, params, loadx, partx, loI, hiI, bltx, mmI, boxx, srcx, calx, nilx, upd, del, resv, fillA, setMany, Nat.reduceLT, Nat.reduceLeDiff, Nat.reduceEqDiff, Nat.reduceAdd, Nat.reduceMul, Nat.reduceSub, reduceIte, reduceCtorEq, if_true, if_false, ite_true, ite_false, eq_self, forall_const, implies_true, Int.reduceLT, Int.reduceLE, Int.reduceToNat, Int.reduceAdd, Int.reduceSub, Int.reduceNeg, ne_eq, Int.reduceEq, Int.reduceNe, Int.reduceBEq, Int.reduceBNe, beq_self_eq_true, bne_self_eq_false, BitVec.reduceBEq, BitVec.reduceBNe, BitVec.reduceOfInt, BitVec.reduceSetWidth, wrD, engS0, engS1, engS2, engS3, engS4, engS5, engS6, engS7, engS8, engS9, engT0, engT1, engT2, Fx.t1, Fx.t3, Fx.t4, Fx.t5, Fx.t9, Fx.t22, Fx.t23, Fx.t52, Fx.t53, Fx.t65, Fx.t67, Fx.t73, Fx.t123, Fx.t124, Fx.t125, Fx.t126, Fx.en36, Fx.en37, Fx.en38, Fx.en39, Fx.en40, Fx.en43, Fx.en44, drawT_done, drawT_step, drawT_both, List.nil_append, rowO, List.drop_zero, u8T, beq_self_eq_true]
    refine useEB (R := []) q (by omega) hw hX2 ?_
    intro cap1 sp1
    simp (config := { maxSteps := 1000000, implicitDefEqProofs := false }) only [-List.reduceReplicate, Nat.reduceBEq, renA, renL, renM, renO, evx, evs, evp, Eng.look, cst, cst1, putd, dstOk, params, loadx, partx, loI, hiI, bltx, mmI, boxx, srcx, calx, nilx, upd, del, resv, fillA, setMany, Nat.reduceLT, Nat.reduceLeDiff, Nat.reduceEqDiff, Nat.reduceAdd, Nat.reduceMul, Nat.reduceSub, reduceIte, reduceCtorEq, if_true, if_false, ite_true, ite_false, eq_self, forall_const, implies_true, Int.reduceLT, Int.reduceLE, Int.reduceToNat, Int.reduceAdd, Int.reduceSub, Int.reduceNeg, ne_eq, Int.reduceEq, Int.reduceNe, Int.reduceBEq, Int.reduceBNe, beq_self_eq_true, bne_self_eq_false, BitVec.reduceBEq, BitVec.reduceBNe, BitVec.reduceOfInt, BitVec.reduceSetWidth, wrD, engS0, engS1, engS2, engS3, engS4, engS5, engS6, engS7, engS8, engS9, engT0, engT1, engT2, Fx.t1, Fx.t3, Fx.t4, Fx.t5, Fx.t9, Fx.t22, Fx.t23, Fx.t52, Fx.t53, Fx.t65, Fx.t67, Fx.t73, Fx.t123, Fx.t124, Fx.t125, Fx.t126, Fx.en36, Fx.en37, Fx.en38, Fx.en39, Fx.en40, Fx.en43, Fx.en44, drawT_done, drawT_step, drawT_both, List.nil_append, rowO, List.drop_zero, u8T, beq_self_eq_true]
    have hne : (nx + 1 = nx) = False := by simp
    have hw' : ∀ n, nx + 1 ≤ n → wrD (LM (sbE ch L i).1 z (sbE ch L i).2.1 w) nx [] n = true := fun n hn => hw n (by omega)
    refine ⟨⟨Nat.le_add_right _ _, ?_⟩, ?_⟩
    · refine useRB (R := [(nx, rowO X sp1)]) (q.new _) (by omega) hw' hX ?_
      intro cap2 sp2
      simp (config := { maxSteps := 1000000, implicitDefEqProofs := false }) only [-List.reduceReplicate, Nat.reduceBEq, renA, renL, renM, renO, evx, evs, evp, Eng.look, cst, cst1, putd, dstOk, params, loadx, partx, loI, hiI, bltx, mmI, boxx, srcx, calx, nilx, upd, del, resv, fillA, setMany, Nat.reduceLT, Nat.reduceLeDiff, Nat.reduceEqDiff, Nat.reduceAdd, Nat.reduceMul, Nat.reduceSub, reduceIte, reduceCtorEq, if_true, if_false, ite_true, ite_false, eq_self, forall_const, implies_true, Int.reduceLT, Int.reduceLE, Int.reduceToNat, Int.reduceAdd, Int.reduceSub, Int.reduceNeg, ne_eq, Int.reduceEq, Int.reduceNe, Int.reduceBEq, Int.reduceBNe, beq_self_eq_true, bne_self_eq_false, BitVec.reduceBEq, BitVec.reduceBNe, BitVec.reduceOfInt, BitVec.reduceSetWidth, wrD, engS0, engS1, engS2, engS3, engS4, engS5, engS6, engS7, engS8, engS9, engT0, engT1, engT2, Fx.t1, Fx.t3, Fx.t4, Fx.t5, Fx.t9, Fx.t22, Fx.t23, Fx.t52, Fx.t53, Fx.t65, Fx.t67, Fx.t73, Fx.t123, Fx.t124, Fx.t125, Fx.t126, Fx.en36, Fx.en37, Fx.en38, Fx.en39, Fx.en40, Fx.en43, Fx.en44, drawT_done, drawT_step, drawT_both, List.cons_append, List.nil_append, rowO, List.drop_zero, u8T, beq_self_eq_true, hne]
      refine ⟨Nat.le_add_right _ _, ?_⟩
      refine kn05 ?_
      simp (config := { maxSteps := 1000000, implicitDefEqProofs := false }) only [-List.reduceReplicate, Nat.reduceBEq, renA, renL, renM, renO, evx, evs, evp, Eng.look, cst, cst1, putd, dstOk, params, loadx, partx, loI, hiI, bltx, mmI, boxx, srcx, calx, nilx, upd, del, resv, fillA, setMany, Nat.reduceLT, Nat.reduceLeDiff, Nat.reduceEqDiff, Nat.reduceAdd, Nat.reduceMul, Nat.reduceSub, reduceIte, reduceCtorEq, if_true, if_false, ite_true, ite_false, eq_self, forall_const, implies_true, Int.reduceLT, Int.reduceLE, Int.reduceToNat, Int.reduceAdd, Int.reduceSub, Int.reduceNeg, ne_eq, Int.reduceEq, Int.reduceNe, Int.reduceBEq, Int.reduceBNe, beq_self_eq_true, bne_self_eq_false, BitVec.reduceBEq, BitVec.reduceBNe, BitVec.reduceOfInt, BitVec.reduceSetWidth, wrD, engS0, engS1, engS2, engS3, engS4, engS5, engS6, engS7, engS8, engS9, engT0, engT1, engT2, Fx.t1, Fx.t3, Fx.t4, Fx.t5, Fx.t9, Fx.t22, Fx.t23, Fx.t52, Fx.t53, Fx.t65, Fx.t67, Fx.t73, Fx.t123, Fx.t124, Fx.t125, Fx.t126, Fx.en36, Fx.en37, Fx.en38, Fx.en39, Fx.en40, Fx.en43, Fx.en44, drawT_done, drawT_step, drawT_both, List.cons_append, List.nil_append, rowO, List.drop_zero, u8T, beq_self_eq_true, hne]
      exact fin
    · refine useRB (R := [(nx, rowO X sp1)]) (q.new _) (by omega) hw' hX ?_
      intro cap2 sp2
      simp (config := { maxSteps := 1000000, implicitDefEqProofs := false }) only [-List.reduceReplicate, Nat.reduceBEq, renA, renL, renM, renO, evx, evs, evp, Eng.look, cst, cst1, putd, dstOk, params, loadx, partx, loI, hiI, bltx, mmI, boxx, srcx, calx, nilx, upd, del, resv, fillA, setMany, Nat.reduceLT, Nat.reduceLeDiff, Nat.reduceEqDiff, Nat.reduceAdd, Nat.reduceMul, Nat.reduceSub, reduceIte, reduceCtorEq, if_true, if_false, ite_true, ite_false, eq_self, forall_const, implies_true, Int.reduceLT, Int.reduceLE, Int.reduceToNat, Int.reduceAdd, Int.reduceSub, Int.reduceNeg, ne_eq, Int.reduceEq, Int.reduceNe, Int.reduceBEq, Int.reduceBNe, beq_self_eq_true, bne_self_eq_false, BitVec.reduceBEq, BitVec.reduceBNe, BitVec.reduceOfInt, BitVec.reduceSetWidth, wrD, engS0, engS1, engS2, engS3, engS4, engS5, engS6, engS7, engS8, engS9, engT0, engT1, engT2, Fx.t1, Fx.t3, Fx.t4, Fx.t5, Fx.t9, Fx.t22, Fx.t23, Fx.t52, Fx.t53, Fx.t65, Fx.t67, Fx.t73, Fx.t123, Fx.t124, Fx.t125, Fx.t126, Fx.en36, Fx.en37, Fx.en38, Fx.en39, Fx.en40, Fx.en43, Fx.en44, drawT_done, drawT_step, drawT_both, List.cons_append, List.nil_append, rowO, List.drop_zero, u8T, beq_self_eq_true, hne]
      refine ⟨⟨Nat.le_add_right _ _, Nat.le_add_right _ _, ?_⟩, ⟨Nat.le_add_right _ _, Nat.le_add_right _ _, ?_⟩⟩
      · refine kn05 ?_
        simp (config := { maxSteps := 1000000, implicitDefEqProofs := false }) only [-List.reduceReplicate, Nat.reduceBEq, renA, renL, renM, renO, evx, evs, evp, Eng.look, cst, cst1, putd, dstOk, params, loadx, partx, loI, hiI, bltx, mmI, boxx, srcx, calx, nilx, upd, del, resv, fillA, setMany, Nat.reduceLT, Nat.reduceLeDiff, Nat.reduceEqDiff, Nat.reduceAdd, Nat.reduceMul, Nat.reduceSub, reduceIte, reduceCtorEq, if_true, if_false, ite_true, ite_false, eq_self, forall_const, implies_true, Int.reduceLT, Int.reduceLE, Int.reduceToNat, Int.reduceAdd, Int.reduceSub, Int.reduceNeg, ne_eq, Int.reduceEq, Int.reduceNe, Int.reduceBEq, Int.reduceBNe, beq_self_eq_true, bne_self_eq_false, BitVec.reduceBEq, BitVec.reduceBNe, BitVec.reduceOfInt, BitVec.reduceSetWidth, wrD, engS0, engS1, engS2, engS3, engS4, engS5, engS6, engS7, engS8, engS9, engT0, engT1, engT2, Fx.t1, Fx.t3, Fx.t4, Fx.t5, Fx.t9, Fx.t22, Fx.t23, Fx.t52, Fx.t53, Fx.t65, Fx.t67, Fx.t73, Fx.t123, Fx.t124, Fx.t125, Fx.t126, Fx.en36, Fx.en37, Fx.en38, Fx.en39, Fx.en40, Fx.en43, Fx.en44, drawT_done, drawT_step, drawT_both, List.cons_append, List.nil_append, rowO, List.drop_zero, u8T, beq_self_eq_true, hne]
        exact fin
      · refine kn05 ?_
        simp (config := { maxSteps := 1000000, implicitDefEqProofs := false }) only [-List.reduceReplicate, Nat.reduceBEq, renA, renL, renM, renO, evx, evs, evp, Eng.look, cst, cst1, putd, dstOk, params, loadx, partx, loI, hiI, bltx, mmI, boxx, srcx, calx, nilx, upd, del, resv, fillA, setMany, Nat.reduceLT, Nat.reduceLeDiff, Nat.reduceEqDiff, Nat.reduceAdd, Nat.reduceMul, Nat.reduceSub, reduceIte, reduceCtorEq, if_true, if_false, ite_true, ite_false, eq_self, forall_const, implies_true, Int.reduceLT, Int.reduceLE, Int.reduceToNat, Int.reduceAdd, Int.reduceSub, Int.reduceNeg, ne_eq, Int.reduceEq, Int.reduceNe, Int.reduceBEq, Int.reduceBNe, beq_self_eq_true, bne_self_eq_false, BitVec.reduceBEq, BitVec.reduceBNe, BitVec.reduceOfInt, BitVec.reduceSetWidth, wrD, engS0, engS1, engS2, engS3, engS4, engS5, engS6, engS7, engS8, engS9, engT0, engT1, engT2, Fx.t1, Fx.t3, Fx.t4, Fx.t5, Fx.t9, Fx.t22, Fx.t23, Fx.t52, Fx.t53, Fx.t65, Fx.t67, Fx.t73, Fx.t123, Fx.t124, Fx.t125, Fx.t126, Fx.en36, Fx.en37, Fx.en38, Fx.en39, Fx.en40, Fx.en43, Fx.en44, drawT_done, drawT_step, drawT_both, List.cons_append, List.nil_append, rowO, List.drop_zero, u8T, beq_self_eq_true, hne]
        exact fin
end Go.Proofs.Ytmnbbpckglppjaa
