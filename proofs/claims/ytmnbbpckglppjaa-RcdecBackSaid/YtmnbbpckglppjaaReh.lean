/- Coding bits: plain bits are coded. -/
import Derived.Test.YtmnbbpckglppjaaEng19
import Derived.Test.YtmnbbpckglppjaaEng26
import Derived.Test.YtmnbbpckglppjaaReg
import Derived.Test.YtmnbbpckglppjaaRdd
set_option linter.unusedVariables false
set_option linter.unusedSimpArgs false
set_option maxRecDepth 100000
namespace Go.Proofs.Ytmnbbpckglppjaa
open Go Go.Eng

theorem sclE_size : ∀ (f : Nat) (e : ES), 16777216 ≤ e.size.toNat * 256 ^ f → 16777216 ≤ (sclE f e).size.toNat
  | 0, e, h => by rw [Nat.pow_zero, Nat.mul_one] at h; exact h
  | f + 1, e, h => by
    rw [sclE]
    split
    · assumption
    · refine sclE_size f _ ?_
      rw [(putS_len _).2]
      show _ ≤ (e.size <<< 8).toNat * _
      rw [shl8 e.size (by omega), Nat.mul_assoc, show 256 * 256 ^ f = 256 ^ (f + 1) by rw [Nat.pow_succ, Nat.mul_comm]]
      exact h
theorem sclE_size3 (e : ES) (h : 1 ≤ e.size.toNat) : 16777216 ≤ (sclE 3 e).size.toNat := sclE_size 3 e (by show _ ≤ _ * 16777216; omega)
def pl1 (e : ES) (b : BitVec 32) : ES := ⟨e.low + ((e.size >>> 1) &&& -b).setWidth 64, e.size >>> 1, e.held, e.full, e.out⟩
def plB (v : BitVec 32) (n j : Nat) : BitVec 32 := (v >>> (n - 1 - j)) &&& 1#32
def plE (e : ES) (v : BitVec 32) (n : Nat) : Nat → ES
  | 0 => e
  | j + 1 => sclE 3 (pl1 (plE e v n j) (plB v n j))
def plO (v : BitVec 32) (n : Nat) : Nat → BitVec 32
  | 0 => 0#32
  | j + 1 => plO v n j <<< 1 ||| plB v n j
theorem plE_len (e : ES) (v : BitVec 32) (n : Nat) : ∀ j, (plE e v n j).out.length + (plE e v n j).full ≤ e.out.length + e.full + 3 * j
  | 0 => Nat.le_refl _
  | j + 1 => by
    have h1 := sclE_len 3 (pl1 (plE e v n j) (plB v n j))
    have h2 := plE_len e v n j
    have h3 : (pl1 (plE e v n j) (plB v n j)).out = (plE e v n j).out := rfl
    have h4 : (pl1 (plE e v n j) (plB v n j)).full = (plE e v n j).full := rfl
    rw [h3, h4] at h1
    rw [plE]; omega
theorem plE_size (e : ES) (v : BitVec 32) (n : Nat) (h : 16777216 ≤ e.size.toNat) : ∀ j, 16777216 ≤ (plE e v n j).size.toNat
  | 0 => h
  | j + 1 => by
    have := plE_size e v n h j
    have := half_nat (plE e v n j).size
    exact sclE_size3 _ (by show 1 ≤ ((plE e v n j).size >>> 1).toNat; omega)
set_option maxHeartbeats 2000000 in
theorem plEOk (e : ES) (hb : e.out.length + e.full + 99 ≤ 1000000) (hr : 16777216 ≤ e.size.toNat) (v : BitVec 32) (n : Int) :
    encT.Ok Try.prog 42 [.int .u32 (v.toNat : Int), .int .i64 n] (.int .u32 ((plO v (nB n) (nB n)).toNat : Int)) e (plE e v (nB n) (nB n)) := by
  intro x hx
  have hpos := SlT.pos hx
  have hne : 0 ≠ x.2.2 := by omega
  have hmin := nB_min n
  have hN := nB_le n
  refine fn_okG Try.func42 rfl (by show 3 ≤ _; decide) ?_
  generalize hNn : nB n = N at *
  have wN : IntKind.i64.wrap ((N : Int) - 1) = (N : Int) - 1 := by rw [wrap_i64] <;> omega
  simp (config := { maxSteps := 1000000, implicitDefEqProofs := false }) only [-List.reduceReplicate, Nat.reduceBEq, renA, renL, renM, renO, evx, evs, evp, Eng.look, cst, cst1, putd, dstOk, params, loadx, partx, loI, hiI, bltx, mmI, boxx, srcx, calx, nilx, upd, del, resv, fillA, setMany, Nat.reduceLT, Nat.reduceLeDiff, Nat.reduceEqDiff, Nat.reduceAdd, Nat.reduceMul, Nat.reduceSub, reduceIte, reduceCtorEq, if_true, if_false, ite_true, ite_false, eq_self, forall_const, implies_true, Int.reduceLT, Int.reduceLE, Int.reduceToNat, Int.reduceAdd, Int.reduceSub, Int.reduceNeg, ne_eq, Int.reduceEq, Int.reduceNe, Int.reduceBEq, Int.reduceBNe, beq_self_eq_true, bne_self_eq_false, BitVec.reduceBEq, BitVec.reduceBNe, BitVec.reduceOfInt, BitVec.reduceSetWidth, wrD, engS0, engS1, engS2, engS3, engS4, engS5, engS6, engS7, engS8, engS9, engT0, engT1, engT2, Fx.t1, Fx.t3, Fx.t4, Fx.t5, Fx.t22, Fx.t23, Fx.t53, Fx.t65, Fx.t123, Fx.t124, Fx.en79, Try.results42, Try.ntmps42, encT_obj, hmin, wN]
  refine LoopOk.upX (fun j (z : Option (Nat × List Value)) => memQ e (plE e v N j) z) N
    (fun j z => ([(8, .int .i64 ((N : Int) - 1 - j)), (7, .int .u32 ((plO v N j).toNat : Int)), (1, .int .u32 (v.toNat : Int)), (0, .ptr 0 0)], memE x (plE e v N j) z)) none rfl ?_ ?_
  · exact Le.sameT (Nat.le_refl _) ⟨by simp [Eng.look], rfl, rfl, rfl, trivial⟩ (memSame_slf (nodupE hx e none)) (nodupE hx e none)
  rintro j z ⟨hj, q0⟩
  have hlen := plE_len e v N j
  have hsz := plE_size e v N hr j
  have hh := half_nat (plE e v N j).size
  have e1 : plE e v N (j + 1) = sclE 3 (pl1 (plE e v N j) (plB v N j)) := rfl
  have e2 : plO v N (j + 1) = plO v N j <<< 1 ||| plB v N j := rfl
  rcases Nat.lt_or_ge j N with h | h
  · have g1 : decide ((N : Int) - 1 - (j : Int) ≥ 0) = true := by simp; omega
    have wi : IntKind.i64.wrap ((N : Int) - 1 - (j : Int) - 1) = (N : Int) - 1 - ((j + 1 : Nat) : Int) := by rw [wrap_i64] <;> omega
    have hi : (N : Int) - 1 - (j : Int) = ((N - 1 - j : Nat) : Int) := by omega
    have hS := sclEOk (pl1 (plE e v N j) (plB v N j)) (by show (plE e v N j).out.length + (plE e v N j).full + 3 ≤ _; omega) (by show 1 ≤ ((plE e v N j).size >>> 1).toNat; omega)
    rw [← e1] at hS
    rw [hi] at g1 wi
    have hb1 : (v >>> (N - 1 - j)) &&& 1#32 = plB v N j := rfl
    rcases z with _ | ⟨cap, sp⟩
    · simp (config := { maxSteps := 1000000, implicitDefEqProofs := false }) only [-List.reduceReplicate, Nat.reduceBEq, renA, renL, renM, renO, evx, evs, evp, Eng.look, cst, cst1, putd, dstOk, params, loadx, partx, loI, hiI, bltx, mmI, boxx, srcx, calx, nilx, upd, del, resv, fillA, setMany, Nat.reduceLT, Nat.reduceLeDiff, Nat.reduceEqDiff, Nat.reduceAdd, Nat.reduceMul, Nat.reduceSub, reduceIte, reduceCtorEq, if_true, if_false, ite_true, ite_false, eq_self, forall_const, implies_true, Int.reduceLT, Int.reduceLE, Int.reduceToNat, Int.reduceAdd, Int.reduceSub, Int.reduceNeg, ne_eq, Int.reduceEq, Int.reduceNe, Int.reduceBEq, Int.reduceBNe, beq_self_eq_true, bne_self_eq_false, BitVec.reduceBEq, BitVec.reduceBNe, BitVec.reduceOfInt, BitVec.reduceSetWidth, wrD, engS0, engS1, engS2, engS3, engS4, engS5, engS6, engS7, engS8, engS9, engT0, engT1, engT2, Fx.t1, Fx.t3, Fx.t4, Fx.t5, Fx.t22, Fx.t23, Fx.t53, Fx.t65, Fx.t123, Fx.t124, Fx.en79, memE, encO, hi, g1, hb1]
      refine ⟨Fx.mixed, .inr (.inl ⟨[(0, false), (1, false), (2, false), (3, false), (4, false), (5, false), (6, false), (7, false), (8, false), (9, false), (10, false), (11, false), (12, false), (13, false), (14, false), (15, true)], [0], [15], [3, 7], by kernel_rfl, by kernel_rfl, (fun n hn => by cases List.mem_singleton.1 hn; exact ⟨rfl, rfl⟩), ?_⟩)⟩
      simp (config := { maxSteps := 1000000, implicitDefEqProofs := false }) only [-List.reduceReplicate, Nat.reduceBEq, renA, renL, renM, renO, evx, evs, evp, Eng.look, cst, cst1, putd, dstOk, params, loadx, partx, loI, hiI, bltx, mmI, boxx, srcx, calx, nilx, upd, del, resv, fillA, setMany, Nat.reduceLT, Nat.reduceLeDiff, Nat.reduceEqDiff, Nat.reduceAdd, Nat.reduceMul, Nat.reduceSub, reduceIte, reduceCtorEq, if_true, if_false, ite_true, ite_false, eq_self, forall_const, implies_true, Int.reduceLT, Int.reduceLE, Int.reduceToNat, Int.reduceAdd, Int.reduceSub, Int.reduceNeg, ne_eq, Int.reduceEq, Int.reduceNe, Int.reduceBEq, Int.reduceBNe, beq_self_eq_true, bne_self_eq_false, BitVec.reduceBEq, BitVec.reduceBNe, BitVec.reduceOfInt, BitVec.reduceSetWidth, wrD, engS0, engS1, engS2, engS3, engS4, engS5, engS6, engS7, engS8, engS9, engT0, engT1, engT2, Fx.t1, Fx.t3, Fx.t4, Fx.t5, Fx.t22, Fx.t23, Fx.t53, Fx.t65, Fx.t123, Fx.t124, Fx.en79, hb1]
      refine CallG.weak (hS x (SlT.start_of hx q0)) ?_
      rintro v' m nx ⟨rfl, ⟨c0, rfl, rfl⟩ | ⟨cap, sp, c1, c2, rfl, rfl⟩⟩
      · simp (config := { maxSteps := 1000000, implicitDefEqProofs := false }) only [-List.reduceReplicate, Nat.reduceBEq, renA, renL, renM, renO, evx, evs, evp, Eng.look, cst, cst1, putd, dstOk, params, loadx, partx, loI, hiI, bltx, mmI, boxx, srcx, calx, nilx, upd, del, resv, fillA, setMany, Nat.reduceLT, Nat.reduceLeDiff, Nat.reduceEqDiff, Nat.reduceAdd, Nat.reduceMul, Nat.reduceSub, reduceIte, reduceCtorEq, if_true, if_false, ite_true, ite_false, eq_self, forall_const, implies_true, Int.reduceLT, Int.reduceLE, Int.reduceToNat, Int.reduceAdd, Int.reduceSub, Int.reduceNeg, ne_eq, Int.reduceEq, Int.reduceNe, Int.reduceBEq, Int.reduceBNe, beq_self_eq_true, bne_self_eq_false, BitVec.reduceBEq, BitVec.reduceBNe, BitVec.reduceOfInt, BitVec.reduceSetWidth, wrD, engS0, engS1, engS2, engS3, engS4, engS5, engS6, engS7, engS8, engS9, engT0, engT1, engT2, Fx.t1, Fx.t3, Fx.t4, Fx.t5, Fx.t22, Fx.t23, Fx.t53, Fx.t65, Fx.t123, Fx.t124, Fx.en79, wi]
        exact UpX_normal h none (c0.trans q0) (Le.sameT (Nat.le_refl _) ⟨rfl, rfl, rfl, rfl, trivial⟩ (memSame_slf (nodupE hx _ none)) (nodupE hx _ none))
      · simp (config := { maxSteps := 1000000, implicitDefEqProofs := false }) only [-List.reduceReplicate, Nat.reduceBEq, renA, renL, renM, renO, evx, evs, evp, Eng.look, cst, cst1, putd, dstOk, params, loadx, partx, loI, hiI, bltx, mmI, boxx, srcx, calx, nilx, upd, del, resv, fillA, setMany, Nat.reduceLT, Nat.reduceLeDiff, Nat.reduceEqDiff, Nat.reduceAdd, Nat.reduceMul, Nat.reduceSub, reduceIte, reduceCtorEq, if_true, if_false, ite_true, ite_false, eq_self, forall_const, implies_true, Int.reduceLT, Int.reduceLE, Int.reduceToNat, Int.reduceAdd, Int.reduceSub, Int.reduceNeg, ne_eq, Int.reduceEq, Int.reduceNe, Int.reduceBEq, Int.reduceBNe, beq_self_eq_true, bne_self_eq_false, BitVec.reduceBEq, BitVec.reduceBNe, BitVec.reduceOfInt, BitVec.reduceSetWidth, wrD, engS0, engS1, engS2, engS3, engS4, engS5, engS6, engS7, engS8, engS9, engT0, engT1, engT2, Fx.t1, Fx.t3, Fx.t4, Fx.t5, Fx.t22, Fx.t23, Fx.t53, Fx.t65, Fx.t123, Fx.t124, Fx.en79, wi]
        exact UpX_normal h (some (cap, sp)) ⟨c1, c2⟩ (Le.sameT (Nat.le_succ _) ⟨rfl, rfl, rfl, rfl, trivial⟩ (memSame_slf (nodupE hx _ (some (cap, sp)))) (nodupE hx _ (some (cap, sp))))
    · simp (config := { maxSteps := 1000000, implicitDefEqProofs := false }) only [-List.reduceReplicate, Nat.reduceBEq, renA, renL, renM, renO, evx, evs, evp, Eng.look, cst, cst1, putd, dstOk, params, loadx, partx, loI, hiI, bltx, mmI, boxx, srcx, calx, nilx, upd, del, resv, fillA, setMany, Nat.reduceLT, Nat.reduceLeDiff, Nat.reduceEqDiff, Nat.reduceAdd, Nat.reduceMul, Nat.reduceSub, reduceIte, reduceCtorEq, if_true, if_false, ite_true, ite_false, eq_self, forall_const, implies_true, Int.reduceLT, Int.reduceLE, Int.reduceToNat, Int.reduceAdd, Int.reduceSub, Int.reduceNeg, ne_eq, Int.reduceEq, Int.reduceNe, Int.reduceBEq, Int.reduceBNe, beq_self_eq_true, bne_self_eq_false, BitVec.reduceBEq, BitVec.reduceBNe, BitVec.reduceOfInt, BitVec.reduceSetWidth, wrD, engS0, engS1, engS2, engS3, engS4, engS5, engS6, engS7, engS8, engS9, engT0, engT1, engT2, Fx.t1, Fx.t3, Fx.t4, Fx.t5, Fx.t22, Fx.t23, Fx.t53, Fx.t65, Fx.t123, Fx.t124, Fx.en79, memE, encO, hi, g1, hb1]
      refine ⟨Fx.mixed, .inr (.inl ⟨[(0, false), (1, false), (2, false), (3, false), (4, false), (5, false), (6, false), (7, false), (8, false), (9, false), (10, false), (11, false), (12, false), (13, false), (14, false), (15, true)], [0], [15], [3, 7], by kernel_rfl, by kernel_rfl, (fun n hn => by cases List.mem_singleton.1 hn; exact ⟨rfl, rfl⟩), ?_⟩)⟩
      simp (config := { maxSteps := 1000000, implicitDefEqProofs := false }) only [-List.reduceReplicate, Nat.reduceBEq, renA, renL, renM, renO, evx, evs, evp, Eng.look, cst, cst1, putd, dstOk, params, loadx, partx, loI, hiI, bltx, mmI, boxx, srcx, calx, nilx, upd, del, resv, fillA, setMany, Nat.reduceLT, Nat.reduceLeDiff, Nat.reduceEqDiff, Nat.reduceAdd, Nat.reduceMul, Nat.reduceSub, reduceIte, reduceCtorEq, if_true, if_false, ite_true, ite_false, eq_self, forall_const, implies_true, Int.reduceLT, Int.reduceLE, Int.reduceToNat, Int.reduceAdd, Int.reduceSub, Int.reduceNeg, ne_eq, Int.reduceEq, Int.reduceNe, Int.reduceBEq, Int.reduceBNe, beq_self_eq_true, bne_self_eq_false, BitVec.reduceBEq, BitVec.reduceBNe, BitVec.reduceOfInt, BitVec.reduceSetWidth, wrD, engS0, engS1, engS2, engS3, engS4, engS5, engS6, engS7, engS8, engS9, engT0, engT1, engT2, Fx.t1, Fx.t3, Fx.t4, Fx.t5, Fx.t22, Fx.t23, Fx.t53, Fx.t65, Fx.t123, Fx.t124, Fx.en79, hb1]
      have hr1 : Eng.look ((0, encO (.sl x.2.2 0 (plE e v N j).out.length cap) (pl1 (plE e v N j) (plB v N j))) :: [(x.2.2, rowO (plE e v N j).out sp)]) x.2.2 = some (rowO (plE e v N j).out sp) := by simp only [Eng.look, if_neg hne, if_true]
      refine SlT.useS (T := encT) (a := 0) (n := x.2.2) (args0 := []) hS (fun _ => rfl) (fun _ => rfl) hne rfl hr1 q0.1 q0.2 rfl rfl ?_ ?_
      · intro c0
        have c1 : (plE e v N (j + 1)).out = (plE e v N j).out := c0
        simp (config := { maxSteps := 1000000, implicitDefEqProofs := false }) only [-List.reduceReplicate, Nat.reduceBEq, renA, renL, renM, renO, evx, evs, evp, Eng.look, cst, cst1, putd, dstOk, params, loadx, partx, loI, hiI, bltx, mmI, boxx, srcx, calx, nilx, upd, del, resv, fillA, setMany, Nat.reduceLT, Nat.reduceLeDiff, Nat.reduceEqDiff, Nat.reduceAdd, Nat.reduceMul, Nat.reduceSub, reduceIte, reduceCtorEq, if_true, if_false, ite_true, ite_false, eq_self, forall_const, implies_true, Int.reduceLT, Int.reduceLE, Int.reduceToNat, Int.reduceAdd, Int.reduceSub, Int.reduceNeg, ne_eq, Int.reduceEq, Int.reduceNe, Int.reduceBEq, Int.reduceBNe, beq_self_eq_true, bne_self_eq_false, BitVec.reduceBEq, BitVec.reduceBNe, BitVec.reduceOfInt, BitVec.reduceSetWidth, wrD, engS0, engS1, engS2, engS3, engS4, engS5, engS6, engS7, engS8, engS9, engT0, engT1, engT2, Fx.t1, Fx.t3, Fx.t4, Fx.t5, Fx.t22, Fx.t23, Fx.t53, Fx.t65, Fx.t123, Fx.t124, Fx.en79, wi]
        refine UpX_normal h (some (cap, sp)) ⟨by rw [c1]; exact q0.1, q0.2⟩ ?_
        refine Le.sameT (Nat.le_succ _) ⟨rfl, rfl, rfl, rfl, trivial⟩ ⟨?_, ?_, trivial⟩ (nodupE hx _ (some (cap, sp)))
        · rw [c1]; rfl
        · rw [c1]; simp only [Eng.look, if_neg hne, if_true]; rfl
      · intro cap2 sp2 c1 c2
        simp (config := { maxSteps := 1000000, implicitDefEqProofs := false }) only [-List.reduceReplicate, Nat.reduceBEq, renA, renL, renM, renO, evx, evs, evp, Eng.look, cst, cst1, putd, dstOk, params, loadx, partx, loI, hiI, bltx, mmI, boxx, srcx, calx, nilx, upd, del, resv, fillA, setMany, Nat.reduceLT, Nat.reduceLeDiff, Nat.reduceEqDiff, Nat.reduceAdd, Nat.reduceMul, Nat.reduceSub, reduceIte, reduceCtorEq, if_true, if_false, ite_true, ite_false, eq_self, forall_const, implies_true, Int.reduceLT, Int.reduceLE, Int.reduceToNat, Int.reduceAdd, Int.reduceSub, Int.reduceNeg, ne_eq, Int.reduceEq, Int.reduceNe, Int.reduceBEq, Int.reduceBNe, beq_self_eq_true, bne_self_eq_false, BitVec.reduceBEq, BitVec.reduceBNe, BitVec.reduceOfInt, BitVec.reduceSetWidth, wrD, engS0, engS1, engS2, engS3, engS4, engS5, engS6, engS7, engS8, engS9, engT0, engT1, engT2, Fx.t1, Fx.t3, Fx.t4, Fx.t5, Fx.t22, Fx.t23, Fx.t53, Fx.t65, Fx.t123, Fx.t124, Fx.en79, wi]
        exact UpX_normal h (some (cap2, sp2)) ⟨c1, c2⟩ (leNewT hpos ⟨rfl, rfl, rfl, by simp only [renA, rfNew hpos]; rfl, trivial⟩)
  · have hj' : j = N := by omega
    have g1 : decide ((N : Int) - 1 - (j : Int) ≥ 0) = false := by simp; omega
    have hv : plO v N N = plO v N j := by rw [hj']
    have hy : plE e v N N = plE e v N j := by rw [hj']
    rw [hv, hy]
    rcases z with _ | ⟨cap, sp⟩
    · simp (config := { maxSteps := 1000000, implicitDefEqProofs := false }) only [-List.reduceReplicate, Nat.reduceBEq, renA, renL, renM, renO, evx, evs, evp, Eng.look, cst, cst1, putd, dstOk, params, loadx, partx, loI, hiI, bltx, mmI, boxx, srcx, calx, nilx, upd, del, resv, fillA, setMany, Nat.reduceLT, Nat.reduceLeDiff, Nat.reduceEqDiff, Nat.reduceAdd, Nat.reduceMul, Nat.reduceSub, reduceIte, reduceCtorEq, if_true, if_false, ite_true, ite_false, eq_self, forall_const, implies_true, Int.reduceLT, Int.reduceLE, Int.reduceToNat, Int.reduceAdd, Int.reduceSub, Int.reduceNeg, ne_eq, Int.reduceEq, Int.reduceNe, Int.reduceBEq, Int.reduceBNe, beq_self_eq_true, bne_self_eq_false, BitVec.reduceBEq, BitVec.reduceBNe, BitVec.reduceOfInt, BitVec.reduceSetWidth, wrD, engS0, engS1, engS2, engS3, engS4, engS5, engS6, engS7, engS8, engS9, engT0, engT1, engT2, Fx.t1, Fx.t3, Fx.t4, Fx.t5, Fx.t22, Fx.t23, Fx.t53, Fx.t65, Fx.t123, Fx.t124, Fx.en79, memE, encO, g1]
      exact SlT.finU' hx q0 (fun _ => rfl) rfl (SlT.looks hx _)
    · simp (config := { maxSteps := 1000000, implicitDefEqProofs := false }) only [-List.reduceReplicate, Nat.reduceBEq, renA, renL, renM, renO, evx, evs, evp, Eng.look, cst, cst1, putd, dstOk, params, loadx, partx, loI, hiI, bltx, mmI, boxx, srcx, calx, nilx, upd, del, resv, fillA, setMany, Nat.reduceLT, Nat.reduceLeDiff, Nat.reduceEqDiff, Nat.reduceAdd, Nat.reduceMul, Nat.reduceSub, reduceIte, reduceCtorEq, if_true, if_false, ite_true, ite_false, eq_self, forall_const, implies_true, Int.reduceLT, Int.reduceLE, Int.reduceToNat, Int.reduceAdd, Int.reduceSub, Int.reduceNeg, ne_eq, Int.reduceEq, Int.reduceNe, Int.reduceBEq, Int.reduceBNe, beq_self_eq_true, bne_self_eq_false, BitVec.reduceBEq, BitVec.reduceBNe, BitVec.reduceOfInt, BitVec.reduceSetWidth, wrD, engS0, engS1, engS2, engS3, engS4, engS5, engS6, engS7, engS8, engS9, engT0, engT1, engT2, Fx.t1, Fx.t3, Fx.t4, Fx.t5, Fx.t22, Fx.t23, Fx.t53, Fx.t65, Fx.t123, Fx.t124, Fx.en79, memE, encO, g1]
      exact SlT.finC hx (fun _ => rfl) (n := x.2.2) (Ne.symm hne) rfl (by simp [Eng.look, hne]; rfl) q0.1 q0.2
end Go.Proofs.Ytmnbbpckglppjaa
