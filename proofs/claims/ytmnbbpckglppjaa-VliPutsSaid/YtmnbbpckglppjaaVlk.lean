/- Numbers of a variable length: the law on what is put. -/
import Derived.Test.YtmnbbpckglppjaaEng19
import Derived.Test.YtmnbbpckglppjaaEng26
import Derived.Test.YtmnbbpckglppjaaVli
set_option linter.unusedVariables false
set_option linter.unusedSimpArgs false
set_option maxRecDepth 100000
namespace Go.Proofs.Ytmnbbpckglppjaa
open Go Go.Eng

theorem digs_same : ∀ (f g : Nat) (m : BitVec 64), 1 ≤ f → f ≤ g → m.toNat < 128 ^ f → digs g m = digs f m
  | 0, g, m, h, _, _ => by omega
  | f + 1, 0, m, _, h, _ => by omega
  | f + 1, g + 1, m, _, hg, hm => by
    rw [digs, digs]
    split
    · rename_i hc
      have hs : (m >>> 7).toNat = m.toNat / 128 := by rw [BitVec.toNat_ushiftRight, Nat.shiftRight_eq_div_pow]
      have hf1 : 1 ≤ f := by
        rcases Nat.eq_zero_or_pos f with h0 | h0
        · subst h0; omega
        · exact h0
      rw [digs_same f g (m >>> 7) hf1 (by omega) (by rw [hs]; rw [Nat.pow_succ] at hm; exact Nat.div_lt_of_lt_mul (by rw [Nat.mul_comm]; exact hm))]
    · rfl
theorem put_got (n : BitVec 64) (hn : n.toNat < 9223372036854775808) (more : List (BitVec 8)) : gRes (putX n ++ more) 9 0 = (n, ((putX n).length : Int), 0) := by
  have h9 : n.toNat < 128 ^ 9 := hn
  have hd : digs 10 n = digs 9 n := digs_same 9 10 n (by decide) (by decide) h9
  have hX : putX n = (digs 9 n).map byD := by rw [putX, hd]
  obtain ⟨r, h1, h2⟩ := get_digs (putX n ++ more) 9 0 n 9 (by decide) (by decide) h9 (Nat.le_refl _) (.inl rfl) (fun j hj => by
    rw [hX]
    have hl : j < ((digs 9 n).map byD).length := by rw [List.length_map]; exact hj
    refine ⟨by rw [List.length_append]; omega, ?_⟩
    rw [Nat.zero_add, List.getD_eq_getElem?_getD, List.getElem?_append_left hl, ← List.getD_eq_getElem?_getD])
  rw [h1]
  have hr : r = n := by
    refine BitVec.eq_of_toNat_eq ?_
    rw [h2]
    show 0 + n.toNat * 1 = n.toNat
    omega
  have hl : (putX n).length = (digs 9 n).length := by rw [hX, List.length_map]
  rw [hr, hl]
  congr 2
  omega
set_option maxHeartbeats 2000000 in
theorem vliPutsOk (n : BitVec 64) (more : List (BitVec 8)) (hb : more.length ≤ maxLen) :
    CallOk Try.prog 3 [.int .u64 (n.toNat : Int), .ro more.length (bvs .u8 more)] (fun _ => true) [] 0 fun v _ _ => v = .bool true := by
  refine fn_ok Try.func3 rfl (by show 2 ≤ _; decide) ?_
  have fin : ∀ {m : Mem} {nx : Nat}, Eng.Fin 0 (fun _ => true) m nx (fun v _ _ => v = .bool true) (.bool true) := Fin.flatv (fun _ => rfl) (fun _ => rfl) rfl
  rcases Decidable.em (50 < more.length) with h1 | h1
  · have e1 : decide ((more.length : Int) > 50) = true := by simp; omega
    simp (config := { maxSteps := 1000000, implicitDefEqProofs := false }) only [-List.reduceReplicate, Nat.reduceBEq, renA, renL, renM, renO, evx, evs, evp, Eng.look, cst, cst1, putd, dstOk, params, loadx, partx, loI, hiI, bltx, mmI, boxx, srcx, calx, nilx, upd, del, resv, fillA, setMany, Nat.reduceLT, Nat.reduceLeDiff, Nat.reduceEqDiff, Nat.reduceAdd, Nat.reduceMul, Nat.reduceSub, reduceIte, reduceCtorEq, if_true, if_false, ite_true, ite_false, eq_self, forall_const, implies_true, Int.reduceLT, Int.reduceLE, Int.reduceToNat, Int.reduceAdd, Int.reduceSub, Int.reduceNeg, ne_eq, Int.reduceEq, Int.reduceNe, Int.reduceBEq, Int.reduceBNe, beq_self_eq_true, bne_self_eq_false, BitVec.reduceBEq, BitVec.reduceBNe, BitVec.reduceOfInt, BitVec.reduceSetWidth, wrD, engS0, engS1, engS2, engS3, engS4, engS5, engS6, engS7, engS8, engS9, engU0, engT0, engT1, engT2, Fx.t1, Fx.t2, Fx.t3, Fx.t4, Fx.t5, Fx.t9, Fx.t22, Fx.t23, Fx.t25, Fx.en14, Fx.en15, Fx.en16, Fx.en17, Try.results3, Try.ntmps3, e1]
    refine kn04 ?_
    simp (config := { maxSteps := 1000000, implicitDefEqProofs := false }) only [-List.reduceReplicate, Nat.reduceBEq, renA, renL, renM, renO, evx, evs, evp, Eng.look, cst, cst1, putd, dstOk, params, loadx, partx, loI, hiI, bltx, mmI, boxx, srcx, calx, nilx, upd, del, resv, fillA, setMany, Nat.reduceLT, Nat.reduceLeDiff, Nat.reduceEqDiff, Nat.reduceAdd, Nat.reduceMul, Nat.reduceSub, reduceIte, reduceCtorEq, if_true, if_false, ite_true, ite_false, eq_self, forall_const, implies_true, Int.reduceLT, Int.reduceLE, Int.reduceToNat, Int.reduceAdd, Int.reduceSub, Int.reduceNeg, ne_eq, Int.reduceEq, Int.reduceNe, Int.reduceBEq, Int.reduceBNe, beq_self_eq_true, bne_self_eq_false, BitVec.reduceBEq, BitVec.reduceBNe, BitVec.reduceOfInt, BitVec.reduceSetWidth, wrD, engS0, engS1, engS2, engS3, engS4, engS5, engS6, engS7, engS8, engS9, engU0, engT0, engT1, engT2, Fx.t1, Fx.t2, Fx.t3, Fx.t4, Fx.t5, Fx.t9, Fx.t22, Fx.t23, Fx.t25, Fx.en14, Fx.en15, Fx.en16, Fx.en17]
    exact fin
  have e1 : decide ((more.length : Int) > 50) = false := by simp; omega
  rcases Nat.lt_or_ge n.toNat 9223372036854775808 with hn | hn
  · have e2 : decide ((n.toNat : Int) > 9223372036854775807) = false := by simp; omega
    have hG := vgetOk (putX n ++ more) (by rw [List.length_append]; have := digs_len 10 n; rw [putX, List.length_map]; omega)
    rw [put_got n hn more] at hG
    have h9 : n.toNat < 128 ^ 9 := hn
    have hR := rputOk 10 n (by decide) (by decide) (Nat.lt_of_lt_of_le h9 (by decide))
    have hl10 : (putX n).length ≤ 10 := by rw [putX, List.length_map]; exact digs_len 10 n
    rw [rput_eq, ← putX] at hR
    simp (config := { maxSteps := 1000000, implicitDefEqProofs := false }) only [-List.reduceReplicate, Nat.reduceBEq, renA, renL, renM, renO, evx, evs, evp, Eng.look, cst, cst1, putd, dstOk, params, loadx, partx, loI, hiI, bltx, mmI, boxx, srcx, calx, nilx, upd, del, resv, fillA, setMany, Nat.reduceLT, Nat.reduceLeDiff, Nat.reduceEqDiff, Nat.reduceAdd, Nat.reduceMul, Nat.reduceSub, reduceIte, reduceCtorEq, if_true, if_false, ite_true, ite_false, eq_self, forall_const, implies_true, Int.reduceLT, Int.reduceLE, Int.reduceToNat, Int.reduceAdd, Int.reduceSub, Int.reduceNeg, ne_eq, Int.reduceEq, Int.reduceNe, Int.reduceBEq, Int.reduceBNe, beq_self_eq_true, bne_self_eq_false, BitVec.reduceBEq, BitVec.reduceBNe, BitVec.reduceOfInt, BitVec.reduceSetWidth, wrD, engS0, engS1, engS2, engS3, engS4, engS5, engS6, engS7, engS8, engS9, engU0, engT0, engT1, engT2, Fx.t1, Fx.t2, Fx.t3, Fx.t4, Fx.t5, Fx.t9, Fx.t22, Fx.t23, Fx.t25, Fx.en14, Fx.en15, Fx.en16, Fx.en17, Try.results3, Try.ntmps3, e1]
    refine (vputOk n hn).newE rfl ?_
    rintro v m' nx' ⟨cap, sp, c1, c2, rfl, rfl, rfl⟩
    simp only [renM, rowO_ren, renA, renL]
    simp (config := { maxSteps := 1000000, implicitDefEqProofs := false }) only [-List.reduceReplicate, Nat.reduceBEq, renA, renL, renM, renO, evx, evs, evp, Eng.look, cst, cst1, putd, dstOk, params, loadx, partx, loI, hiI, bltx, mmI, boxx, srcx, calx, nilx, upd, del, resv, fillA, setMany, Nat.reduceLT, Nat.reduceLeDiff, Nat.reduceEqDiff, Nat.reduceAdd, Nat.reduceMul, Nat.reduceSub, reduceIte, reduceCtorEq, if_true, if_false, ite_true, ite_false, eq_self, forall_const, implies_true, Int.reduceLT, Int.reduceLE, Int.reduceToNat, Int.reduceAdd, Int.reduceSub, Int.reduceNeg, ne_eq, Int.reduceEq, Int.reduceNe, Int.reduceBEq, Int.reduceBNe, beq_self_eq_true, bne_self_eq_false, BitVec.reduceBEq, BitVec.reduceBNe, BitVec.reduceOfInt, BitVec.reduceSetWidth, wrD, engS0, engS1, engS2, engS3, engS4, engS5, engS6, engS7, engS8, engS9, engU0, engT0, engT1, engT2, Fx.t1, Fx.t2, Fx.t3, Fx.t4, Fx.t5, Fx.t9, Fx.t22, Fx.t23, Fx.t25, Fx.en14, Fx.en15, Fx.en16, Fx.en17, e2]
    refine ⟨.inr trivial, ?_⟩
    simp (config := { maxSteps := 1000000, implicitDefEqProofs := false }) only [-List.reduceReplicate, Nat.reduceBEq, renA, renL, renM, renO, evx, evs, evp, Eng.look, cst, cst1, putd, dstOk, params, loadx, partx, loI, hiI, bltx, mmI, boxx, srcx, calx, nilx, upd, del, resv, fillA, setMany, Nat.reduceLT, Nat.reduceLeDiff, Nat.reduceEqDiff, Nat.reduceAdd, Nat.reduceMul, Nat.reduceSub, reduceIte, reduceCtorEq, if_true, if_false, ite_true, ite_false, eq_self, forall_const, implies_true, Int.reduceLT, Int.reduceLE, Int.reduceToNat, Int.reduceAdd, Int.reduceSub, Int.reduceNeg, ne_eq, Int.reduceEq, Int.reduceNe, Int.reduceBEq, Int.reduceBNe, beq_self_eq_true, bne_self_eq_false, BitVec.reduceBEq, BitVec.reduceBNe, BitVec.reduceOfInt, BitVec.reduceSetWidth, wrD, engS0, engS1, engS2, engS3, engS4, engS5, engS6, engS7, engS8, engS9, engU0, engT0, engT1, engT2, Fx.t1, Fx.t2, Fx.t3, Fx.t4, Fx.t5, Fx.t9, Fx.t22, Fx.t23, Fx.t25, Fx.en14, Fx.en15, Fx.en16, Fx.en17, rowO]
    refine ⟨by rw [takeA', bvs_length], by rw [takeA']; exact one1_bvs _ _, ?_⟩
    rw [takeA']
    refine appk_bvs (k := .u8) (x := ([] : List (BitVec 8))) (y := putX n) (sp := []) (cap := 0) rfl rfl rfl (by decide) (by decide) (by rw [List.length_nil]; omega) ?_
    intro cap1 sp1 d1 d2
    rw [List.nil_append] at d1 ⊢
    simp (config := { maxSteps := 1000000, implicitDefEqProofs := false }) only [-List.reduceReplicate, Nat.reduceBEq, renA, renL, renM, renO, evx, evs, evp, Eng.look, cst, cst1, putd, dstOk, params, loadx, partx, loI, hiI, bltx, mmI, boxx, srcx, calx, nilx, upd, del, resv, fillA, setMany, Nat.reduceLT, Nat.reduceLeDiff, Nat.reduceEqDiff, Nat.reduceAdd, Nat.reduceMul, Nat.reduceSub, reduceIte, reduceCtorEq, if_true, if_false, ite_true, ite_false, eq_self, forall_const, implies_true, Int.reduceLT, Int.reduceLE, Int.reduceToNat, Int.reduceAdd, Int.reduceSub, Int.reduceNeg, ne_eq, Int.reduceEq, Int.reduceNe, Int.reduceBEq, Int.reduceBNe, beq_self_eq_true, bne_self_eq_false, BitVec.reduceBEq, BitVec.reduceBNe, BitVec.reduceOfInt, BitVec.reduceSetWidth, wrD, engS0, engS1, engS2, engS3, engS4, engS5, engS6, engS7, engS8, engS9, engU0, engT0, engT1, engT2, Fx.t1, Fx.t2, Fx.t3, Fx.t4, Fx.t5, Fx.t9, Fx.t22, Fx.t23, Fx.t25, Fx.en14, Fx.en15, Fx.en16, Fx.en17]
    refine ⟨by rw [List.take_length], ?_⟩
    rw [List.take_length]
    refine appk_bvs (k := .u8) (x := putX n) (y := more) (sp := sp1) (cap := cap1) rfl rfl d1 d2 (by decide) (by omega) ?_
    intro cap2 sp2 d3 d4
    simp (config := { maxSteps := 1000000, implicitDefEqProofs := false }) only [-List.reduceReplicate, Nat.reduceBEq, renA, renL, renM, renO, evx, evs, evp, Eng.look, cst, cst1, putd, dstOk, params, loadx, partx, loI, hiI, bltx, mmI, boxx, srcx, calx, nilx, upd, del, resv, fillA, setMany, Nat.reduceLT, Nat.reduceLeDiff, Nat.reduceEqDiff, Nat.reduceAdd, Nat.reduceMul, Nat.reduceSub, reduceIte, reduceCtorEq, if_true, if_false, ite_true, ite_false, eq_self, forall_const, implies_true, Int.reduceLT, Int.reduceLE, Int.reduceToNat, Int.reduceAdd, Int.reduceSub, Int.reduceNeg, ne_eq, Int.reduceEq, Int.reduceNe, Int.reduceBEq, Int.reduceBNe, beq_self_eq_true, bne_self_eq_false, BitVec.reduceBEq, BitVec.reduceBNe, BitVec.reduceOfInt, BitVec.reduceSetWidth, wrD, engS0, engS1, engS2, engS3, engS4, engS5, engS6, engS7, engS8, engS9, engU0, engT0, engT1, engT2, Fx.t1, Fx.t2, Fx.t3, Fx.t4, Fx.t5, Fx.t9, Fx.t22, Fx.t23, Fx.t25, Fx.en14, Fx.en15, Fx.en16, Fx.en17]
    refine hG.flat0 ⟨argx_sl rfl rfl (by rw [List.length_append]), trivial⟩ (gRet_ren _) rfl ?_
    simp (config := { maxSteps := 1000000, implicitDefEqProofs := false }) only [-List.reduceReplicate, Nat.reduceBEq, renA, renL, renM, renO, evx, evs, evp, Eng.look, cst, cst1, putd, dstOk, params, loadx, partx, loI, hiI, bltx, mmI, boxx, srcx, calx, nilx, upd, del, resv, fillA, setMany, Nat.reduceLT, Nat.reduceLeDiff, Nat.reduceEqDiff, Nat.reduceAdd, Nat.reduceMul, Nat.reduceSub, reduceIte, reduceCtorEq, if_true, if_false, ite_true, ite_false, eq_self, forall_const, implies_true, Int.reduceLT, Int.reduceLE, Int.reduceToNat, Int.reduceAdd, Int.reduceSub, Int.reduceNeg, ne_eq, Int.reduceEq, Int.reduceNe, Int.reduceBEq, Int.reduceBNe, beq_self_eq_true, bne_self_eq_false, BitVec.reduceBEq, BitVec.reduceBNe, BitVec.reduceOfInt, BitVec.reduceSetWidth, wrD, engS0, engS1, engS2, engS3, engS4, engS5, engS6, engS7, engS8, engS9, engU0, engT0, engT1, engT2, Fx.t1, Fx.t2, Fx.t3, Fx.t4, Fx.t5, Fx.t9, Fx.t22, Fx.t23, Fx.t25, Fx.en14, Fx.en15, Fx.en16, Fx.en17, gRet]
    refine ⟨Fx.mixed, .inl ⟨[(0, false), (1, false), (2, false), (3, true), (4, true), (5, false), (6, false), (7, false), (8, false), (9, false), (10, false), (11, false), (12, false), (13, false), (14, false), (15, false), (16, false), (17, false), (18, false), (19, false), (20, false), (21, false), (22, false), (23, false), (24, false), (25, false), (26, true), (27, false), (28, false)], [], by kernel_rfl, (fun n hn => by cases hn), ?_⟩⟩
    simp (config := { maxSteps := 1000000, implicitDefEqProofs := false }) only [-List.reduceReplicate, Nat.reduceBEq, renA, renL, renM, renO, evx, evs, evp, Eng.look, cst, cst1, putd, dstOk, params, loadx, partx, loI, hiI, bltx, mmI, boxx, srcx, calx, nilx, upd, del, resv, fillA, setMany, Nat.reduceLT, Nat.reduceLeDiff, Nat.reduceEqDiff, Nat.reduceAdd, Nat.reduceMul, Nat.reduceSub, reduceIte, reduceCtorEq, if_true, if_false, ite_true, ite_false, eq_self, forall_const, implies_true, Int.reduceLT, Int.reduceLE, Int.reduceToNat, Int.reduceAdd, Int.reduceSub, Int.reduceNeg, ne_eq, Int.reduceEq, Int.reduceNe, Int.reduceBEq, Int.reduceBNe, beq_self_eq_true, bne_self_eq_false, BitVec.reduceBEq, BitVec.reduceBNe, BitVec.reduceOfInt, BitVec.reduceSetWidth, wrD, engS0, engS1, engS2, engS3, engS4, engS5, engS6, engS7, engS8, engS9, engU0, engT0, engT1, engT2, Fx.t1, Fx.t2, Fx.t3, Fx.t4, Fx.t5, Fx.t9, Fx.t22, Fx.t23, Fx.t25, Fx.en14, Fx.en15, Fx.en16, Fx.en17, List.drop_zero, u8T]
    refine ⟨by omega, ?_⟩
    refine hR.newE rfl ?_
    rintro v m' nx' ⟨cap3, sp3, d5, d6, rfl, rfl, rfl⟩
    simp only [renM, rowO_ren, renA, renL]
    simp (config := { maxSteps := 1000000, implicitDefEqProofs := false }) only [-List.reduceReplicate, Nat.reduceBEq, renA, renL, renM, renO, evx, evs, evp, Eng.look, cst, cst1, putd, dstOk, params, loadx, partx, loI, hiI, bltx, mmI, boxx, srcx, calx, nilx, upd, del, resv, fillA, setMany, Nat.reduceLT, Nat.reduceLeDiff, Nat.reduceEqDiff, Nat.reduceAdd, Nat.reduceMul, Nat.reduceSub, reduceIte, reduceCtorEq, if_true, if_false, ite_true, ite_false, eq_self, forall_const, implies_true, Int.reduceLT, Int.reduceLE, Int.reduceToNat, Int.reduceAdd, Int.reduceSub, Int.reduceNeg, ne_eq, Int.reduceEq, Int.reduceNe, Int.reduceBEq, Int.reduceBNe, beq_self_eq_true, bne_self_eq_false, BitVec.reduceBEq, BitVec.reduceBNe, BitVec.reduceOfInt, BitVec.reduceSetWidth, wrD, engS0, engS1, engS2, engS3, engS4, engS5, engS6, engS7, engS8, engS9, engU0, engT0, engT1, engT2, Fx.t1, Fx.t2, Fx.t3, Fx.t4, Fx.t5, Fx.t9, Fx.t22, Fx.t23, Fx.t25, Fx.en14, Fx.en15, Fx.en16, Fx.en17, rowO, List.drop_zero, u8T, beq_self_eq_true]
    refine ⟨by omega, ?_⟩
    refine kn04 ?_
    simp (config := { maxSteps := 1000000, implicitDefEqProofs := false }) only [-List.reduceReplicate, Nat.reduceBEq, renA, renL, renM, renO, evx, evs, evp, Eng.look, cst, cst1, putd, dstOk, params, loadx, partx, loI, hiI, bltx, mmI, boxx, srcx, calx, nilx, upd, del, resv, fillA, setMany, Nat.reduceLT, Nat.reduceLeDiff, Nat.reduceEqDiff, Nat.reduceAdd, Nat.reduceMul, Nat.reduceSub, reduceIte, reduceCtorEq, if_true, if_false, ite_true, ite_false, eq_self, forall_const, implies_true, Int.reduceLT, Int.reduceLE, Int.reduceToNat, Int.reduceAdd, Int.reduceSub, Int.reduceNeg, ne_eq, Int.reduceEq, Int.reduceNe, Int.reduceBEq, Int.reduceBNe, beq_self_eq_true, bne_self_eq_false, BitVec.reduceBEq, BitVec.reduceBNe, BitVec.reduceOfInt, BitVec.reduceSetWidth, wrD, engS0, engS1, engS2, engS3, engS4, engS5, engS6, engS7, engS8, engS9, engU0, engT0, engT1, engT2, Fx.t1, Fx.t2, Fx.t3, Fx.t4, Fx.t5, Fx.t9, Fx.t22, Fx.t23, Fx.t25, Fx.en14, Fx.en15, Fx.en16, Fx.en17]
    exact fin
  · have e2 : decide ((n.toNat : Int) > 9223372036854775807) = true := by simp; omega
    simp (config := { maxSteps := 1000000, implicitDefEqProofs := false }) only [-List.reduceReplicate, Nat.reduceBEq, renA, renL, renM, renO, evx, evs, evp, Eng.look, cst, cst1, putd, dstOk, params, loadx, partx, loI, hiI, bltx, mmI, boxx, srcx, calx, nilx, upd, del, resv, fillA, setMany, Nat.reduceLT, Nat.reduceLeDiff, Nat.reduceEqDiff, Nat.reduceAdd, Nat.reduceMul, Nat.reduceSub, reduceIte, reduceCtorEq, if_true, if_false, ite_true, ite_false, eq_self, forall_const, implies_true, Int.reduceLT, Int.reduceLE, Int.reduceToNat, Int.reduceAdd, Int.reduceSub, Int.reduceNeg, ne_eq, Int.reduceEq, Int.reduceNe, Int.reduceBEq, Int.reduceBNe, beq_self_eq_true, bne_self_eq_false, BitVec.reduceBEq, BitVec.reduceBNe, BitVec.reduceOfInt, BitVec.reduceSetWidth, wrD, engS0, engS1, engS2, engS3, engS4, engS5, engS6, engS7, engS8, engS9, engU0, engT0, engT1, engT2, Fx.t1, Fx.t2, Fx.t3, Fx.t4, Fx.t5, Fx.t9, Fx.t22, Fx.t23, Fx.t25, Fx.en14, Fx.en15, Fx.en16, Fx.en17, Try.results3, Try.ntmps3, e1]
    refine (vputBig n hn).flat0 ⟨rfl, trivial⟩ (fun _ => rfl) rfl ?_
    simp (config := { maxSteps := 1000000, implicitDefEqProofs := false }) only [-List.reduceReplicate, Nat.reduceBEq, renA, renL, renM, renO, evx, evs, evp, Eng.look, cst, cst1, putd, dstOk, params, loadx, partx, loI, hiI, bltx, mmI, boxx, srcx, calx, nilx, upd, del, resv, fillA, setMany, Nat.reduceLT, Nat.reduceLeDiff, Nat.reduceEqDiff, Nat.reduceAdd, Nat.reduceMul, Nat.reduceSub, reduceIte, reduceCtorEq, if_true, if_false, ite_true, ite_false, eq_self, forall_const, implies_true, Int.reduceLT, Int.reduceLE, Int.reduceToNat, Int.reduceAdd, Int.reduceSub, Int.reduceNeg, ne_eq, Int.reduceEq, Int.reduceNe, Int.reduceBEq, Int.reduceBNe, beq_self_eq_true, bne_self_eq_false, BitVec.reduceBEq, BitVec.reduceBNe, BitVec.reduceOfInt, BitVec.reduceSetWidth, wrD, engS0, engS1, engS2, engS3, engS4, engS5, engS6, engS7, engS8, engS9, engU0, engT0, engT1, engT2, Fx.t1, Fx.t2, Fx.t3, Fx.t4, Fx.t5, Fx.t9, Fx.t22, Fx.t23, Fx.t25, Fx.en14, Fx.en15, Fx.en16, Fx.en17, e2]
    refine kn04 ?_
    simp (config := { maxSteps := 1000000, implicitDefEqProofs := false }) only [-List.reduceReplicate, Nat.reduceBEq, renA, renL, renM, renO, evx, evs, evp, Eng.look, cst, cst1, putd, dstOk, params, loadx, partx, loI, hiI, bltx, mmI, boxx, srcx, calx, nilx, upd, del, resv, fillA, setMany, Nat.reduceLT, Nat.reduceLeDiff, Nat.reduceEqDiff, Nat.reduceAdd, Nat.reduceMul, Nat.reduceSub, reduceIte, reduceCtorEq, if_true, if_false, ite_true, ite_false, eq_self, forall_const, implies_true, Int.reduceLT, Int.reduceLE, Int.reduceToNat, Int.reduceAdd, Int.reduceSub, Int.reduceNeg, ne_eq, Int.reduceEq, Int.reduceNe, Int.reduceBEq, Int.reduceBNe, beq_self_eq_true, bne_self_eq_false, BitVec.reduceBEq, BitVec.reduceBNe, BitVec.reduceOfInt, BitVec.reduceSetWidth, wrD, engS0, engS1, engS2, engS3, engS4, engS5, engS6, engS7, engS8, engS9, engU0, engT0, engT1, engT2, Fx.t1, Fx.t2, Fx.t3, Fx.t4, Fx.t5, Fx.t9, Fx.t22, Fx.t23, Fx.t25, Fx.en14, Fx.en15, Fx.en16, Fx.en17]
    exact fin
end Go.Proofs.Ytmnbbpckglppjaa
