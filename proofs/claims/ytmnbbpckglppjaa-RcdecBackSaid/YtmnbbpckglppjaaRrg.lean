/- Coding bits: the bytes, wherever the coders lie. -/
import Derived.Test.YtmnbbpckglppjaaEng19
import Derived.Test.YtmnbbpckglppjaaEng26
import Derived.Test.YtmnbbpckglppjaaRrf
set_option linter.unusedVariables false
set_option linter.unusedSimpArgs false
set_option maxRecDepth 100000
namespace Go.Proofs.Ytmnbbpckglppjaa
open Go Go.Eng

theorem bytN {fz : Bool} {e : ES} {m : Mem} {nx a : Nat} {wr : Nat → Bool} {K : Kv} (hb : e.out.length + e.full + 5 ≤ 1000000) (ho : e.out = []) (ha : a < nx) (h0 : Eng.look m a = some (encO .nils e)) (hw : ∀ n, nx ≤ n → wr n = true)
    (hK : ∀ cap sp, K (.sl nx 0 (bytE e).length cap) ((nx, rowO (bytE e) sp) :: m) (nx + 1)) : CallG fz Try.prog 43 [.ptr a 0] wr m nx K := by
  have r0 : rf [(0, a)] nx 1 0 = a := by simp [rf, Eng.look]
  have r1 : rf [(0, a)] nx 1 1 = nx := by simp [rf, Eng.look]
  refine CallG.congrK ?_
  refine (bytEOk e hb (.nils, [], 1) (.inl ⟨ho, rfl⟩)).useE [(0, a)] rfl ⟨by rw [r0, h0, encO_ren]; rfl, (fun e => by cases e), trivial⟩ (by simp [injOn]) rfl (fun n hn => decide_eq_true hn) (fun k hk => by obtain ⟨o, ho⟩ := kp1 (o := encO .nils e) (m := []) k hk; rw [ho]; rfl) (by simp only [renL, renA, r0]) ?_
  rintro v m' nx' ⟨cap, sp, rfl, rfl, rfl⟩
  refine ⟨by decide, ?_⟩
  simp only [renM, encO_ren, rowO_ren, renA, r0, r1, List.map_cons, List.map_nil, delAll, List.cons_append, List.nil_append, Nat.add_sub_cancel_left]
  refine ⟨_, fun k => ?_, hK cap sp⟩
  rw [look_cons, look_cons, look_cons]
  by_cases h1 : a = k
  · rw [if_pos h1, if_neg (by omega), ← h1, h0]
  · rw [if_neg h1]
    by_cases h2 : nx = k
    · rw [if_pos h2, if_pos h2]
    · rw [if_neg h2, if_neg h2, look_del_other h1]
theorem bytS {fz : Bool} {e : ES} {m : Mem} {nx a n cap : Nat} {sp : List Value} {wr : Nat → Bool} {K : Kv} (hb : e.out.length + e.full + 5 ≤ 1000000) (ha : a < nx) (hn : n < nx) (hne : a ≠ n) (h0 : Eng.look m a = some (encO (.sl n 0 e.out.length cap) e)) (h1 : Eng.look m n = some (rowO e.out sp))
    (hc1 : e.out.length + sp.length = cap) (hc2 : cap ≤ maxI) (hw : ∀ n, nx ≤ n → wr n = true)
    (hK : ∀ cap sp, K (.sl nx 0 (bytE e).length cap) ((nx, rowO (bytE e) sp) :: m) (nx + 1)) : CallG fz Try.prog 43 [.ptr a 0] wr m nx K := by
  have r0 : rf [(0, a), (1, n)] nx 2 0 = a := by simp [rf, Eng.look]
  have r1 : rf [(0, a), (1, n)] nx 2 1 = n := by simp [rf, Eng.look]
  have r2 : rf [(0, a), (1, n)] nx 2 2 = nx := by simp [rf, Eng.look]
  refine CallG.congrK ?_
  refine (bytEOk e hb (.sl 1 0 e.out.length cap, [(1, rowO e.out sp)], 2) (.inr ⟨cap, sp, rfl, hc1, hc2⟩)).useE [(0, a), (1, n)] rfl ⟨by rw [r0, h0, encO_ren]; simp only [renA, r1], (fun e => by cases e), by rw [r1, h1, rowO_ren], (fun e => by cases e), trivial⟩ (by simp [injOn, r0, r1, hne]) rfl (fun n hn => decide_eq_true hn)
    (fun k hk => by obtain ⟨o, ho⟩ := kp2 (o := encO (.sl 1 0 e.out.length cap) e) (p := rowO e.out sp) (m := []) k hk; rw [ho]; rfl) (by simp only [renL, renA, r0]) ?_
  rintro v m' nx' ⟨cap', sp', rfl, rfl, rfl⟩
  refine ⟨Nat.le_succ _, ?_⟩
  simp only [renM, encO_ren, rowO_ren, renA, r0, r1, r2, List.map_cons, List.map_nil, delAll, List.cons_append, List.nil_append, Nat.add_sub_cancel_left]
  refine ⟨_, fun k => ?_, hK cap' sp'⟩
  rw [look_cons, look_cons, look_cons, look_cons]
  by_cases h3 : a = k
  · rw [if_pos h3, if_neg (by omega), ← h3, h0]
  · rw [if_neg h3]
    by_cases h2 : nx = k
    · rw [if_pos h2, if_pos h2]
    · rw [if_neg h2, if_neg h2]
      by_cases h4 : n = k
      · rw [if_pos h4, ← h4, h1]
      · rw [if_neg h4, look_del_other h4, look_del_other h3]
theorem rbytU {fz : Bool} {s : RS} {m : Mem} {nx a n cap : Nat} {sp : List Value} {wr : Nat → Bool} {K : Kv} (hl : s.low.length ≤ 1000000) (ha : a < nx) (hn : n < nx) (hne : a ≠ n) (h0 : Eng.look m a = some (rEO (.sl n 0 s.low.length cap) s)) (h1 : Eng.look m n = some (rowO s.low sp)) (hw : ∀ n, nx ≤ n → wr n = true)
    (hK : ∀ cap sp, K (.sl nx 0 (0#8 :: s.low).length cap) ((nx, rowO (0#8 :: s.low) sp) :: m) (nx + 1)) : CallG fz Try.prog 44 [.ptr a 0] wr m nx K := by
  have r0 : rf [(0, a), (1, n)] nx 2 0 = a := by simp [rf, Eng.look]
  have r1 : rf [(0, a), (1, n)] nx 2 1 = n := by simp [rf, Eng.look]
  have r2 : rf [(0, a), (1, n)] nx 2 2 = nx := by simp [rf, Eng.look]
  refine CallG.congrK ?_
  refine (rbytEOk s hl cap sp).useE [(0, a), (1, n)] rfl ⟨by rw [r0, h0, rEO_ren]; simp only [renA, r1], (fun e => by cases e), by rw [r1, h1, rowO_ren], (fun e => by cases e), trivial⟩ (by simp [injOn, r0, r1, hne]) rfl (fun n hn => decide_eq_true hn)
    (fun k hk => by obtain ⟨o, ho⟩ := kp2 (o := rEO (.sl 1 0 s.low.length cap) s) (p := rowO s.low sp) (m := []) k hk; rw [ho]; rfl) (by simp only [renL, renA, r0]) ?_
  rintro v m' nx' ⟨cap', sp', rfl, rfl, rfl⟩
  refine ⟨by decide, ?_⟩
  simp only [renM, rEO_ren, rowO_ren, renA, r0, r1, r2, List.map_cons, List.map_nil, delAll, List.cons_append, List.nil_append, Nat.add_sub_cancel_left]
  refine ⟨_, fun k => ?_, hK cap' sp'⟩
  rw [look_cons, look_cons, look_cons, look_cons]
  by_cases h3 : a = k
  · rw [if_pos h3, if_neg (by omega), ← h3, h0]
  · rw [if_neg h3]
    by_cases h2 : nx = k
    · rw [if_pos h2, if_pos h2]
    · rw [if_neg h2, if_neg h2]
      by_cases h4 : n = k
      · rw [if_pos h4, ← h4, h1]
      · rw [if_neg h4, look_del_other h4, look_del_other h3]
theorem u8T (X : List (BitVec 8)) (S : List AV) : u8s (List.take X.length (bvs .u8 X ++ S)) = some (X.map fun v => UInt8.ofNat v.toNat) := by rw [takeA', u8s_bvs]
theorem lenT (X : List (BitVec 8)) (S : List AV) : X.length ≤ (bvs .u8 X ++ S).length := by rw [List.length_append, bvs_length]; omega
theorem knows05 : CallG false Try.prog 37 [] (fun _ => true) [] 0 fun v m nx => v = .bool true ∧ m = [] ∧ nx = 0 := by
  refine fn_okG Try.func37 rfl (Nat.zero_le _) ?_
  simp (config := { maxSteps := 1000000, implicitDefEqProofs := false }) only [-List.reduceReplicate, Nat.reduceBEq, renA, renL, renM, renO, evx, evs, evp, Eng.look, cst, cst1, putd, dstOk, params, loadx, partx, loI, hiI, bltx, mmI, boxx, srcx, calx, nilx, upd, del, resv, fillA, setMany, Nat.reduceLT, Nat.reduceLeDiff, Nat.reduceEqDiff, Nat.reduceAdd, Nat.reduceMul, Nat.reduceSub, reduceIte, reduceCtorEq, if_true, if_false, ite_true, ite_false, eq_self, forall_const, implies_true, Int.reduceLT, Int.reduceLE, Int.reduceToNat, Int.reduceAdd, Int.reduceSub, Int.reduceNeg, ne_eq, Int.reduceEq, Int.reduceNe, Int.reduceBEq, Int.reduceBNe, beq_self_eq_true, bne_self_eq_false, BitVec.reduceBEq, BitVec.reduceBNe, BitVec.reduceOfInt, BitVec.reduceSetWidth, wrD, engS0, engS1, engS2, engS3, engS4, engS5, engS6, engS7, engS8, engS9, engT0, engT1, engT2, Fx.t3, Fx.t4, Fx.t5, Fx.t9, Fx.t22, Fx.t23, Fx.t53, Fx.t65, Fx.t123, Fx.t124, Fx.en36, Fx.en42, Fx.en43, Try.results37, Try.ntmps37]
  refine newEOk.newE rfl ?_
  rintro v m' nx' ⟨rfl, rfl, rfl⟩
  simp only [renM, encO_ren, renA, List.append_nil]
  simp (config := { maxSteps := 1000000, implicitDefEqProofs := false }) only [-List.reduceReplicate, Nat.reduceBEq, renA, renL, renM, renO, evx, evs, evp, Eng.look, cst, cst1, putd, dstOk, params, loadx, partx, loI, hiI, bltx, mmI, boxx, srcx, calx, nilx, upd, del, resv, fillA, setMany, Nat.reduceLT, Nat.reduceLeDiff, Nat.reduceEqDiff, Nat.reduceAdd, Nat.reduceMul, Nat.reduceSub, reduceIte, reduceCtorEq, if_true, if_false, ite_true, ite_false, eq_self, forall_const, implies_true, Int.reduceLT, Int.reduceLE, Int.reduceToNat, Int.reduceAdd, Int.reduceSub, Int.reduceNeg, ne_eq, Int.reduceEq, Int.reduceNe, Int.reduceBEq, Int.reduceBNe, beq_self_eq_true, bne_self_eq_false, BitVec.reduceBEq, BitVec.reduceBNe, BitVec.reduceOfInt, BitVec.reduceSetWidth, wrD, engS0, engS1, engS2, engS3, engS4, engS5, engS6, engS7, engS8, engS9, engT0, engT1, engT2, Fx.t3, Fx.t4, Fx.t5, Fx.t9, Fx.t22, Fx.t23, Fx.t53, Fx.t65, Fx.t123, Fx.t124, Fx.en36, Fx.en42, Fx.en43]
  refine bytN (e := newS) (by decide) rfl (by decide) rfl (fun _ _ => rfl) ?_
  intro cap1 sp1
  have hs1 : (⟨(List.map (fun v : BitVec 8 => UInt8.ofNat v.toNat) (bytE newS)).toArray⟩ : ByteArray) = ⟨#[0, 0, 0, 0, 0]⟩ := by kernel_rfl
  have hs2 : (⟨(List.map (fun v : BitVec 8 => UInt8.ofNat v.toNat) (bytE (plE newS 1#32 (nB 1) (nB 1)))).toArray⟩ : ByteArray) = ⟨#[0, 127, 255, 255, 255]⟩ := by kernel_rfl
  have hp : (plO 1#32 (nB 1) (nB 1)).toNat = 1 := by kernel_rfl
  have ho : (plE newS 1#32 (nB 1) (nB 1)).out = [] := by kernel_rfl
  have hf : (plE newS 1#32 (nB 1) (nB 1)).full = 0 := by kernel_rfl
  have hP := plEOk newS (by decide) (by decide) 1#32 1
  rw [hp] at hP
  generalize plE newS 1#32 (nB 1) (nB 1) = e at *
  simp (config := { maxSteps := 1000000, implicitDefEqProofs := false }) only [-List.reduceReplicate, Nat.reduceBEq, renA, renL, renM, renO, evx, evs, evp, Eng.look, cst, cst1, putd, dstOk, params, loadx, partx, loI, hiI, bltx, mmI, boxx, srcx, calx, nilx, upd, del, resv, fillA, setMany, Nat.reduceLT, Nat.reduceLeDiff, Nat.reduceEqDiff, Nat.reduceAdd, Nat.reduceMul, Nat.reduceSub, reduceIte, reduceCtorEq, if_true, if_false, ite_true, ite_false, eq_self, forall_const, implies_true, Int.reduceLT, Int.reduceLE, Int.reduceToNat, Int.reduceAdd, Int.reduceSub, Int.reduceNeg, ne_eq, Int.reduceEq, Int.reduceNe, Int.reduceBEq, Int.reduceBNe, beq_self_eq_true, bne_self_eq_false, BitVec.reduceBEq, BitVec.reduceBNe, BitVec.reduceOfInt, BitVec.reduceSetWidth, wrD, engS0, engS1, engS2, engS3, engS4, engS5, engS6, engS7, engS8, engS9, engT0, engT1, engT2, Fx.t3, Fx.t4, Fx.t5, Fx.t9, Fx.t22, Fx.t23, Fx.t53, Fx.t65, Fx.t123, Fx.t124, Fx.en36, Fx.en42, Fx.en43, rowO, List.drop_zero, u8T, hs1]
  refine ⟨Nat.le_add_right _ _, ?_⟩
  refine SlT.useN (T := encT) (a := 0) hP (fun _ => rfl) (fun _ => rfl) rfl rfl rfl ?_ ?_
  · intro _
    simp (config := { maxSteps := 1000000, implicitDefEqProofs := false }) only [-List.reduceReplicate, Nat.reduceBEq, renA, renL, renM, renO, evx, evs, evp, Eng.look, cst, cst1, putd, dstOk, params, loadx, partx, loI, hiI, bltx, mmI, boxx, srcx, calx, nilx, upd, del, resv, fillA, setMany, Nat.reduceLT, Nat.reduceLeDiff, Nat.reduceEqDiff, Nat.reduceAdd, Nat.reduceMul, Nat.reduceSub, reduceIte, reduceCtorEq, if_true, if_false, ite_true, ite_false, eq_self, forall_const, implies_true, Int.reduceLT, Int.reduceLE, Int.reduceToNat, Int.reduceAdd, Int.reduceSub, Int.reduceNeg, ne_eq, Int.reduceEq, Int.reduceNe, Int.reduceBEq, Int.reduceBNe, beq_self_eq_true, bne_self_eq_false, BitVec.reduceBEq, BitVec.reduceBNe, BitVec.reduceOfInt, BitVec.reduceSetWidth, wrD, engS0, engS1, engS2, engS3, engS4, engS5, engS6, engS7, engS8, engS9, engT0, engT1, engT2, Fx.t3, Fx.t4, Fx.t5, Fx.t9, Fx.t22, Fx.t23, Fx.t53, Fx.t65, Fx.t123, Fx.t124, Fx.en36, Fx.en42, Fx.en43, beq_self_eq_true]
    refine bytN (e := e) (by rw [ho, hf]; decide) ho (by decide) rfl (fun _ _ => rfl) ?_
    intro cap2 sp2
    simp (config := { maxSteps := 1000000, implicitDefEqProofs := false }) only [-List.reduceReplicate, Nat.reduceBEq, renA, renL, renM, renO, evx, evs, evp, Eng.look, cst, cst1, putd, dstOk, params, loadx, partx, loI, hiI, bltx, mmI, boxx, srcx, calx, nilx, upd, del, resv, fillA, setMany, Nat.reduceLT, Nat.reduceLeDiff, Nat.reduceEqDiff, Nat.reduceAdd, Nat.reduceMul, Nat.reduceSub, reduceIte, reduceCtorEq, if_true, if_false, ite_true, ite_false, eq_self, forall_const, implies_true, Int.reduceLT, Int.reduceLE, Int.reduceToNat, Int.reduceAdd, Int.reduceSub, Int.reduceNeg, ne_eq, Int.reduceEq, Int.reduceNe, Int.reduceBEq, Int.reduceBNe, beq_self_eq_true, bne_self_eq_false, BitVec.reduceBEq, BitVec.reduceBNe, BitVec.reduceOfInt, BitVec.reduceSetWidth, wrD, engS0, engS1, engS2, engS3, engS4, engS5, engS6, engS7, engS8, engS9, engT0, engT1, engT2, Fx.t3, Fx.t4, Fx.t5, Fx.t9, Fx.t22, Fx.t23, Fx.t53, Fx.t65, Fx.t123, Fx.t124, Fx.en36, Fx.en42, Fx.en43, rowO, List.drop_zero, u8T, hs2, beq_self_eq_true]
    refine ⟨Nat.le_add_right _ _, ?_⟩
    exact Fin.flatv (fun _ => rfl) (fun f => rfl) ⟨rfl, rfl, rfl⟩
  · intro cap3 sp3 c1 c2
    simp (config := { maxSteps := 1000000, implicitDefEqProofs := false }) only [-List.reduceReplicate, Nat.reduceBEq, renA, renL, renM, renO, evx, evs, evp, Eng.look, cst, cst1, putd, dstOk, params, loadx, partx, loI, hiI, bltx, mmI, boxx, srcx, calx, nilx, upd, del, resv, fillA, setMany, Nat.reduceLT, Nat.reduceLeDiff, Nat.reduceEqDiff, Nat.reduceAdd, Nat.reduceMul, Nat.reduceSub, reduceIte, reduceCtorEq, if_true, if_false, ite_true, ite_false, eq_self, forall_const, implies_true, Int.reduceLT, Int.reduceLE, Int.reduceToNat, Int.reduceAdd, Int.reduceSub, Int.reduceNeg, ne_eq, Int.reduceEq, Int.reduceNe, Int.reduceBEq, Int.reduceBNe, beq_self_eq_true, bne_self_eq_false, BitVec.reduceBEq, BitVec.reduceBNe, BitVec.reduceOfInt, BitVec.reduceSetWidth, wrD, engS0, engS1, engS2, engS3, engS4, engS5, engS6, engS7, engS8, engS9, engT0, engT1, engT2, Fx.t3, Fx.t4, Fx.t5, Fx.t9, Fx.t22, Fx.t23, Fx.t53, Fx.t65, Fx.t123, Fx.t124, Fx.en36, Fx.en42, Fx.en43, beq_self_eq_true]
    refine bytS (e := e) (by rw [ho, hf]; decide) (by decide) (by decide) (by decide) rfl rfl c1 c2 (fun _ _ => rfl) ?_
    intro cap2 sp2
    simp (config := { maxSteps := 1000000, implicitDefEqProofs := false }) only [-List.reduceReplicate, Nat.reduceBEq, renA, renL, renM, renO, evx, evs, evp, Eng.look, cst, cst1, putd, dstOk, params, loadx, partx, loI, hiI, bltx, mmI, boxx, srcx, calx, nilx, upd, del, resv, fillA, setMany, Nat.reduceLT, Nat.reduceLeDiff, Nat.reduceEqDiff, Nat.reduceAdd, Nat.reduceMul, Nat.reduceSub, reduceIte, reduceCtorEq, if_true, if_false, ite_true, ite_false, eq_self, forall_const, implies_true, Int.reduceLT, Int.reduceLE, Int.reduceToNat, Int.reduceAdd, Int.reduceSub, Int.reduceNeg, ne_eq, Int.reduceEq, Int.reduceNe, Int.reduceBEq, Int.reduceBNe, beq_self_eq_true, bne_self_eq_false, BitVec.reduceBEq, BitVec.reduceBNe, BitVec.reduceOfInt, BitVec.reduceSetWidth, wrD, engS0, engS1, engS2, engS3, engS4, engS5, engS6, engS7, engS8, engS9, engT0, engT1, engT2, Fx.t3, Fx.t4, Fx.t5, Fx.t9, Fx.t22, Fx.t23, Fx.t53, Fx.t65, Fx.t123, Fx.t124, Fx.en36, Fx.en42, Fx.en43, rowO, List.drop_zero, u8T, hs2, beq_self_eq_true]
    refine ⟨Nat.le_add_right _ _, ?_⟩
    exact Fin.flatv (fun _ => rfl) (fun f => rfl) ⟨rfl, rfl, rfl⟩
end Go.Proofs.Ytmnbbpckglppjaa
