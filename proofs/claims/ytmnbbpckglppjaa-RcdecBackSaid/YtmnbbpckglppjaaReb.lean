/- Coding bits: a byte is put out. -/
import Derived.Test.YtmnbbpckglppjaaEng19
import Derived.Test.YtmnbbpckglppjaaEng26
import Derived.Test.YtmnbbpckglppjaaEng29
import Derived.Test.YtmnbbpckglppjaaRea
import Derived.Test.YtmnbbpckglppjaaFx
set_option linter.unusedVariables false
set_option linter.unusedSimpArgs false
set_option maxRecDepth 100000
namespace Go.Proofs.Ytmnbbpckglppjaa
open Go Go.Eng

def encO (o : AV) (e : ES) : AObj := .cells [.int .u64 (e.low.toNat : Int), .int .u32 (e.size.toNat : Int), .int .u8 (e.held.toNat : Int), .int .i64 (e.full : Int), o] 124
def encT : SlT := ⟨ES, ES.out, encO, fun _ _ _ => rfl⟩
theorem encO_ren (f : Nat → Nat) (o : AV) (e : ES) : renO f (encO o e) = encO (renA f o) e := rfl
def boxO : AObj := .cells [.ptr 0 0] 65
def carO (c : BitVec 8) : AObj := .cells [.int .u8 (c.toNat : Int)] 5
def wrS (e : ES) (q : BitVec 8) : ES := ⟨e.low, e.size, e.held, e.full, e.out ++ [q]⟩
theorem writeN (e : ES) (he : e.out = []) (q c : BitVec 8) : CallG false Try.prog 91 [.int .u8 (q.toNat : Int), .ptr 1 0, .ptr 2 0] (fun _ => true) [(0, encO .nils e), (1, boxO), (2, carO c)] 3
    fun v m nx => v = .tup [] ∧ ∃ (cap : Nat) (sp : List Value), (wrS e (q + c)).out.length + sp.length = cap ∧ cap ≤ maxI ∧ m = [(0, encO (.sl 3 0 (wrS e (q + c)).out.length cap) (wrS e (q + c))), (1, boxO), (2, carO c), (3, rowO (wrS e (q + c)).out sp)] ∧ nx = 4 := by
  refine fn_okG Try.func91 rfl (by show 3 ≤ _; decide) ?_
  simp (config := { maxSteps := 1000000, implicitDefEqProofs := false }) only [-List.reduceReplicate, Nat.reduceBEq, renA, renL, renM, renO, evx, evs, evp, Eng.look, cst, cst1, putd, dstOk, params, loadx, partx, loI, hiI, bltx, mmI, boxx, srcx, calx, nilx, upd, del, resv, fillA, setMany, Nat.reduceLT, Nat.reduceLeDiff, Nat.reduceEqDiff, Nat.reduceAdd, Nat.reduceMul, Nat.reduceSub, reduceIte, reduceCtorEq, if_true, if_false, ite_true, ite_false, eq_self, forall_const, implies_true, Int.reduceLT, Int.reduceLE, Int.reduceToNat, Int.reduceAdd, Int.reduceSub, Int.reduceNeg, ne_eq, Int.reduceEq, Int.reduceNe, Int.reduceBEq, Int.reduceBNe, beq_self_eq_true, bne_self_eq_false, BitVec.reduceBEq, BitVec.reduceBNe, BitVec.reduceOfInt, BitVec.reduceSetWidth, wrD, engS0, engS1, engS2, engS3, engS4, engS5, engS6, engS7, engS8, engS9, engT0, engT1, engT2, Fx.t1, Fx.t3, Fx.t4, Fx.t5, Fx.t22, Fx.t23, Fx.t53, Fx.t65, Fx.t123, Fx.t124, Try.results91, Try.ntmps91, encO, boxO, carO]
  refine ⟨Fx.mixed, .inr (.inl ⟨[(0, false), (1, false), (2, false), (3, false), (4, false), (5, false), (6, false), (7, false), (8, true), (9, true), (10, false), (11, false), (12, true)], [0], [9, 12], [4], by kernel_rfl, by kernel_rfl, (fun n hn => by cases List.mem_singleton.1 hn; exact ⟨rfl, rfl⟩), ?_⟩)⟩
  have t1 : List.take 1 ((List.replicate 1 0).set 0 (q + c)) = [q + c] := rfl
  simp (config := { maxSteps := 1000000, implicitDefEqProofs := false }) only [-List.reduceReplicate, Nat.reduceBEq, renA, renL, renM, renO, evx, evs, evp, Eng.look, cst, cst1, putd, dstOk, params, loadx, partx, loI, hiI, bltx, mmI, boxx, srcx, calx, nilx, upd, del, resv, fillA, setMany, Nat.reduceLT, Nat.reduceLeDiff, Nat.reduceEqDiff, Nat.reduceAdd, Nat.reduceMul, Nat.reduceSub, reduceIte, reduceCtorEq, if_true, if_false, ite_true, ite_false, eq_self, forall_const, implies_true, Int.reduceLT, Int.reduceLE, Int.reduceToNat, Int.reduceAdd, Int.reduceSub, Int.reduceNeg, ne_eq, Int.reduceEq, Int.reduceNe, Int.reduceBEq, Int.reduceBNe, beq_self_eq_true, bne_self_eq_false, BitVec.reduceBEq, BitVec.reduceBNe, BitVec.reduceOfInt, BitVec.reduceSetWidth, wrD, engS0, engS1, engS2, engS3, engS4, engS5, engS6, engS7, engS8, engS9, engT0, engT1, engT2, Fx.t1, Fx.t3, Fx.t4, Fx.t5, Fx.t22, Fx.t23, Fx.t53, Fx.t65, Fx.t123, Fx.t124, t1]
  refine ⟨.inr trivial, ?_⟩
  refine appk_nils (y := [q + c]) (by decide) (by simp) (fun e => by cases e) fun _ cap' sp' d1 d2 => ?_
  simp (config := { maxSteps := 1000000, implicitDefEqProofs := false }) only [-List.reduceReplicate, Nat.reduceBEq, renA, renL, renM, renO, evx, evs, evp, Eng.look, cst, cst1, putd, dstOk, params, loadx, partx, loI, hiI, bltx, mmI, boxx, srcx, calx, nilx, upd, del, resv, fillA, setMany, Nat.reduceLT, Nat.reduceLeDiff, Nat.reduceEqDiff, Nat.reduceAdd, Nat.reduceMul, Nat.reduceSub, reduceIte, reduceCtorEq, if_true, if_false, ite_true, ite_false, eq_self, forall_const, implies_true, Int.reduceLT, Int.reduceLE, Int.reduceToNat, Int.reduceAdd, Int.reduceSub, Int.reduceNeg, ne_eq, Int.reduceEq, Int.reduceNe, Int.reduceBEq, Int.reduceBNe, beq_self_eq_true, bne_self_eq_false, BitVec.reduceBEq, BitVec.reduceBNe, BitVec.reduceOfInt, BitVec.reduceSetWidth, wrD, engS0, engS1, engS2, engS3, engS4, engS5, engS6, engS7, engS8, engS9, engT0, engT1, engT2, Fx.t1, Fx.t3, Fx.t4, Fx.t5, Fx.t22, Fx.t23, Fx.t53, Fx.t65, Fx.t123, Fx.t124]
  have ho : (wrS e (q + c)).out = [q + c] := by rw [wrS, he]; rfl
  have hl : (wrS e (q + c)).out.length = 1 := by rw [ho]; rfl
  refine ⟨[(3, 4)], .tup [], [(0, encO (.sl 3 0 (wrS e (q + c)).out.length cap') (wrS e (q + c))), (1, boxO), (2, carO c), (3, rowO (wrS e (q + c)).out sp')], 4, ⟨rfl, by decide⟩, rfl, ⟨by rw [hl]; rfl, rfl, rfl, rfl, rfl, rfl, by rw [rowO_ren, ho]; rfl, rfl, trivial⟩, ?_, (fun n e => by cases e), rfl, cap', sp', by rw [hl]; exact d1, d2, rfl, rfl⟩
  simp [injOn, rf, Eng.look]
theorem writeS (e : ES) (he : e.out.length ≤ 2000000) (cap : Nat) (sp : List Value) (hc1 : e.out.length + sp.length = cap) (hc2 : cap ≤ maxI) (q c : BitVec 8) : CallG false Try.prog 91 [.int .u8 (q.toNat : Int), .ptr 2 0, .ptr 3 0] (fun _ => true) [(0, encO (.sl 1 0 e.out.length cap) e), (1, rowO e.out sp), (2, boxO), (3, carO c)] 4
    fun v m nx => v = .tup [] ∧ ∃ (cap : Nat) (sp : List Value), (wrS e (q + c)).out.length + sp.length = cap ∧ cap ≤ maxI ∧ m = [(0, encO (.sl 4 0 (wrS e (q + c)).out.length cap) (wrS e (q + c))), (2, boxO), (3, carO c), (4, rowO (wrS e (q + c)).out sp)] ∧ nx = 5 := by
  refine fn_okG Try.func91 rfl (by show 3 ≤ _; decide) ?_
  simp (config := { maxSteps := 1000000, implicitDefEqProofs := false }) only [-List.reduceReplicate, Nat.reduceBEq, renA, renL, renM, renO, evx, evs, evp, Eng.look, cst, cst1, putd, dstOk, params, loadx, partx, loI, hiI, bltx, mmI, boxx, srcx, calx, nilx, upd, del, resv, fillA, setMany, Nat.reduceLT, Nat.reduceLeDiff, Nat.reduceEqDiff, Nat.reduceAdd, Nat.reduceMul, Nat.reduceSub, reduceIte, reduceCtorEq, if_true, if_false, ite_true, ite_false, eq_self, forall_const, implies_true, Int.reduceLT, Int.reduceLE, Int.reduceToNat, Int.reduceAdd, Int.reduceSub, Int.reduceNeg, ne_eq, Int.reduceEq, Int.reduceNe, Int.reduceBEq, Int.reduceBNe, beq_self_eq_true, bne_self_eq_false, BitVec.reduceBEq, BitVec.reduceBNe, BitVec.reduceOfInt, BitVec.reduceSetWidth, wrD, engS0, engS1, engS2, engS3, engS4, engS5, engS6, engS7, engS8, engS9, engT0, engT1, engT2, Fx.t1, Fx.t3, Fx.t4, Fx.t5, Fx.t22, Fx.t23, Fx.t53, Fx.t65, Fx.t123, Fx.t124, Try.results91, Try.ntmps91, encO, boxO, carO, rowO]
  refine ⟨Fx.mixed, .inr (.inl ⟨[(0, false), (1, false), (2, false), (3, false), (4, false), (5, false), (6, false), (7, false), (8, true), (9, true), (10, false), (11, false), (12, true)], [0, 1], [9, 12], [4], by kernel_rfl, by kernel_rfl, (fun n hn => by simp only [List.mem_cons, List.not_mem_nil, or_false] at hn; rcases hn with rfl | rfl <;> exact ⟨rfl, rfl⟩), ?_⟩)⟩
  have t1 : List.take 1 ((List.replicate 1 0).set 0 (q + c)) = [q + c] := rfl
  simp (config := { maxSteps := 1000000, implicitDefEqProofs := false }) only [-List.reduceReplicate, Nat.reduceBEq, renA, renL, renM, renO, evx, evs, evp, Eng.look, cst, cst1, putd, dstOk, params, loadx, partx, loI, hiI, bltx, mmI, boxx, srcx, calx, nilx, upd, del, resv, fillA, setMany, Nat.reduceLT, Nat.reduceLeDiff, Nat.reduceEqDiff, Nat.reduceAdd, Nat.reduceMul, Nat.reduceSub, reduceIte, reduceCtorEq, if_true, if_false, ite_true, ite_false, eq_self, forall_const, implies_true, Int.reduceLT, Int.reduceLE, Int.reduceToNat, Int.reduceAdd, Int.reduceSub, Int.reduceNeg, ne_eq, Int.reduceEq, Int.reduceNe, Int.reduceBEq, Int.reduceBNe, beq_self_eq_true, bne_self_eq_false, BitVec.reduceBEq, BitVec.reduceBNe, BitVec.reduceOfInt, BitVec.reduceSetWidth, wrD, engS0, engS1, engS2, engS3, engS4, engS5, engS6, engS7, engS8, engS9, engT0, engT1, engT2, Fx.t1, Fx.t3, Fx.t4, Fx.t5, Fx.t22, Fx.t23, Fx.t53, Fx.t65, Fx.t123, Fx.t124, t1]
  refine ⟨.inr trivial, ?_⟩
  refine appk_bvs (x := e.out) (y := [q + c]) rfl rfl hc1 hc2 (by decide) (by rw [List.length_singleton]; omega) fun cap' sp' d1 d2 => ?_
  simp (config := { maxSteps := 1000000, implicitDefEqProofs := false }) only [-List.reduceReplicate, Nat.reduceBEq, renA, renL, renM, renO, evx, evs, evp, Eng.look, cst, cst1, putd, dstOk, params, loadx, partx, loI, hiI, bltx, mmI, boxx, srcx, calx, nilx, upd, del, resv, fillA, setMany, Nat.reduceLT, Nat.reduceLeDiff, Nat.reduceEqDiff, Nat.reduceAdd, Nat.reduceMul, Nat.reduceSub, reduceIte, reduceCtorEq, if_true, if_false, ite_true, ite_false, eq_self, forall_const, implies_true, Int.reduceLT, Int.reduceLE, Int.reduceToNat, Int.reduceAdd, Int.reduceSub, Int.reduceNeg, ne_eq, Int.reduceEq, Int.reduceNe, Int.reduceBEq, Int.reduceBNe, beq_self_eq_true, bne_self_eq_false, BitVec.reduceBEq, BitVec.reduceBNe, BitVec.reduceOfInt, BitVec.reduceSetWidth, wrD, engS0, engS1, engS2, engS3, engS4, engS5, engS6, engS7, engS8, engS9, engT0, engT1, engT2, Fx.t1, Fx.t3, Fx.t4, Fx.t5, Fx.t22, Fx.t23, Fx.t53, Fx.t65, Fx.t123, Fx.t124]
  refine ⟨[(4, 5)], .tup [], [(0, encO (.sl 4 0 (wrS e (q + c)).out.length cap') (wrS e (q + c))), (2, boxO), (3, carO c), (4, rowO (wrS e (q + c)).out sp')], 5, ⟨rfl, by decide⟩, rfl, ⟨by simp only [wrS, List.length_append, List.length_singleton]; rfl, rfl, rfl, rfl, rfl, rfl, by rw [rowO_ren]; rfl, rfl, trivial⟩, ?_, (fun n e => by cases e), rfl, cap', sp', d1, d2, rfl, rfl⟩
  simp [injOn, rf, Eng.look]
/-- a call of it, where there is a row already -/
theorem useW {fz : Bool} {e : ES} (he : e.out.length ≤ 2000000) {q c : BitVec 8} {wr : Nat → Bool} {m : Mem} {nx p k n cap : Nat} {sp : List Value} {K : Kv} (h0p : 0 ≠ p) (h0k : 0 ≠ k) (h0n : 0 ≠ n) (hpk : p ≠ k) (hpn : p ≠ n) (hkn : k ≠ n)
    (h0 : Eng.look m 0 = some (encO (.sl n 0 e.out.length cap) e)) (hn : Eng.look m n = some (rowO e.out sp)) (hp : Eng.look m p = some boxO) (hk : Eng.look m k = some (carO c)) (hc1 : e.out.length + sp.length = cap) (hc2 : cap ≤ maxI) (hw : ∀ n, wr n = true)
    (hK : ∀ cap sp, (wrS e (q + c)).out.length + sp.length = cap → cap ≤ maxI → K (.tup []) ((0, encO (.sl nx 0 (wrS e (q + c)).out.length cap) (wrS e (q + c))) :: (p, boxO) :: (k, carO c) :: (nx, rowO (wrS e (q + c)).out sp) :: del (del (del (del m 0) n) p) k) (nx + 1)) :
    CallG fz Try.prog 91 [.int .u8 (q.toNat : Int), .ptr p 0, .ptr k 0] wr m nx K := by
  have r0 : rf [(0, 0), (1, n), (2, p), (3, k)] nx 4 0 = 0 := by simp [rf, Eng.look]
  have r1 : rf [(0, 0), (1, n), (2, p), (3, k)] nx 4 1 = n := by simp [rf, Eng.look]
  have r2 : rf [(0, 0), (1, n), (2, p), (3, k)] nx 4 2 = p := by simp [rf, Eng.look]
  have r3 : rf [(0, 0), (1, n), (2, p), (3, k)] nx 4 3 = k := by simp [rf, Eng.look]
  have r4 : rf [(0, 0), (1, n), (2, p), (3, k)] nx 4 4 = nx := by simp [rf, Eng.look]
  refine (writeS e he cap sp hc1 hc2 q c).useE [(0, 0), (1, n), (2, p), (3, k)] rfl ⟨by rw [r0, h0, encO_ren]; simp only [renA, r1], fun _ => hw _, by rw [r1, hn, rowO_ren], fun _ => hw _, by rw [r2, hp]; simp only [boxO, renO, renL, renA, r0], fun _ => hw _, by rw [r3, hk]; rfl, fun _ => hw _, trivial⟩ ?_ rfl (fun _ _ => rfl) (fun _ e => by cases e) (by simp only [renL, renA, r2, r3]) ?_
  · simp [injOn, r0, r1, r2, r3, h0p, h0k, h0n, hpk, hpn, hkn, Ne.symm hpn, Ne.symm hkn]
  · rintro v m' nx' ⟨rfl, cap', sp', d1, d2, rfl, rfl⟩
    refine ⟨by decide, ?_⟩
    have := hK cap' sp' d1 d2
    simpa only [renM, renA, renL, encO, boxO, carO, rowO, renO, renL_vals', r0, r1, r2, r3, r4, List.map_cons, List.map_nil, delAll, List.cons_append, List.nil_append, Nat.add_sub_cancel_left, Nat.reduceSub] using this
end Go.Proofs.Ytmnbbpckglppjaa
