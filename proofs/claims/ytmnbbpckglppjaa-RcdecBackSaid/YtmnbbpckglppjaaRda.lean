/- Reading bits: chances, and the reader's scale. -/
import Derived.Test.YtmnbbpckglppjaaEng19
import Derived.Test.YtmnbbpckglppjaaEng26
import Derived.Test.YtmnbbpckglppjaaEng25
import Derived.Test.YtmnbbpckglppjaaEng18
import Derived.Test.YtmnbbpckglppjaaEng28
import Derived.Test.YtmnbbpckglppjaaFx
set_option linter.unusedVariables false
set_option linter.unusedSimpArgs false
set_option maxRecDepth 100000
namespace Go.Proofs.Ytmnbbpckglppjaa
open Go Go.Eng

def fairV (c : BitVec 16) : BitVec 16 := if c.toNat < 1 ∨ 2048 ≤ c.toNat then 1024#16 else c
theorem fairV_range (c : BitVec 16) : 1 ≤ (fairV c).toNat ∧ (fairV c).toNat ≤ 2047 := by
  unfold fairV
  split
  · exact ⟨by decide, by decide⟩
  · omega
def nx0 (p : BitVec 16) : BitVec 16 := p + (2048#16 - p) >>> 5
def nx1 (p : BitVec 16) : BitVec 16 := p - p >>> 5
theorem fairOk (c : BitVec 16) : CallG false Try.prog 73 [.int .u16 (c.toNat : Int)] (fun _ => true) [] 0 fun v m nx => v = .int .u16 ((fairV c).toNat : Int) ∧ m = [] ∧ nx = 0 := by
  refine fn_okG Try.func73 rfl (by show 1 ≤ _; decide) ?_
  rcases Nat.lt_or_ge c.toNat 1 with h | h
  · have e1 : decide ((c.toNat : Int) < 1) = true := by simp; omega
    have hf : fairV c = 1024#16 := by rw [fairV, if_pos (.inl h)]
    simp (config := { maxSteps := 1000000, implicitDefEqProofs := false }) only [-List.reduceReplicate, Nat.reduceBEq, renA, renL, renM, renO, evx, evs, evp, Eng.look, cst, cst1, putd, dstOk, params, loadx, partx, loI, hiI, bltx, mmI, boxx, srcx, calx, nilx, upd, del, resv, fillA, setMany, Nat.reduceLT, Nat.reduceLeDiff, Nat.reduceEqDiff, Nat.reduceAdd, Nat.reduceMul, Nat.reduceSub, reduceIte, reduceCtorEq, if_true, if_false, ite_true, ite_false, eq_self, forall_const, implies_true, Int.reduceLT, Int.reduceLE, Int.reduceToNat, Int.reduceAdd, Int.reduceSub, Int.reduceNeg, ne_eq, Int.reduceEq, Int.reduceNe, Int.reduceBEq, Int.reduceBNe, beq_self_eq_true, bne_self_eq_false, BitVec.reduceBEq, BitVec.reduceBNe, BitVec.reduceOfInt, BitVec.reduceSetWidth, wrD, engS0, engS1, engS2, engS3, engS4, engS5, engS6, engS7, engS8, engS9, engT0, engT1, engT2, Fx.t4, Fx.t52, Try.results73, Try.ntmps73, e1, hf]
    exact Fin.flatv (fun _ => rfl) (fun f => rfl) ⟨rfl, rfl, rfl⟩
  have e1 : decide ((c.toNat : Int) < 1) = false := by simp; omega
  rcases Nat.lt_or_ge c.toNat 2048 with h2 | h2
  · have e2 : decide ((c.toNat : Int) ≥ 2048) = false := by simp; omega
    have hf : fairV c = c := by rw [fairV, if_neg (by omega)]
    simp (config := { maxSteps := 1000000, implicitDefEqProofs := false }) only [-List.reduceReplicate, Nat.reduceBEq, renA, renL, renM, renO, evx, evs, evp, Eng.look, cst, cst1, putd, dstOk, params, loadx, partx, loI, hiI, bltx, mmI, boxx, srcx, calx, nilx, upd, del, resv, fillA, setMany, Nat.reduceLT, Nat.reduceLeDiff, Nat.reduceEqDiff, Nat.reduceAdd, Nat.reduceMul, Nat.reduceSub, reduceIte, reduceCtorEq, if_true, if_false, ite_true, ite_false, eq_self, forall_const, implies_true, Int.reduceLT, Int.reduceLE, Int.reduceToNat, Int.reduceAdd, Int.reduceSub, Int.reduceNeg, ne_eq, Int.reduceEq, Int.reduceNe, Int.reduceBEq, Int.reduceBNe, beq_self_eq_true, bne_self_eq_false, BitVec.reduceBEq, BitVec.reduceBNe, BitVec.reduceOfInt, BitVec.reduceSetWidth, wrD, engS0, engS1, engS2, engS3, engS4, engS5, engS6, engS7, engS8, engS9, engT0, engT1, engT2, Fx.t4, Fx.t52, Try.results73, Try.ntmps73, e1, e2, hf]
    exact Fin.flatv (fun _ => rfl) (fun f => rfl) ⟨rfl, rfl, rfl⟩
  · have e2 : decide ((c.toNat : Int) ≥ 2048) = true := by simp; omega
    have hf : fairV c = 1024#16 := by rw [fairV, if_pos (.inr h2)]
    simp (config := { maxSteps := 1000000, implicitDefEqProofs := false }) only [-List.reduceReplicate, Nat.reduceBEq, renA, renL, renM, renO, evx, evs, evp, Eng.look, cst, cst1, putd, dstOk, params, loadx, partx, loI, hiI, bltx, mmI, boxx, srcx, calx, nilx, upd, del, resv, fillA, setMany, Nat.reduceLT, Nat.reduceLeDiff, Nat.reduceEqDiff, Nat.reduceAdd, Nat.reduceMul, Nat.reduceSub, reduceIte, reduceCtorEq, if_true, if_false, ite_true, ite_false, eq_self, forall_const, implies_true, Int.reduceLT, Int.reduceLE, Int.reduceToNat, Int.reduceAdd, Int.reduceSub, Int.reduceNeg, ne_eq, Int.reduceEq, Int.reduceNe, Int.reduceBEq, Int.reduceBNe, beq_self_eq_true, bne_self_eq_false, BitVec.reduceBEq, BitVec.reduceBNe, BitVec.reduceOfInt, BitVec.reduceSetWidth, wrD, engS0, engS1, engS2, engS3, engS4, engS5, engS6, engS7, engS8, engS9, engT0, engT1, engT2, Fx.t4, Fx.t52, Try.results73, Try.ntmps73, e1, e2, hf]
    exact Fin.flatv (fun _ => rfl) (fun f => rfl) ⟨rfl, rfl, rfl⟩
theorem rfairOk (c : BitVec 16) : CallG false Try.prog 75 [.int .u16 (c.toNat : Int)] (fun _ => true) [] 0 fun v m nx => v = .int .u64 ((fairV c).toNat : Int) ∧ m = [] ∧ nx = 0 := by
  refine fn_okG Try.func75 rfl (by show 1 ≤ _; decide) ?_
  have hc := c.isLt
  rcases Nat.lt_or_ge c.toNat 1 with h | h
  · have e1 : (c == 0#16) = true := by rw [beq_iff_eq]; exact BitVec.eq_of_toNat_eq (by rw [show (0#16).toNat = 0 from rfl]; omega)
    have hf : fairV c = 1024#16 := by rw [fairV, if_pos (.inl h)]
    simp (config := { maxSteps := 1000000, implicitDefEqProofs := false }) only [-List.reduceReplicate, Nat.reduceBEq, renA, renL, renM, renO, evx, evs, evp, Eng.look, cst, cst1, putd, dstOk, params, loadx, partx, loI, hiI, bltx, mmI, boxx, srcx, calx, nilx, upd, del, resv, fillA, setMany, Nat.reduceLT, Nat.reduceLeDiff, Nat.reduceEqDiff, Nat.reduceAdd, Nat.reduceMul, Nat.reduceSub, reduceIte, reduceCtorEq, if_true, if_false, ite_true, ite_false, eq_self, forall_const, implies_true, Int.reduceLT, Int.reduceLE, Int.reduceToNat, Int.reduceAdd, Int.reduceSub, Int.reduceNeg, ne_eq, Int.reduceEq, Int.reduceNe, Int.reduceBEq, Int.reduceBNe, beq_self_eq_true, bne_self_eq_false, BitVec.reduceBEq, BitVec.reduceBNe, BitVec.reduceOfInt, BitVec.reduceSetWidth, wrD, engS0, engS1, engS2, engS3, engS4, engS5, engS6, engS7, engS8, engS9, engT0, engT1, engT2, Fx.t4, Fx.t22, Fx.t52, Try.results75, Try.ntmps75, e1, hf]
    exact Fin.flatv (fun _ => rfl) (fun f => rfl) ⟨rfl, rfl, rfl⟩
  have e1 : (c == 0#16) = false := by rw [beq_eq_false_iff_ne]; intro e; rw [e] at h; exact absurd h (by decide)
  rcases Nat.lt_or_ge c.toNat 2048 with h2 | h2
  · have e2 : decide ((c.toNat : Int) > 2047) = false := by simp; omega
    have hf : fairV c = c := by rw [fairV, if_neg (by omega)]
    have hw : (BitVec.setWidth 64 c).toNat = c.toNat := by rw [BitVec.toNat_setWidth]; omega
    simp (config := { maxSteps := 1000000, implicitDefEqProofs := false }) only [-List.reduceReplicate, Nat.reduceBEq, renA, renL, renM, renO, evx, evs, evp, Eng.look, cst, cst1, putd, dstOk, params, loadx, partx, loI, hiI, bltx, mmI, boxx, srcx, calx, nilx, upd, del, resv, fillA, setMany, Nat.reduceLT, Nat.reduceLeDiff, Nat.reduceEqDiff, Nat.reduceAdd, Nat.reduceMul, Nat.reduceSub, reduceIte, reduceCtorEq, if_true, if_false, ite_true, ite_false, eq_self, forall_const, implies_true, Int.reduceLT, Int.reduceLE, Int.reduceToNat, Int.reduceAdd, Int.reduceSub, Int.reduceNeg, ne_eq, Int.reduceEq, Int.reduceNe, Int.reduceBEq, Int.reduceBNe, beq_self_eq_true, bne_self_eq_false, BitVec.reduceBEq, BitVec.reduceBNe, BitVec.reduceOfInt, BitVec.reduceSetWidth, wrD, engS0, engS1, engS2, engS3, engS4, engS5, engS6, engS7, engS8, engS9, engT0, engT1, engT2, Fx.t4, Fx.t22, Fx.t52, Try.results75, Try.ntmps75, e1, e2, hf, hw]
    exact Fin.flatv (fun _ => rfl) (fun f => rfl) ⟨rfl, rfl, rfl⟩
  · have e2 : decide ((c.toNat : Int) > 2047) = true := by simp; omega
    have hf : fairV c = 1024#16 := by rw [fairV, if_pos (.inr h2)]
    simp (config := { maxSteps := 1000000, implicitDefEqProofs := false }) only [-List.reduceReplicate, Nat.reduceBEq, renA, renL, renM, renO, evx, evs, evp, Eng.look, cst, cst1, putd, dstOk, params, loadx, partx, loI, hiI, bltx, mmI, boxx, srcx, calx, nilx, upd, del, resv, fillA, setMany, Nat.reduceLT, Nat.reduceLeDiff, Nat.reduceEqDiff, Nat.reduceAdd, Nat.reduceMul, Nat.reduceSub, reduceIte, reduceCtorEq, if_true, if_false, ite_true, ite_false, eq_self, forall_const, implies_true, Int.reduceLT, Int.reduceLE, Int.reduceToNat, Int.reduceAdd, Int.reduceSub, Int.reduceNeg, ne_eq, Int.reduceEq, Int.reduceNe, Int.reduceBEq, Int.reduceBNe, beq_self_eq_true, bne_self_eq_false, BitVec.reduceBEq, BitVec.reduceBNe, BitVec.reduceOfInt, BitVec.reduceSetWidth, wrD, engS0, engS1, engS2, engS3, engS4, engS5, engS6, engS7, engS8, engS9, engT0, engT1, engT2, Fx.t4, Fx.t22, Fx.t52, Try.results75, Try.ntmps75, e1, e2, hf]
    exact Fin.flatv (fun _ => rfl) (fun f => rfl) ⟨rfl, rfl, rfl⟩
theorem p64 (p : BitVec 16) : (BitVec.setWidth 64 p).toNat = p.toNat := by have := p.isLt; rw [BitVec.toNat_setWidth]; omega
theorem nx0_eq (p : BitVec 16) (h1 : 1 ≤ p.toNat) (h2 : p.toNat ≤ 2047) : (BitVec.setWidth 16 (BitVec.setWidth 64 p + (2048#64 - BitVec.setWidth 64 p) / 32#64)).toNat = (nx0 p).toNat := by
  have a1 : (2048#64 - BitVec.setWidth 64 p).toNat = 2048 - p.toNat := by
    rw [BitVec.toNat_sub, p64, show (2048#64).toNat = 2048 from rfl]; omega
  have a2 : ((2048#64 - BitVec.setWidth 64 p) / 32#64).toNat = (2048 - p.toNat) / 32 := by rw [BitVec.toNat_udiv, a1]; rfl
  have b1 : (2048#16 - p).toNat = 2048 - p.toNat := by
    rw [BitVec.toNat_sub, show (2048#16).toNat = 2048 from rfl]; omega
  have b2 : ((2048#16 - p) >>> 5).toNat = (2048 - p.toNat) / 32 := by rw [BitVec.toNat_ushiftRight, b1, Nat.shiftRight_eq_div_pow]
  unfold nx0
  rw [BitVec.toNat_setWidth, BitVec.toNat_add, BitVec.toNat_add, p64, a2, b2]
  omega
theorem nx1_eq (p : BitVec 16) (h1 : 1 ≤ p.toNat) (h2 : p.toNat ≤ 2047) : (BitVec.setWidth 16 (BitVec.setWidth 64 p - BitVec.setWidth 64 (p / 32#16))).toNat = (nx1 p).toNat := by
  have a1 : (BitVec.setWidth 64 (p / 32#16)).toNat = p.toNat / 32 := by rw [p64, BitVec.toNat_udiv]; rfl
  have b1 : (p >>> 5).toNat = p.toNat / 32 := by rw [BitVec.toNat_ushiftRight, Nat.shiftRight_eq_div_pow]
  unfold nx1
  rw [BitVec.toNat_setWidth, BitVec.toNat_sub, BitVec.toNat_sub, a1, b1, p64]
  omega
theorem bvsS_getD (k : IntKind) {w : Nat} (L : List (BitVec w)) (S : List AV) (i : Nat) (hi : i < L.length) : (bvs k L ++ S).getD i (.int k 0) = .int k ((L.getD i 0).toNat : Int) := by
  rw [← bvs_getD]
  simp only [List.getD_eq_getElem?_getD]
  rw [List.getElem?_append_left (by rw [bvs_length]; exact hi)]
def nxB (p : BitVec 16) (bit : Bool) : BitVec 16 := if bit then nx1 p else nx0 p
def bitI (bit : Bool) : Int := if bit then 1 else 0
set_option maxHeartbeats 400000 in
theorem nextOk (p : BitVec 16) (h1 : 1 ≤ p.toNat) (h2 : p.toNat ≤ 2047) (bit : Bool) : CallG false Try.prog 76 [.int .u64 (p.toNat : Int), .int .i64 (bitI bit)] (fun _ => true) [] 0 fun v m nx => v = .int .u16 ((nxB p bit).toNat : Int) ∧ m = [] ∧ nx = 0 := by
  refine fn_okG Try.func76 rfl (by show 2 ≤ _; decide) ?_
  cases bit with
  | false =>
    simp (config := { maxSteps := 1000000, implicitDefEqProofs := false }) only [-List.reduceReplicate, Nat.reduceBEq, renA, renL, renM, renO, evx, evs, evp, Eng.look, cst, cst1, putd, dstOk, params, loadx, partx, loI, hiI, bltx, mmI, boxx, srcx, calx, nilx, upd, del, resv, fillA, setMany, Nat.reduceLT, Nat.reduceLeDiff, Nat.reduceEqDiff, Nat.reduceAdd, Nat.reduceMul, Nat.reduceSub, reduceIte, reduceCtorEq, if_true, if_false, ite_true, ite_false, eq_self, forall_const, implies_true, Int.reduceLT, Int.reduceLE, Int.reduceToNat, Int.reduceAdd, Int.reduceSub, Int.reduceNeg, ne_eq, Int.reduceEq, Int.reduceNe, Int.reduceBEq, Int.reduceBNe, beq_self_eq_true, bne_self_eq_false, BitVec.reduceBEq, BitVec.reduceBNe, BitVec.reduceOfInt, BitVec.reduceSetWidth, wrD, engS0, engS1, engS2, engS3, engS4, engS5, engS6, engS7, engS8, engS9, engT0, engT1, engT2, Fx.t3, Fx.t4, Fx.t22, Fx.t52, Try.results76, Try.ntmps76, bitI]
    rw [nx0_eq p h1 h2]
    exact Fin.flatv (fun _ => rfl) (fun f => rfl) ⟨rfl, rfl, rfl⟩
  | true =>
    simp (config := { maxSteps := 1000000, implicitDefEqProofs := false }) only [-List.reduceReplicate, Nat.reduceBEq, renA, renL, renM, renO, evx, evs, evp, Eng.look, cst, cst1, putd, dstOk, params, loadx, partx, loI, hiI, bltx, mmI, boxx, srcx, calx, nilx, upd, del, resv, fillA, setMany, Nat.reduceLT, Nat.reduceLeDiff, Nat.reduceEqDiff, Nat.reduceAdd, Nat.reduceMul, Nat.reduceSub, reduceIte, reduceCtorEq, if_true, if_false, ite_true, ite_false, eq_self, forall_const, implies_true, Int.reduceLT, Int.reduceLE, Int.reduceToNat, Int.reduceAdd, Int.reduceSub, Int.reduceNeg, ne_eq, Int.reduceEq, Int.reduceNe, Int.reduceBEq, Int.reduceBNe, beq_self_eq_true, bne_self_eq_false, BitVec.reduceBEq, BitVec.reduceBNe, BitVec.reduceOfInt, BitVec.reduceSetWidth, wrD, engS0, engS1, engS2, engS3, engS4, engS5, engS6, engS7, engS8, engS9, engT0, engT1, engT2, Fx.t3, Fx.t4, Fx.t22, Fx.t52, Try.results76, Try.ntmps76, bitI]
    rw [nx1_eq p h1 h2]
    exact Fin.flatv (fun _ => rfl) (fun f => rfl) ⟨rfl, rfl, rfl⟩
/-- a reader: the place in the bytes behind the head, Code, Range, whether it is out -/
structure DS where
  k : Nat
  c : BitVec 32
  r : BitVec 32
  o : Bool
def scl (D : List (BitVec 8)) : Nat → DS → DS
  | 0, s => s
  | f + 1, s => if 16777216 ≤ s.r.toNat then s else if D.length ≤ s.k then ⟨s.k, s.c, s.r <<< 8, true⟩ else scl D f ⟨s.k + 1, s.c <<< 8 ||| (D.getD s.k 0).setWidth 32, s.r <<< 8, s.o⟩
def dM (D : List (BitVec 8)) (sp : List Value) (cap : Nat) (s : DS) : Mem := [(0, .cells [.sl 1 s.k (D.length - s.k) (cap - s.k), .int .u32 (s.c.toNat : Int), .int .u32 (s.r.toNat : Int), .bool s.o] 119), (1, .cells (bvs .u8 D ++ sp.map AV.val) 5)]
theorem shl8 (r : BitVec 32) (h : r.toNat < 16777216) : (r <<< 8).toNat = r.toNat * 256 := by
  rw [BitVec.toNat_shiftLeft, Nat.shiftLeft_eq]; omega
set_option maxHeartbeats 400000 in
theorem sclOk (D : List (BitVec 8)) (hD : D.length ≤ maxLen) (sp : List Value) (cap : Nat) (hcap : D.length + sp.length = cap) (s : DS) (hk : s.k ≤ D.length) (hr : 1 ≤ s.r.toNat) :
    CallG false Try.prog 74 [.ptr 0 0] (fun _ => true) (dM D sp cap s) 2 fun v m nx => v = .tup [] ∧ m = dM D sp cap (scl D 3 s) ∧ nx = 2 := by
  refine fn_okG Try.func74 rfl (by show 1 ≤ _; decide) ?_
  simp (config := { maxSteps := 1000000, implicitDefEqProofs := false }) only [-List.reduceReplicate, Nat.reduceBEq, renA, renL, renM, renO, evx, evs, evp, Eng.look, cst, cst1, putd, dstOk, params, loadx, partx, loI, hiI, bltx, mmI, boxx, srcx, calx, nilx, upd, del, resv, fillA, setMany, Nat.reduceLT, Nat.reduceLeDiff, Nat.reduceEqDiff, Nat.reduceAdd, Nat.reduceMul, Nat.reduceSub, reduceIte, reduceCtorEq, if_true, if_false, ite_true, ite_false, eq_self, forall_const, implies_true, Int.reduceLT, Int.reduceLE, Int.reduceToNat, Int.reduceAdd, Int.reduceSub, Int.reduceNeg, ne_eq, Int.reduceEq, Int.reduceNe, Int.reduceBEq, Int.reduceBNe, beq_self_eq_true, bne_self_eq_false, BitVec.reduceBEq, BitVec.reduceBNe, BitVec.reduceOfInt, BitVec.reduceSetWidth, wrD, engS0, engS1, engS2, engS3, engS4, engS5, engS6, engS7, engS8, engS9, engT0, engT1, engT2, Fx.t1, Fx.t2, Fx.t3, Fx.t4, Fx.t5, Fx.t23, Fx.t46, Fx.t53, Fx.t118, Fx.t119, Try.results74, Try.ntmps74]
  refine LoopOk.upX (fun i (x : DS) => scl D (3 - i) x = scl D 3 s ∧ x.k ≤ D.length ∧ 16777216 ≤ x.r.toNat * 256 ^ (3 - i)) 3 (fun i x => ([(0, .ptr 0 0)], dM D sp cap x, 2)) s ⟨rfl, hk, by show 16777216 ≤ s.r.toNat * 16777216; omega⟩ (Le.sameT (by decide) ⟨rfl, trivial⟩ (memSame_slf (by simp [dM])) (by simp [dM])) ?_
  intro i x ⟨hi, h1, h2, h3⟩
  rcases Nat.lt_or_ge x.r.toNat 16777216 with h | h
  · have g1 : decide ((x.r.toNat : Int) < 16777216) = true := by simp; omega
    have hi3 : i < 3 := by
      rcases Nat.lt_or_ge i 3 with g | g
      · exact g
      · rw [show 3 - i = 0 by omega] at h3; omega
    rcases Nat.lt_or_ge x.k D.length with hk2 | hk2
    · have g2 : (((D.length - x.k : Nat) : Int) == 0) = false := by simp; omega
      have hgd := bvsS_getD .u8 D (sp.map AV.val) x.k hk2
      simp (config := { maxSteps := 1000000, implicitDefEqProofs := false }) only [-List.reduceReplicate, Nat.reduceBEq, renA, renL, renM, renO, evx, evs, evp, Eng.look, cst, cst1, putd, dstOk, params, loadx, partx, loI, hiI, bltx, mmI, boxx, srcx, calx, nilx, upd, del, resv, fillA, setMany, Nat.reduceLT, Nat.reduceLeDiff, Nat.reduceEqDiff, Nat.reduceAdd, Nat.reduceMul, Nat.reduceSub, reduceIte, reduceCtorEq, if_true, if_false, ite_true, ite_false, eq_self, forall_const, implies_true, Int.reduceLT, Int.reduceLE, Int.reduceToNat, Int.reduceAdd, Int.reduceSub, Int.reduceNeg, ne_eq, Int.reduceEq, Int.reduceNe, Int.reduceBEq, Int.reduceBNe, beq_self_eq_true, bne_self_eq_false, BitVec.reduceBEq, BitVec.reduceBNe, BitVec.reduceOfInt, BitVec.reduceSetWidth, wrD, engS0, engS1, engS2, engS3, engS4, engS5, engS6, engS7, engS8, engS9, engT0, engT1, engT2, Fx.t1, Fx.t2, Fx.t3, Fx.t4, Fx.t5, Fx.t23, Fx.t46, Fx.t53, Fx.t118, Fx.t119, dM, g1, g2]
      refine ⟨Fx.mixed, .inr (.inl ⟨[(0, false), (1, false), (2, false), (3, false), (4, false), (5, false), (6, false), (7, false), (8, false), (9, false), (10, false), (11, false), (12, false), (13, false), (14, false), (15, false), (16, true)], [0], [16], [4, 9], by kernel_rfl, by kernel_rfl, (fun n hn => by cases List.mem_singleton.1 hn; exact ⟨rfl, rfl⟩), ?_⟩)⟩
      simp (config := { maxSteps := 1000000, implicitDefEqProofs := false }) only [-List.reduceReplicate, Nat.reduceBEq, renA, renL, renM, renO, evx, evs, evp, Eng.look, cst, cst1, putd, dstOk, params, loadx, partx, loI, hiI, bltx, mmI, boxx, srcx, calx, nilx, upd, del, resv, fillA, setMany, Nat.reduceLT, Nat.reduceLeDiff, Nat.reduceEqDiff, Nat.reduceAdd, Nat.reduceMul, Nat.reduceSub, reduceIte, reduceCtorEq, if_true, if_false, ite_true, ite_false, eq_self, forall_const, implies_true, Int.reduceLT, Int.reduceLE, Int.reduceToNat, Int.reduceAdd, Int.reduceSub, Int.reduceNeg, ne_eq, Int.reduceEq, Int.reduceNe, Int.reduceBEq, Int.reduceBNe, beq_self_eq_true, bne_self_eq_false, BitVec.reduceBEq, BitVec.reduceBNe, BitVec.reduceOfInt, BitVec.reduceSetWidth, wrD, engS0, engS1, engS2, engS3, engS4, engS5, engS6, engS7, engS8, engS9, engT0, engT1, engT2, Fx.t1, Fx.t2, Fx.t3, Fx.t4, Fx.t5, Fx.t23, Fx.t46, Fx.t53, Fx.t118, Fx.t119, dM, hgd]
      refine ⟨by omega, by omega, by omega, ?_⟩
      have hst : scl D (3 - (i + 1)) ⟨x.k + 1, x.c <<< 8 ||| (D.getD x.k 0).setWidth 32, x.r <<< 8, x.o⟩ = scl D 3 s := by
        rw [← h1, show 3 - i = (3 - (i + 1)) + 1 by omega, scl, if_neg (by omega), if_neg (by omega)]
      have hr2 := shl8 x.r h
      have hp : 256 ^ (3 - i) = 256 * 256 ^ (3 - (i + 1)) := by rw [show 3 - i = (3 - (i + 1)) + 1 by omega, Nat.pow_succ, Nat.mul_comm]
      refine UpX_normal hi3 ⟨x.k + 1, x.c <<< 8 ||| (D.getD x.k 0).setWidth 32, x.r <<< 8, x.o⟩ ⟨hst, by show x.k + 1 ≤ _; omega, by show _ ≤ (x.r <<< 8).toNat * _; rw [hr2, Nat.mul_assoc, ← hp]; exact h3⟩ ?_
      exact Le.sameT (by decide) ⟨rfl, trivial⟩ ⟨rfl, rfl, trivial⟩ (by simp [dM])
    · have g2 : (((D.length - x.k : Nat) : Int) == 0) = true := by simp; omega
      simp (config := { maxSteps := 1000000, implicitDefEqProofs := false }) only [-List.reduceReplicate, Nat.reduceBEq, renA, renL, renM, renO, evx, evs, evp, Eng.look, cst, cst1, putd, dstOk, params, loadx, partx, loI, hiI, bltx, mmI, boxx, srcx, calx, nilx, upd, del, resv, fillA, setMany, Nat.reduceLT, Nat.reduceLeDiff, Nat.reduceEqDiff, Nat.reduceAdd, Nat.reduceMul, Nat.reduceSub, reduceIte, reduceCtorEq, if_true, if_false, ite_true, ite_false, eq_self, forall_const, implies_true, Int.reduceLT, Int.reduceLE, Int.reduceToNat, Int.reduceAdd, Int.reduceSub, Int.reduceNeg, ne_eq, Int.reduceEq, Int.reduceNe, Int.reduceBEq, Int.reduceBNe, beq_self_eq_true, bne_self_eq_false, BitVec.reduceBEq, BitVec.reduceBNe, BitVec.reduceOfInt, BitVec.reduceSetWidth, wrD, engS0, engS1, engS2, engS3, engS4, engS5, engS6, engS7, engS8, engS9, engT0, engT1, engT2, Fx.t1, Fx.t2, Fx.t3, Fx.t4, Fx.t5, Fx.t23, Fx.t46, Fx.t53, Fx.t118, Fx.t119, dM, g1, g2]
      have hst : (⟨x.k, x.c, x.r <<< 8, true⟩ : DS) = scl D 3 s := by
        rw [← h1, show 3 - i = (3 - (i + 1)) + 1 by omega, scl, if_neg (by omega), if_pos (by omega)]
      rw [← hst]
      exact Fin.keep (m0 := dM D sp cap ⟨x.k, x.c, x.r <<< 8, true⟩) (Nat.le_refl _) ⟨rfl, rfl, trivial⟩ (by simp [dM]) ⟨rfl, rfl, rfl⟩
  · have g1 : decide ((x.r.toNat : Int) < 16777216) = false := by simp; omega
    simp (config := { maxSteps := 1000000, implicitDefEqProofs := false }) only [-List.reduceReplicate, Nat.reduceBEq, renA, renL, renM, renO, evx, evs, evp, Eng.look, cst, cst1, putd, dstOk, params, loadx, partx, loI, hiI, bltx, mmI, boxx, srcx, calx, nilx, upd, del, resv, fillA, setMany, Nat.reduceLT, Nat.reduceLeDiff, Nat.reduceEqDiff, Nat.reduceAdd, Nat.reduceMul, Nat.reduceSub, reduceIte, reduceCtorEq, if_true, if_false, ite_true, ite_false, eq_self, forall_const, implies_true, Int.reduceLT, Int.reduceLE, Int.reduceToNat, Int.reduceAdd, Int.reduceSub, Int.reduceNeg, ne_eq, Int.reduceEq, Int.reduceNe, Int.reduceBEq, Int.reduceBNe, beq_self_eq_true, bne_self_eq_false, BitVec.reduceBEq, BitVec.reduceBNe, BitVec.reduceOfInt, BitVec.reduceSetWidth, wrD, engS0, engS1, engS2, engS3, engS4, engS5, engS6, engS7, engS8, engS9, engT0, engT1, engT2, Fx.t1, Fx.t2, Fx.t3, Fx.t4, Fx.t5, Fx.t23, Fx.t46, Fx.t53, Fx.t118, Fx.t119, dM, g1]
    have hst : x = scl D 3 s := by
      rw [← h1]
      cases hc : 3 - i with
      | zero => rfl
      | succ f => rw [scl, if_pos (by omega)]
    rw [← hst]
    exact Fin.keep (m0 := dM D sp cap x) (Nat.le_refl _) ⟨rfl, rfl, trivial⟩ (by simp [dM]) ⟨rfl, rfl, rfl⟩
/-- the document's reader, of bytes with a head of five -/
def rM (b : List (BitVec 8)) (s : DS) : Mem := [(0, .cells [.ro b.length (bvs .u8 b), .int .i64 ((5 + s.k : Nat) : Int), .int .u64 (s.c.toNat : Int), .int .u64 (s.r.toNat : Int), .bool s.o] 63)]
theorem w64 (x : BitVec 32) : (BitVec.setWidth 64 x).toNat = x.toNat := by have := x.isLt; rw [BitVec.toNat_setWidth]; omega
theorem b64 (x : BitVec 8) : (BitVec.setWidth 64 x).toNat = x.toNat := by have := x.isLt; rw [BitVec.toNat_setWidth]; omega
theorem r256 (r : BitVec 32) (h : r.toNat < 16777216) : (BitVec.setWidth 64 r * 256#64).toNat = (r <<< 8).toNat := by
  rw [BitVec.toNat_mul, w64, shl8 r h, show (256#64).toNat = 256 from rfl]; omega
theorem or8 (c : BitVec 32) (q : BitVec 8) : (c <<< 8 ||| q.setWidth 32).toNat = (256 * c.toNat + q.toNat) % 4294967296 := by
  have hq := q.isLt
  have hc := c.isLt
  have e : c.toNat * 256 % 4294967296 = 2 ^ 8 * (c.toNat % 16777216) := by omega
  rw [BitVec.toNat_or, BitVec.toNat_shiftLeft, Nat.shiftLeft_eq, BitVec.toNat_setWidth, show (2 : Nat) ^ 32 = 4294967296 from rfl, show (2 : Nat) ^ 8 = 256 from rfl, e, Nat.mod_eq_of_lt (a := q.toNat) (by omega), ← Nat.two_pow_add_eq_or_of_lt (by omega : q.toNat < 2 ^ 8)]
  omega
theorem c256 (c : BitVec 32) (q : BitVec 8) : ((256#64 * BitVec.setWidth 64 c + BitVec.setWidth 64 q) % 4294967296#64).toNat = (c <<< 8 ||| q.setWidth 32).toNat := by
  have hq := q.isLt
  have hc := c.isLt
  rw [or8, BitVec.toNat_umod, BitVec.toNat_add, BitVec.toNat_mul, w64, b64, show (256#64).toNat = 256 from rfl, show (4294967296#64).toNat = 4294967296 from rfl]
  omega
set_option maxHeartbeats 400000 in
theorem rsclOk (b : List (BitVec 8)) (hb : 5 ≤ b.length) (hb2 : b.length ≤ maxLen) (s : DS) (hk : s.k ≤ (b.drop 5).length) (hr : 1 ≤ s.r.toNat) :
    CallG false Try.prog 77 [.ptr 0 0] (fun _ => true) (rM b s) 1 fun v m nx => v = .tup [] ∧ m = rM b (scl (b.drop 5) 3 s) ∧ nx = 1 := by
  refine fn_okG Try.func77 rfl (by show 1 ≤ _; decide) ?_
  have hm : maxLen ≤ 9223372036854775807 := by decide
  have hdl : (b.drop 5).length = b.length - 5 := List.length_drop ..
  simp (config := { maxSteps := 1000000, implicitDefEqProofs := false }) only [-List.reduceReplicate, Nat.reduceBEq, renA, renL, renM, renO, evx, evs, evp, Eng.look, cst, cst1, putd, dstOk, params, loadx, partx, loI, hiI, bltx, mmI, boxx, srcx, calx, nilx, upd, del, resv, fillA, setMany, Nat.reduceLT, Nat.reduceLeDiff, Nat.reduceEqDiff, Nat.reduceAdd, Nat.reduceMul, Nat.reduceSub, reduceIte, reduceCtorEq, if_true, if_false, ite_true, ite_false, eq_self, forall_const, implies_true, Int.reduceLT, Int.reduceLE, Int.reduceToNat, Int.reduceAdd, Int.reduceSub, Int.reduceNeg, ne_eq, Int.reduceEq, Int.reduceNe, Int.reduceBEq, Int.reduceBNe, beq_self_eq_true, bne_self_eq_false, BitVec.reduceBEq, BitVec.reduceBNe, BitVec.reduceOfInt, BitVec.reduceSetWidth, wrD, engS0, engS1, engS2, engS3, engS4, engS5, engS6, engS7, engS8, engS9, engT0, engT1, engT2, Fx.t1, Fx.t2, Fx.t3, Fx.t4, Fx.t5, Fx.t22, Fx.t23, Fx.t49, Fx.t62, Fx.t63, Try.results77, Try.ntmps77]
  refine LoopOk.upX (fun i (x : DS) => scl (b.drop 5) (3 - i) x = scl (b.drop 5) 3 s ∧ x.k ≤ (b.drop 5).length ∧ 16777216 ≤ x.r.toNat * 256 ^ (3 - i)) 3 (fun i x => ([(0, .ptr 0 0)], rM b x, 1)) s ⟨rfl, hk, by show 16777216 ≤ s.r.toNat * 16777216; omega⟩ (Le.sameT (by decide) ⟨rfl, trivial⟩ (memSame_slf (by simp [rM])) (by simp [rM])) ?_
  intro i x ⟨hi, h1, h2, h3⟩
  rcases Nat.lt_or_ge x.r.toNat 16777216 with h | h
  · have g1 : decide ((x.r.toNat : Int) < 16777216) = true := by simp; omega
    have hr1 := r256 x.r h
    have hi3 : i < 3 := by
      rcases Nat.lt_or_ge i 3 with g | g
      · exact g
      · rw [show 3 - i = 0 by omega] at h3; omega
    rcases Nat.lt_or_ge x.k (b.drop 5).length with hk2 | hk2
    · have g2 : decide (((5 + x.k : Nat) : Int) ≥ (b.length : Int)) = false := by simp; omega
      have wk : IntKind.i64.wrap (((5 + x.k : Nat) : Int) + 1) = ((5 + (x.k + 1) : Nat) : Int) := by rw [wrap_i64] <;> omega
      have hgd : (b.drop 5).getD x.k 0 = b.getD (5 + x.k) 0 := drop_getD _ _ _ _
      have hc1 := c256 x.c (b.getD (5 + x.k) 0)
      simp (config := { maxSteps := 1000000, implicitDefEqProofs := false }) only [-List.reduceReplicate, Nat.reduceBEq, renA, renL, renM, renO, evx, evs, evp, Eng.look, cst, cst1, putd, dstOk, params, loadx, partx, loI, hiI, bltx, mmI, boxx, srcx, calx, nilx, upd, del, resv, fillA, setMany, Nat.reduceLT, Nat.reduceLeDiff, Nat.reduceEqDiff, Nat.reduceAdd, Nat.reduceMul, Nat.reduceSub, reduceIte, reduceCtorEq, if_true, if_false, ite_true, ite_false, eq_self, forall_const, implies_true, Int.reduceLT, Int.reduceLE, Int.reduceToNat, Int.reduceAdd, Int.reduceSub, Int.reduceNeg, ne_eq, Int.reduceEq, Int.reduceNe, Int.reduceBEq, Int.reduceBNe, beq_self_eq_true, bne_self_eq_false, BitVec.reduceBEq, BitVec.reduceBNe, BitVec.reduceOfInt, BitVec.reduceSetWidth, wrD, engS0, engS1, engS2, engS3, engS4, engS5, engS6, engS7, engS8, engS9, engT0, engT1, engT2, Fx.t1, Fx.t2, Fx.t3, Fx.t4, Fx.t5, Fx.t22, Fx.t23, Fx.t49, Fx.t62, Fx.t63, rM, g1, hr1]
      refine ⟨Fx.mixed, .inl ⟨[(0, false), (1, false), (2, false), (3, false), (4, false), (5, false), (6, false), (7, false), (8, false), (9, false)], [], by kernel_rfl, (fun n hn => by cases hn), ?_⟩⟩
      simp (config := { maxSteps := 1000000, implicitDefEqProofs := false }) only [-List.reduceReplicate, Nat.reduceBEq, renA, renL, renM, renO, evx, evs, evp, Eng.look, cst, cst1, putd, dstOk, params, loadx, partx, loI, hiI, bltx, mmI, boxx, srcx, calx, nilx, upd, del, resv, fillA, setMany, Nat.reduceLT, Nat.reduceLeDiff, Nat.reduceEqDiff, Nat.reduceAdd, Nat.reduceMul, Nat.reduceSub, reduceIte, reduceCtorEq, if_true, if_false, ite_true, ite_false, eq_self, forall_const, implies_true, Int.reduceLT, Int.reduceLE, Int.reduceToNat, Int.reduceAdd, Int.reduceSub, Int.reduceNeg, ne_eq, Int.reduceEq, Int.reduceNe, Int.reduceBEq, Int.reduceBNe, beq_self_eq_true, bne_self_eq_false, BitVec.reduceBEq, BitVec.reduceBNe, BitVec.reduceOfInt, BitVec.reduceSetWidth, wrD, engS0, engS1, engS2, engS3, engS4, engS5, engS6, engS7, engS8, engS9, engT0, engT1, engT2, Fx.t1, Fx.t2, Fx.t3, Fx.t4, Fx.t5, Fx.t22, Fx.t23, Fx.t49, Fx.t62, Fx.t63, g2]
      refine ⟨Fx.mixed, .inr (.inl ⟨[(0, false), (1, false), (2, false), (3, false), (4, false), (5, false), (6, false), (7, false), (8, false), (9, false), (10, false), (11, false), (12, false), (13, false), (14, false), (15, false), (16, false), (17, false), (18, false), (19, false), (20, false), (21, true)], [0], [21], [4, 9, 13], by kernel_rfl, by kernel_rfl, (fun n hn => by cases List.mem_singleton.1 hn; exact ⟨rfl, rfl⟩), ?_⟩)⟩
      simp (config := { maxSteps := 1000000, implicitDefEqProofs := false }) only [-List.reduceReplicate, Nat.reduceBEq, renA, renL, renM, renO, evx, evs, evp, Eng.look, cst, cst1, putd, dstOk, params, loadx, partx, loI, hiI, bltx, mmI, boxx, srcx, calx, nilx, upd, del, resv, fillA, setMany, Nat.reduceLT, Nat.reduceLeDiff, Nat.reduceEqDiff, Nat.reduceAdd, Nat.reduceMul, Nat.reduceSub, reduceIte, reduceCtorEq, if_true, if_false, ite_true, ite_false, eq_self, forall_const, implies_true, Int.reduceLT, Int.reduceLE, Int.reduceToNat, Int.reduceAdd, Int.reduceSub, Int.reduceNeg, ne_eq, Int.reduceEq, Int.reduceNe, Int.reduceBEq, Int.reduceBNe, beq_self_eq_true, bne_self_eq_false, BitVec.reduceBEq, BitVec.reduceBNe, BitVec.reduceOfInt, BitVec.reduceSetWidth, wrD, engS0, engS1, engS2, engS3, engS4, engS5, engS6, engS7, engS8, engS9, engT0, engT1, engT2, Fx.t1, Fx.t2, Fx.t3, Fx.t4, Fx.t5, Fx.t22, Fx.t23, Fx.t49, Fx.t62, Fx.t63, wk, hc1]
      refine ⟨by omega, by omega, by rw [List.length_drop]; omega, ?_⟩
      have hst : scl (b.drop 5) (3 - (i + 1)) ⟨x.k + 1, x.c <<< 8 ||| ((b.drop 5).getD x.k 0).setWidth 32, x.r <<< 8, x.o⟩ = scl (b.drop 5) 3 s := by
        rw [← h1, show 3 - i = (3 - (i + 1)) + 1 by omega, scl, if_neg (by omega), if_neg (by omega)]
      have hr2 := shl8 x.r h
      have hp : 256 ^ (3 - i) = 256 * 256 ^ (3 - (i + 1)) := by rw [show 3 - i = (3 - (i + 1)) + 1 by omega, Nat.pow_succ, Nat.mul_comm]
      rw [hgd] at hst
      refine UpX_normal hi3 ⟨x.k + 1, x.c <<< 8 ||| (b.getD (5 + x.k) 0).setWidth 32, x.r <<< 8, x.o⟩ ⟨hst, by show x.k + 1 ≤ _; omega, by show _ ≤ (x.r <<< 8).toNat * _; rw [hr2, Nat.mul_assoc, ← hp]; exact h3⟩ ?_
      exact Le.sameT (by decide) ⟨rfl, trivial⟩ ⟨rfl, trivial⟩ (by simp [rM])
    · have g2 : decide (((5 + x.k : Nat) : Int) ≥ (b.length : Int)) = true := by simp; omega
      simp (config := { maxSteps := 1000000, implicitDefEqProofs := false }) only [-List.reduceReplicate, Nat.reduceBEq, renA, renL, renM, renO, evx, evs, evp, Eng.look, cst, cst1, putd, dstOk, params, loadx, partx, loI, hiI, bltx, mmI, boxx, srcx, calx, nilx, upd, del, resv, fillA, setMany, Nat.reduceLT, Nat.reduceLeDiff, Nat.reduceEqDiff, Nat.reduceAdd, Nat.reduceMul, Nat.reduceSub, reduceIte, reduceCtorEq, if_true, if_false, ite_true, ite_false, eq_self, forall_const, implies_true, Int.reduceLT, Int.reduceLE, Int.reduceToNat, Int.reduceAdd, Int.reduceSub, Int.reduceNeg, ne_eq, Int.reduceEq, Int.reduceNe, Int.reduceBEq, Int.reduceBNe, beq_self_eq_true, bne_self_eq_false, BitVec.reduceBEq, BitVec.reduceBNe, BitVec.reduceOfInt, BitVec.reduceSetWidth, wrD, engS0, engS1, engS2, engS3, engS4, engS5, engS6, engS7, engS8, engS9, engT0, engT1, engT2, Fx.t1, Fx.t2, Fx.t3, Fx.t4, Fx.t5, Fx.t22, Fx.t23, Fx.t49, Fx.t62, Fx.t63, rM, g1, hr1]
      refine ⟨Fx.mixed, .inl ⟨[(0, false), (1, false), (2, false), (3, false), (4, false), (5, false), (6, false), (7, false), (8, false), (9, false)], [], by kernel_rfl, (fun n hn => by cases hn), ?_⟩⟩
      simp (config := { maxSteps := 1000000, implicitDefEqProofs := false }) only [-List.reduceReplicate, Nat.reduceBEq, renA, renL, renM, renO, evx, evs, evp, Eng.look, cst, cst1, putd, dstOk, params, loadx, partx, loI, hiI, bltx, mmI, boxx, srcx, calx, nilx, upd, del, resv, fillA, setMany, Nat.reduceLT, Nat.reduceLeDiff, Nat.reduceEqDiff, Nat.reduceAdd, Nat.reduceMul, Nat.reduceSub, reduceIte, reduceCtorEq, if_true, if_false, ite_true, ite_false, eq_self, forall_const, implies_true, Int.reduceLT, Int.reduceLE, Int.reduceToNat, Int.reduceAdd, Int.reduceSub, Int.reduceNeg, ne_eq, Int.reduceEq, Int.reduceNe, Int.reduceBEq, Int.reduceBNe, beq_self_eq_true, bne_self_eq_false, BitVec.reduceBEq, BitVec.reduceBNe, BitVec.reduceOfInt, BitVec.reduceSetWidth, wrD, engS0, engS1, engS2, engS3, engS4, engS5, engS6, engS7, engS8, engS9, engT0, engT1, engT2, Fx.t1, Fx.t2, Fx.t3, Fx.t4, Fx.t5, Fx.t22, Fx.t23, Fx.t49, Fx.t62, Fx.t63, g2]
      have hst : (⟨x.k, x.c, x.r <<< 8, true⟩ : DS) = scl (b.drop 5) 3 s := by
        rw [← h1, show 3 - i = (3 - (i + 1)) + 1 by omega, scl, if_neg (by omega), if_pos (by omega)]
      rw [← hst]
      exact Fin.keep (m0 := rM b ⟨x.k, x.c, x.r <<< 8, true⟩) (Nat.le_refl _) ⟨rfl, trivial⟩ (by simp [rM]) ⟨rfl, rfl, rfl⟩
  · have g1 : decide ((x.r.toNat : Int) < 16777216) = false := by simp; omega
    simp (config := { maxSteps := 1000000, implicitDefEqProofs := false }) only [-List.reduceReplicate, Nat.reduceBEq, renA, renL, renM, renO, evx, evs, evp, Eng.look, cst, cst1, putd, dstOk, params, loadx, partx, loI, hiI, bltx, mmI, boxx, srcx, calx, nilx, upd, del, resv, fillA, setMany, Nat.reduceLT, Nat.reduceLeDiff, Nat.reduceEqDiff, Nat.reduceAdd, Nat.reduceMul, Nat.reduceSub, reduceIte, reduceCtorEq, if_true, if_false, ite_true, ite_false, eq_self, forall_const, implies_true, Int.reduceLT, Int.reduceLE, Int.reduceToNat, Int.reduceAdd, Int.reduceSub, Int.reduceNeg, ne_eq, Int.reduceEq, Int.reduceNe, Int.reduceBEq, Int.reduceBNe, beq_self_eq_true, bne_self_eq_false, BitVec.reduceBEq, BitVec.reduceBNe, BitVec.reduceOfInt, BitVec.reduceSetWidth, wrD, engS0, engS1, engS2, engS3, engS4, engS5, engS6, engS7, engS8, engS9, engT0, engT1, engT2, Fx.t1, Fx.t2, Fx.t3, Fx.t4, Fx.t5, Fx.t22, Fx.t23, Fx.t49, Fx.t62, Fx.t63, rM, g1]
    have hst : x = scl (b.drop 5) 3 s := by
      rw [← h1]
      cases hc : 3 - i with
      | zero => rfl
      | succ f => rw [scl, if_pos (by omega)]
    rw [← hst]
    exact Fin.keep (m0 := rM b x) (Nat.le_refl _) ⟨rfl, trivial⟩ (by simp [rM]) ⟨rfl, rfl, rfl⟩
end Go.Proofs.Ytmnbbpckglppjaa
