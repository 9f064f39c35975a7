/- Reading bits: a bit, and plain bits. -/
import Derived.Test.YtmnbbpckglppjaaEng19
import Derived.Test.YtmnbbpckglppjaaEng26
import Derived.Test.YtmnbbpckglppjaaRda
set_option linter.unusedVariables false
set_option linter.unusedSimpArgs false
set_option maxRecDepth 100000
namespace Go.Proofs.Ytmnbbpckglppjaa
open Go Go.Eng

def okS (D : List (BitVec 8)) (s : DS) : Prop := s.k ≤ D.length ∧ (s.o = false → 16777216 ≤ s.r.toNat)
theorem scl_ok (D : List (BitVec 8)) : ∀ (f : Nat) (s : DS), s.k ≤ D.length → 16777216 ≤ s.r.toNat * 256 ^ f → okS D (scl D f s)
  | 0, s, h1, h2 => ⟨h1, fun _ => by rw [Nat.pow_zero, Nat.mul_one] at h2; exact h2⟩
  | f + 1, s, h1, h2 => by
    rw [scl]
    split
    · exact ⟨h1, fun _ => by assumption⟩
    · split
      · exact ⟨h1, fun e => by cases e⟩
      · refine scl_ok D f _ (by show s.k + 1 ≤ _; omega) ?_
        show _ ≤ (s.r <<< 8).toNat * _
        rw [shl8 s.r (by omega), Nat.mul_assoc, show 256 * 256 ^ f = 256 ^ (f + 1) by rw [Nat.pow_succ, Nat.mul_comm]]
        exact h2
theorem scl_ok3 (D : List (BitVec 8)) (s : DS) (h1 : s.k ≤ D.length) (h2 : 1 ≤ s.r.toNat) : okS D (scl D 3 s) := scl_ok D 3 s h1 (by show _ ≤ _ * 16777216; omega)
def bnd (r : BitVec 32) (p : BitVec 16) : BitVec 32 := (r >>> 11) * p.setWidth 32
theorem bnd_nat (r : BitVec 32) (p : BitVec 16) (hp : p.toNat ≤ 2047) : (bnd r p).toNat = r.toNat / 2048 * p.toNat := by
  have hr := r.isLt
  have h1 : (r >>> 11).toNat = r.toNat / 2048 := by rw [BitVec.toNat_ushiftRight, Nat.shiftRight_eq_div_pow]
  have h2 : (p.setWidth 32).toNat = p.toNat := by rw [BitVec.toNat_setWidth]; omega
  have h3 : r.toNat / 2048 * p.toNat ≤ r.toNat / 2048 * 2047 := Nat.mul_le_mul_left _ hp
  rw [bnd, BitVec.toNat_mul, h1, h2]
  exact Nat.mod_eq_of_lt (by omega)
theorem bnd_range (r : BitVec 32) (p : BitVec 16) (h1 : 1 ≤ p.toNat) (hp : p.toNat ≤ 2047) (hr : 16777216 ≤ r.toNat) : 8192 ≤ (bnd r p).toNat ∧ (bnd r p).toNat + 8192 ≤ r.toNat := by
  have hn := bnd_nat r p hp
  have h2 : r.toNat / 2048 * p.toNat ≤ r.toNat / 2048 * 2047 := Nat.mul_le_mul_left _ hp
  have h3 : r.toNat / 2048 * 1 ≤ r.toNat / 2048 * p.toNat := Nat.mul_le_mul_left _ h1
  omega
theorem bnd64 (r : BitVec 32) (p : BitVec 16) (hp : p.toNat ≤ 2047) : (BitVec.setWidth 64 (r / 2048#32) * BitVec.setWidth 64 p).toNat = (bnd r p).toNat := by
  have hr := r.isLt
  have h1 : (r / 2048#32).toNat = r.toNat / 2048 := by rw [BitVec.toNat_udiv]; rfl
  have h3 : r.toNat / 2048 * p.toNat ≤ r.toNat / 2048 * 2047 := Nat.mul_le_mul_left _ hp
  rw [bnd_nat r p hp, BitVec.toNat_mul, w64, p64, h1]
  exact Nat.mod_eq_of_lt (by omega)
theorem sub64 (a b : BitVec 32) (h : b.toNat ≤ a.toNat) : (BitVec.setWidth 64 a - BitVec.setWidth 64 b).toNat = (a - b).toNat := by
  have ha := a.isLt
  have hb := b.isLt
  rw [BitVec.toNat_sub, BitVec.toNat_sub, w64, w64]; omega
theorem subN (a b : BitVec 32) (h : b.toNat ≤ a.toNat) : (a - b).toNat = a.toNat - b.toNat := by
  have ha := a.isLt
  rw [BitVec.toNat_sub]; omega
def bitS (D : List (BitVec 8)) (s : DS) (p : BitVec 16) : Bool × DS :=
  if s.o then (false, s) else if s.c.toNat < (bnd s.r p).toNat then (false, scl D 3 ⟨s.k, s.c, bnd s.r p, s.o⟩) else (true, scl D 3 ⟨s.k, s.c - bnd s.r p, s.r - bnd s.r p, s.o⟩)
theorem bitS_ok (D : List (BitVec 8)) (s : DS) (p : BitVec 16) (h1 : 1 ≤ p.toNat) (hp : p.toNat ≤ 2047) (hs : okS D s) : okS D (bitS D s p).2 := by
  obtain ⟨k1, k2⟩ := hs
  unfold bitS
  split
  · exact ⟨k1, k2⟩
  · have ho : s.o = false := by simpa using ‹¬ s.o = true›
    obtain ⟨g1, g2⟩ := bnd_range s.r p h1 hp (k2 ho)
    split
    · exact scl_ok3 D _ k1 (by show 1 ≤ (bnd s.r p).toNat; omega)
    · exact scl_ok3 D _ k1 (by show 1 ≤ (s.r - bnd s.r p).toNat; rw [subN _ _ (by omega)]; omega)
theorem keep2 {wr : Nat → Bool} (hw : ∀ n, 2 ≤ n → wr n = true) (D : List (BitVec 8)) (sp : List Value) (cap : Nat) (s : DS) (n : Nat) (e : wr n = false) : ∃ o, Eng.look (dM D sp cap s) n = some o := by
  rcases n with _ | _ | n
  · exact ⟨_, rfl⟩
  · exact ⟨_, rfl⟩
  · rw [hw _ (by omega)] at e; cases e
theorem outOk (D : List (BitVec 8)) (sp : List Value) (cap : Nat) (s : DS) {wr : Nat → Bool} (hw : ∀ n, 2 ≤ n → wr n = true) :
    CallG false Try.prog 33 [.ptr 0 0] wr (dM D sp cap s) 2 fun v m nx => v = .bool s.o ∧ m = dM D sp cap s ∧ nx = 2 := by
  refine fn_okG Try.func33 rfl (by show 1 ≤ _; decide) ?_
  simp (config := { maxSteps := 1000000, implicitDefEqProofs := false }) only [-List.reduceReplicate, Nat.reduceBEq, renA, renL, renM, renO, evx, evs, evp, Eng.look, cst, cst1, putd, dstOk, params, loadx, partx, loI, hiI, bltx, mmI, boxx, srcx, calx, nilx, upd, del, resv, fillA, setMany, Nat.reduceLT, Nat.reduceLeDiff, Nat.reduceEqDiff, Nat.reduceAdd, Nat.reduceMul, Nat.reduceSub, reduceIte, reduceCtorEq, if_true, if_false, ite_true, ite_false, eq_self, forall_const, implies_true, Int.reduceLT, Int.reduceLE, Int.reduceToNat, Int.reduceAdd, Int.reduceSub, Int.reduceNeg, ne_eq, Int.reduceEq, Int.reduceNe, Int.reduceBEq, Int.reduceBNe, beq_self_eq_true, bne_self_eq_false, BitVec.reduceBEq, BitVec.reduceBNe, BitVec.reduceOfInt, BitVec.reduceSetWidth, wrD, engS0, engS1, engS2, engS3, engS4, engS5, engS6, engS7, engS8, engS9, engT0, engT1, engT2, Fx.t3, Fx.t4, Fx.t5, Fx.t23, Fx.t46, Fx.t53, Fx.t118, Fx.t119, Try.results33, Try.ntmps33, dM]
  exact Fin.keepW (m0 := dM D sp cap s) (Nat.le_refl _) ⟨rfl, rfl, trivial⟩ (by simp [dM]) (keep2 hw D sp cap s) ⟨rfl, rfl, rfl⟩
theorem outNil : CallG false Try.prog 33 [.nilp] (fun _ => true) [] 0 fun v m nx => v = .bool true ∧ m = [] ∧ nx = 0 := by
  refine fn_okG Try.func33 rfl (by show 1 ≤ _; decide) ?_
  simp (config := { maxSteps := 1000000, implicitDefEqProofs := false }) only [-List.reduceReplicate, Nat.reduceBEq, renA, renL, renM, renO, evx, evs, evp, Eng.look, cst, cst1, putd, dstOk, params, loadx, partx, loI, hiI, bltx, mmI, boxx, srcx, calx, nilx, upd, del, resv, fillA, setMany, Nat.reduceLT, Nat.reduceLeDiff, Nat.reduceEqDiff, Nat.reduceAdd, Nat.reduceMul, Nat.reduceSub, reduceIte, reduceCtorEq, if_true, if_false, ite_true, ite_false, eq_self, forall_const, implies_true, Int.reduceLT, Int.reduceLE, Int.reduceToNat, Int.reduceAdd, Int.reduceSub, Int.reduceNeg, ne_eq, Int.reduceEq, Int.reduceNe, Int.reduceBEq, Int.reduceBNe, beq_self_eq_true, bne_self_eq_false, BitVec.reduceBEq, BitVec.reduceBNe, BitVec.reduceOfInt, BitVec.reduceSetWidth, wrD, engS0, engS1, engS2, engS3, engS4, engS5, engS6, engS7, engS8, engS9, engT0, engT1, engT2, Fx.t3, Fx.t4, Fx.t5, Fx.t23, Fx.t46, Fx.t53, Fx.t118, Fx.t119, Try.results33, Try.ntmps33]
  exact Fin.flatv (fun _ => rfl) (fun f => rfl) ⟨rfl, rfl, rfl⟩
def doneS (D : List (BitVec 8)) (s : DS) : Bool := !s.o && decide (s.k = D.length) && (s.c == 0#32)
theorem doneOk (D : List (BitVec 8)) (sp : List Value) (cap : Nat) (s : DS) (hk : s.k ≤ D.length) {wr : Nat → Bool} (hw : ∀ n, 2 ≤ n → wr n = true) :
    CallG false Try.prog 34 [.ptr 0 0] wr (dM D sp cap s) 2 fun v m nx => v = .bool (doneS D s) ∧ m = dM D sp cap s ∧ nx = 2 := by
  refine fn_okG Try.func34 rfl (by show 1 ≤ _; decide) ?_
  simp (config := { maxSteps := 1000000, implicitDefEqProofs := false }) only [-List.reduceReplicate, Nat.reduceBEq, renA, renL, renM, renO, evx, evs, evp, Eng.look, cst, cst1, putd, dstOk, params, loadx, partx, loI, hiI, bltx, mmI, boxx, srcx, calx, nilx, upd, del, resv, fillA, setMany, Nat.reduceLT, Nat.reduceLeDiff, Nat.reduceEqDiff, Nat.reduceAdd, Nat.reduceMul, Nat.reduceSub, reduceIte, reduceCtorEq, if_true, if_false, ite_true, ite_false, eq_self, forall_const, implies_true, Int.reduceLT, Int.reduceLE, Int.reduceToNat, Int.reduceAdd, Int.reduceSub, Int.reduceNeg, ne_eq, Int.reduceEq, Int.reduceNe, Int.reduceBEq, Int.reduceBNe, beq_self_eq_true, bne_self_eq_false, BitVec.reduceBEq, BitVec.reduceBNe, BitVec.reduceOfInt, BitVec.reduceSetWidth, wrD, engS0, engS1, engS2, engS3, engS4, engS5, engS6, engS7, engS8, engS9, engT0, engT1, engT2, Fx.t1, Fx.t3, Fx.t4, Fx.t5, Fx.t23, Fx.t46, Fx.t53, Fx.t118, Fx.t119, Fx.en33, Try.results34, Try.ntmps34]
  refine (outOk D sp cap s hw).weak ?_
  rintro v m nx ⟨rfl, rfl, rfl⟩
  have fin : ∀ {x : Bool}, x = doneS D s → Eng.Fin 2 wr (dM D sp cap s) 2 (fun v m nx => v = .bool (doneS D s) ∧ m = dM D sp cap s ∧ nx = 2) (.bool x) :=
    fun e => Fin.keepW (m0 := dM D sp cap s) (Nat.le_refl _) ⟨rfl, rfl, trivial⟩ (by simp [dM]) (keep2 hw D sp cap s) ⟨by rw [e], rfl, rfl⟩
  cases ho : s.o with
  | true =>
    simp (config := { maxSteps := 1000000, implicitDefEqProofs := false }) only [-List.reduceReplicate, Nat.reduceBEq, renA, renL, renM, renO, evx, evs, evp, Eng.look, cst, cst1, putd, dstOk, params, loadx, partx, loI, hiI, bltx, mmI, boxx, srcx, calx, nilx, upd, del, resv, fillA, setMany, Nat.reduceLT, Nat.reduceLeDiff, Nat.reduceEqDiff, Nat.reduceAdd, Nat.reduceMul, Nat.reduceSub, reduceIte, reduceCtorEq, if_true, if_false, ite_true, ite_false, eq_self, forall_const, implies_true, Int.reduceLT, Int.reduceLE, Int.reduceToNat, Int.reduceAdd, Int.reduceSub, Int.reduceNeg, ne_eq, Int.reduceEq, Int.reduceNe, Int.reduceBEq, Int.reduceBNe, beq_self_eq_true, bne_self_eq_false, BitVec.reduceBEq, BitVec.reduceBNe, BitVec.reduceOfInt, BitVec.reduceSetWidth, wrD, engS0, engS1, engS2, engS3, engS4, engS5, engS6, engS7, engS8, engS9, engT0, engT1, engT2, Fx.t1, Fx.t3, Fx.t4, Fx.t5, Fx.t23, Fx.t46, Fx.t53, Fx.t118, Fx.t119, Fx.en33]
    exact fin (by rw [doneS, ho]; rfl)
  | false =>
    cases hl : (((D.length - s.k : Nat) : Int) == 0) with
    | true =>
      have h0 : s.k = D.length := by simp at hl; omega
      simp (config := { maxSteps := 1000000, implicitDefEqProofs := false }) only [-List.reduceReplicate, Nat.reduceBEq, renA, renL, renM, renO, evx, evs, evp, Eng.look, cst, cst1, putd, dstOk, params, loadx, partx, loI, hiI, bltx, mmI, boxx, srcx, calx, nilx, upd, del, resv, fillA, setMany, Nat.reduceLT, Nat.reduceLeDiff, Nat.reduceEqDiff, Nat.reduceAdd, Nat.reduceMul, Nat.reduceSub, reduceIte, reduceCtorEq, if_true, if_false, ite_true, ite_false, eq_self, forall_const, implies_true, Int.reduceLT, Int.reduceLE, Int.reduceToNat, Int.reduceAdd, Int.reduceSub, Int.reduceNeg, ne_eq, Int.reduceEq, Int.reduceNe, Int.reduceBEq, Int.reduceBNe, beq_self_eq_true, bne_self_eq_false, BitVec.reduceBEq, BitVec.reduceBNe, BitVec.reduceOfInt, BitVec.reduceSetWidth, wrD, engS0, engS1, engS2, engS3, engS4, engS5, engS6, engS7, engS8, engS9, engT0, engT1, engT2, Fx.t1, Fx.t3, Fx.t4, Fx.t5, Fx.t23, Fx.t46, Fx.t53, Fx.t118, Fx.t119, Fx.en33, dM, hl]
      exact fin (by rw [doneS, ho, decide_eq_true h0]; rfl)
    | false =>
      have h0 : ¬ s.k = D.length := by simp at hl; omega
      simp (config := { maxSteps := 1000000, implicitDefEqProofs := false }) only [-List.reduceReplicate, Nat.reduceBEq, renA, renL, renM, renO, evx, evs, evp, Eng.look, cst, cst1, putd, dstOk, params, loadx, partx, loI, hiI, bltx, mmI, boxx, srcx, calx, nilx, upd, del, resv, fillA, setMany, Nat.reduceLT, Nat.reduceLeDiff, Nat.reduceEqDiff, Nat.reduceAdd, Nat.reduceMul, Nat.reduceSub, reduceIte, reduceCtorEq, if_true, if_false, ite_true, ite_false, eq_self, forall_const, implies_true, Int.reduceLT, Int.reduceLE, Int.reduceToNat, Int.reduceAdd, Int.reduceSub, Int.reduceNeg, ne_eq, Int.reduceEq, Int.reduceNe, Int.reduceBEq, Int.reduceBNe, beq_self_eq_true, bne_self_eq_false, BitVec.reduceBEq, BitVec.reduceBNe, BitVec.reduceOfInt, BitVec.reduceSetWidth, wrD, engS0, engS1, engS2, engS3, engS4, engS5, engS6, engS7, engS8, engS9, engT0, engT1, engT2, Fx.t1, Fx.t3, Fx.t4, Fx.t5, Fx.t23, Fx.t46, Fx.t53, Fx.t118, Fx.t119, Fx.en33, dM, hl]
      exact fin (by rw [doneS, decide_eq_false h0, Bool.and_false, Bool.false_and])
theorem doneNil : CallG false Try.prog 34 [.nilp] (fun _ => true) [] 0 fun v m nx => v = .bool false ∧ m = [] ∧ nx = 0 := by
  refine fn_okG Try.func34 rfl (by show 1 ≤ _; decide) ?_
  simp (config := { maxSteps := 1000000, implicitDefEqProofs := false }) only [-List.reduceReplicate, Nat.reduceBEq, renA, renL, renM, renO, evx, evs, evp, Eng.look, cst, cst1, putd, dstOk, params, loadx, partx, loI, hiI, bltx, mmI, boxx, srcx, calx, nilx, upd, del, resv, fillA, setMany, Nat.reduceLT, Nat.reduceLeDiff, Nat.reduceEqDiff, Nat.reduceAdd, Nat.reduceMul, Nat.reduceSub, reduceIte, reduceCtorEq, if_true, if_false, ite_true, ite_false, eq_self, forall_const, implies_true, Int.reduceLT, Int.reduceLE, Int.reduceToNat, Int.reduceAdd, Int.reduceSub, Int.reduceNeg, ne_eq, Int.reduceEq, Int.reduceNe, Int.reduceBEq, Int.reduceBNe, beq_self_eq_true, bne_self_eq_false, BitVec.reduceBEq, BitVec.reduceBNe, BitVec.reduceOfInt, BitVec.reduceSetWidth, wrD, engS0, engS1, engS2, engS3, engS4, engS5, engS6, engS7, engS8, engS9, engT0, engT1, engT2, Fx.t1, Fx.t3, Fx.t4, Fx.t5, Fx.t23, Fx.t46, Fx.t53, Fx.t118, Fx.t119, Fx.en33, Try.results34, Try.ntmps34]
  refine outNil.weak ?_
  rintro v m nx ⟨rfl, rfl, rfl⟩
  simp (config := { maxSteps := 1000000, implicitDefEqProofs := false }) only [-List.reduceReplicate, Nat.reduceBEq, renA, renL, renM, renO, evx, evs, evp, Eng.look, cst, cst1, putd, dstOk, params, loadx, partx, loI, hiI, bltx, mmI, boxx, srcx, calx, nilx, upd, del, resv, fillA, setMany, Nat.reduceLT, Nat.reduceLeDiff, Nat.reduceEqDiff, Nat.reduceAdd, Nat.reduceMul, Nat.reduceSub, reduceIte, reduceCtorEq, if_true, if_false, ite_true, ite_false, eq_self, forall_const, implies_true, Int.reduceLT, Int.reduceLE, Int.reduceToNat, Int.reduceAdd, Int.reduceSub, Int.reduceNeg, ne_eq, Int.reduceEq, Int.reduceNe, Int.reduceBEq, Int.reduceBNe, beq_self_eq_true, bne_self_eq_false, BitVec.reduceBEq, BitVec.reduceBNe, BitVec.reduceOfInt, BitVec.reduceSetWidth, wrD, engS0, engS1, engS2, engS3, engS4, engS5, engS6, engS7, engS8, engS9, engT0, engT1, engT2, Fx.t1, Fx.t3, Fx.t4, Fx.t5, Fx.t23, Fx.t46, Fx.t53, Fx.t118, Fx.t119, Fx.en33]
  exact Fin.flatv (fun _ => rfl) (fun f => rfl) ⟨rfl, rfl, rfl⟩
end Go.Proofs.Ytmnbbpckglppjaa
