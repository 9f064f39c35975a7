/- Coding bits: the document's coder: Low grows, and scale. -/
import Derived.Test.YtmnbbpckglppjaaEng19
import Derived.Test.YtmnbbpckglppjaaEng26
import Derived.Test.YtmnbbpckglppjaaReh
set_option linter.unusedVariables false
set_option linter.unusedSimpArgs false
set_option maxRecDepth 100000
namespace Go.Proofs.Ytmnbbpckglppjaa
open Go Go.Eng

structure RS where
  low : List (BitVec 8)
  rng : BitVec 32
def rEO (o : AV) (s : RS) : AObj := .cells [o, .int .u64 (s.rng.toNat : Int)] 126
def rET : SlT := ⟨RS, RS.low, rEO, fun _ _ _ => rfl⟩
theorem rET_obj (o : AV) (s : RS) : rET.obj o s = rEO o s := rfl
theorem rET_out (s : RS) : rET.out s = s.low := rfl
theorem rEO_ren (f : Nat → Nat) (o : AV) (s : RS) : renO f (rEO o s) = rEO (renA f o) s := rfl
def addI (L : List (BitVec 8)) (n : Nat) : Nat → List (BitVec 8) × Nat
  | 0 => (L, n)
  | j + 1 => ((addI L n j).1.set (L.length - 1 - j) (BitVec.ofNat 8 ((addI L n j).2 + ((addI L n j).1.getD (L.length - 1 - j) 0).toNat)), ((addI L n j).2 + ((addI L n j).1.getD (L.length - 1 - j) 0).toNat) / 256)
def addB (L : List (BitVec 8)) (n : Nat) : List (BitVec 8) := (addI L n L.length).1
theorem addI_len (L : List (BitVec 8)) (n : Nat) : ∀ j, (addI L n j).1.length = L.length
  | 0 => rfl
  | j + 1 => by rw [addI, List.length_set, addI_len L n j]
theorem addI_le (L : List (BitVec 8)) (n : Nat) (hn : n < 4294967296) : ∀ j, (addI L n j).2 < 4294967296
  | 0 => hn
  | j + 1 => by
    have h1 := addI_le L n hn j
    have h2 := ((addI L n j).1.getD (L.length - 1 - j) 0).isLt
    rw [addI]
    show (_ + _) / 256 < _
    omega
theorem addB_len (L : List (BitVec 8)) (n : Nat) : (addB L n).length = L.length := addI_len L n _
theorem num_set : ∀ (M : List (BitVec 8)) (i : Nat) (q : BitVec 8), i < M.length → num (M.set i q) + (M.getD i 0).toNat * 256 ^ (M.length - 1 - i) = num M + q.toNat * 256 ^ (M.length - 1 - i)
  | [], i, q, h => by cases h
  | p :: r, 0, q, _ => by
    show num (q :: r) + p.toNat * 256 ^ (r.length + 1 - 1 - 0) = num (p :: r) + q.toNat * 256 ^ (r.length + 1 - 1 - 0)
    rw [num, num, show r.length + 1 - 1 - 0 = r.length by omega]
    omega
  | p :: r, i + 1, q, h => by
    have hi : i < r.length := by simpa using h
    have := num_set r i q hi
    show num (p :: r.set i q) + (r.getD i 0).toNat * 256 ^ (r.length + 1 - 1 - (i + 1)) = num (p :: r) + q.toNat * 256 ^ (r.length + 1 - 1 - (i + 1))
    rw [num, num, List.length_set, show r.length + 1 - 1 - (i + 1) = r.length - 1 - i by omega]
    omega
theorem addI_num (L : List (BitVec 8)) (n : Nat) : ∀ j, j ≤ L.length → num (addI L n j).1 + (addI L n j).2 * 256 ^ j = num L + n
  | 0, _ => by simp [addI]
  | j + 1, h => by
    have ih := addI_num L n j (by omega)
    have hl := addI_len L n j
    have hs := num_set (addI L n j).1 (L.length - 1 - j) (BitVec.ofNat 8 ((addI L n j).2 + ((addI L n j).1.getD (L.length - 1 - j) 0).toNat)) (by omega)
    rw [hl, show L.length - 1 - (L.length - 1 - j) = j by omega, BitVec.toNat_ofNat] at hs
    rw [addI]
    show num ((addI L n j).1.set _ _) + (_ / 256) * 256 ^ (j + 1) = _
    generalize (addI L n j).2 = c at *
    generalize ((addI L n j).1.getD (L.length - 1 - j) 0).toNat = q at *
    generalize num ((addI L n j).1.set (L.length - 1 - j) (BitVec.ofNat 8 (c + q))) = A at *
    have hd : (c + q) % 2 ^ 8 + 256 * ((c + q) / 256) = c + q := Nat.mod_add_div (c + q) 256
    have hm := congrArg (· * 256 ^ j) hd
    simp only [Nat.add_mul] at hm
    rw [Nat.pow_succ, show (c + q) / 256 * (256 ^ j * 256) = 256 * ((c + q) / 256) * 256 ^ j by rw [Nat.mul_comm (256 ^ j), ← Nat.mul_assoc, Nat.mul_comm ((c + q) / 256) 256]]
    omega
theorem addB_num (L : List (BitVec 8)) (n : Nat) (h : num L + n < 256 ^ L.length) : num (addB L n) = num L + n := by
  have := addI_num L n L.length (Nat.le_refl _)
  have h0 : (addI L n L.length).2 = 0 := by
    rcases Nat.eq_zero_or_pos (addI L n L.length).2 with g | g
    · exact g
    · have : 1 * 256 ^ L.length ≤ (addI L n L.length).2 * 256 ^ L.length := Nat.mul_le_mul_right _ g
      omega
  rw [h0, Nat.zero_mul, Nat.add_zero] at this
  exact this
theorem bvsS_set (k : IntKind) {w : Nat} (L : List (BitVec w)) (S : List AV) (i : Nat) (hi : i < L.length) (x : BitVec w) : (bvs k L ++ S).set i (.int k (x.toNat : Int)) = bvs k (L.set i x) ++ S := by
  rw [List.set_append_left _ _ (by rw [bvs_length]; exact hi), bvs_set]
theorem addA (c : Nat) (hc : c < 4294967296) (q : BitVec 8) : BitVec.setWidth 8 ((BitVec.ofNat 64 c + BitVec.setWidth 64 q) % 256#64) = BitVec.ofNat 8 (c + q.toNat) := by
  have hq := q.isLt
  refine BitVec.eq_of_toNat_eq ?_
  rw [BitVec.toNat_setWidth, BitVec.toNat_umod, BitVec.toNat_add, b64, show (256#64).toNat = 256 from rfl, BitVec.toNat_ofNat, BitVec.toNat_ofNat]
  omega
theorem addD (c : Nat) (hc : c < 4294967296) (q : BitVec 8) : ((BitVec.ofNat 64 c + BitVec.setWidth 64 q) / 256#64).toNat = (c + q.toNat) / 256 := by
  have hq := q.isLt
  rw [BitVec.toNat_udiv, BitVec.toNat_add, b64, BitVec.toNat_ofNat, show (256#64).toNat = 256 from rfl]
  omega
set_option maxHeartbeats 1000000 in
theorem addOk (s : RS) (hl : 1 ≤ s.low.length ∧ s.low.length ≤ 1000000) (n : Nat) (hn : n < 4294967296) : rET.Ok Try.prog 80 [.int .u64 (n : Int)] (.tup []) s ⟨addB s.low n, s.rng⟩ := by
  intro x hx
  have hx0 := hx
  rcases hx with ⟨ho, rfl⟩ | ⟨cap, sp, rfl, c1, c2⟩
  · have ho : s.low = [] := ho
    rw [ho] at hl; exact absurd hl.1 (by decide)
  refine fn_okG Try.func80 rfl (by show 2 ≤ _; decide) ?_
  simp (config := { maxSteps := 1000000, implicitDefEqProofs := false }) only [-List.reduceReplicate, Nat.reduceBEq, renA, renL, renM, renO, evx, evs, evp, Eng.look, cst, cst1, putd, dstOk, params, loadx, partx, loI, hiI, bltx, mmI, boxx, srcx, calx, nilx, upd, del, resv, fillA, setMany, Nat.reduceLT, Nat.reduceLeDiff, Nat.reduceEqDiff, Nat.reduceAdd, Nat.reduceMul, Nat.reduceSub, reduceIte, reduceCtorEq, if_true, if_false, ite_true, ite_false, eq_self, forall_const, implies_true, Int.reduceLT, Int.reduceLE, Int.reduceToNat, Int.reduceAdd, Int.reduceSub, Int.reduceNeg, ne_eq, Int.reduceEq, Int.reduceNe, Int.reduceBEq, Int.reduceBNe, beq_self_eq_true, bne_self_eq_false, BitVec.reduceBEq, BitVec.reduceBNe, BitVec.reduceOfInt, BitVec.reduceSetWidth, wrD, engS0, engS1, engS2, engS3, engS4, engS5, engS6, engS7, engS8, engS9, engT0, engT1, engT2, Fx.t3, Fx.t4, Fx.t5, Fx.t22, Fx.t23, Fx.t67, Fx.t125, Fx.t126, Try.results80, Try.ntmps80, rET_obj, rEO, rET_out, rowO]
  refine ⟨.inl trivial, by rw [takeA', bvs_length], by rw [takeA']; exact one1_bvs _ _, ?_⟩
  rw [takeA']
  refine appk_bvs (k := .u8) (x := ([] : List (BitVec 8))) (y := s.low) (sp := []) rfl rfl rfl (by decide) (by decide) (by simp; omega) ?_
  rw [List.nil_append]
  intro cap1 sp1 d1 d2
  have wl : IntKind.i64.wrap ((s.low.length : Int) - 1) = (s.low.length : Int) - 1 := by rw [wrap_i64] <;> omega
  simp (config := { maxSteps := 1000000, implicitDefEqProofs := false }) only [-List.reduceReplicate, Nat.reduceBEq, renA, renL, renM, renO, evx, evs, evp, Eng.look, cst, cst1, putd, dstOk, params, loadx, partx, loI, hiI, bltx, mmI, boxx, srcx, calx, nilx, upd, del, resv, fillA, setMany, Nat.reduceLT, Nat.reduceLeDiff, Nat.reduceEqDiff, Nat.reduceAdd, Nat.reduceMul, Nat.reduceSub, reduceIte, reduceCtorEq, if_true, if_false, ite_true, ite_false, eq_self, forall_const, implies_true, Int.reduceLT, Int.reduceLE, Int.reduceToNat, Int.reduceAdd, Int.reduceSub, Int.reduceNeg, ne_eq, Int.reduceEq, Int.reduceNe, Int.reduceBEq, Int.reduceBNe, beq_self_eq_true, bne_self_eq_false, BitVec.reduceBEq, BitVec.reduceBNe, BitVec.reduceOfInt, BitVec.reduceSetWidth, wrD, engS0, engS1, engS2, engS3, engS4, engS5, engS6, engS7, engS8, engS9, engT0, engT1, engT2, Fx.t3, Fx.t4, Fx.t5, Fx.t22, Fx.t23, Fx.t67, Fx.t125, Fx.t126, wl]
  refine LoopOk.up s.low.length (fun j => ([(5, .int .i64 ((s.low.length : Int) - 1 - j)), (4, .sl 3 0 s.low.length cap1), (1, .int .u64 ((addI s.low n j).2 : Int)), (0, .ptr 0 0)], [(0, rEO (.sl 1 0 s.low.length cap) s), (1, rowO s.low sp), (3, rowO (addI s.low n j).1 sp1)], 4)) ?_ ?_
  · exact Le.sameT (by decide) ⟨by simp [Eng.look], rfl, rfl, rfl, trivial⟩ ⟨rfl, rfl, rfl, trivial⟩ (by simp)
  intro j hj
  have hL := addI_len s.low n j
  have hc := addI_le s.low n hn j
  have hnx : addI s.low n (j + 1) = ((addI s.low n j).1.set (s.low.length - 1 - j) (BitVec.ofNat 8 ((addI s.low n j).2 + ((addI s.low n j).1.getD (s.low.length - 1 - j) 0).toNat)), ((addI s.low n j).2 + ((addI s.low n j).1.getD (s.low.length - 1 - j) 0).toNat) / 256) := rfl
  rcases Nat.lt_or_ge j s.low.length with h | h
  · have g1 : decide ((s.low.length : Int) - 1 - (j : Int) ≥ 0) = true := by simp; omega
    have wi : IntKind.i64.wrap ((s.low.length : Int) - 1 - (j : Int) - 1) = (s.low.length : Int) - 1 - ((j + 1 : Nat) : Int) := by rw [wrap_i64] <;> omega
    have hi : (s.low.length : Int) - 1 - (j : Int) = ((s.low.length - 1 - j : Nat) : Int) := by omega
    rw [hi] at g1 wi
    have hgd := bvsS_getD .u8 (addI s.low n j).1 (sp1.map AV.val) (s.low.length - 1 - j) (by omega)
    have hA := addA (addI s.low n j).2 hc ((addI s.low n j).1.getD (s.low.length - 1 - j) 0)
    have hB := addD (addI s.low n j).2 hc ((addI s.low n j).1.getD (s.low.length - 1 - j) 0)
    have hB2 : (BitVec.ofNat 64 (((addI s.low n j).2 + ((addI s.low n j).1.getD (s.low.length - 1 - j) 0).toNat) / 256)).toNat = ((addI s.low n j).2 + ((addI s.low n j).1.getD (s.low.length - 1 - j) 0).toNat) / 256 := by
      have := ((addI s.low n j).1.getD (s.low.length - 1 - j) 0).isLt
      rw [BitVec.toNat_ofNat]; omega
    have hst := bvsS_set .u8 (addI s.low n j).1 (sp1.map AV.val) (s.low.length - 1 - j) (by omega) (BitVec.ofNat 8 ((addI s.low n j).2 + ((addI s.low n j).1.getD (s.low.length - 1 - j) 0).toNat))
    simp (config := { maxSteps := 1000000, implicitDefEqProofs := false }) only [-List.reduceReplicate, Nat.reduceBEq, renA, renL, renM, renO, evx, evs, evp, Eng.look, cst, cst1, putd, dstOk, params, loadx, partx, loI, hiI, bltx, mmI, boxx, srcx, calx, nilx, upd, del, resv, fillA, setMany, Nat.reduceLT, Nat.reduceLeDiff, Nat.reduceEqDiff, Nat.reduceAdd, Nat.reduceMul, Nat.reduceSub, reduceIte, reduceCtorEq, if_true, if_false, ite_true, ite_false, eq_self, forall_const, implies_true, Int.reduceLT, Int.reduceLE, Int.reduceToNat, Int.reduceAdd, Int.reduceSub, Int.reduceNeg, ne_eq, Int.reduceEq, Int.reduceNe, Int.reduceBEq, Int.reduceBNe, beq_self_eq_true, bne_self_eq_false, BitVec.reduceBEq, BitVec.reduceBNe, BitVec.reduceOfInt, BitVec.reduceSetWidth, wrD, engS0, engS1, engS2, engS3, engS4, engS5, engS6, engS7, engS8, engS9, engT0, engT1, engT2, Fx.t3, Fx.t4, Fx.t5, Fx.t22, Fx.t23, Fx.t67, Fx.t125, Fx.t126, hi, g1, wi, rowO, hgd, hA, hB, hB2, hst]
    refine ⟨by omega, by omega, by omega, by omega, ?_⟩
    refine UpK_normal h ?_
    dsimp only
    rw [hnx]
    exact Le.sameT (by decide) ⟨rfl, rfl, rfl, rfl, trivial⟩ ⟨rfl, rfl, rfl, trivial⟩ (by simp)
  · have hj' : j = s.low.length := by omega
    have g1 : decide ((s.low.length : Int) - 1 - (j : Int) ≥ 0) = false := by simp; omega
    simp (config := { maxSteps := 1000000, implicitDefEqProofs := false }) only [-List.reduceReplicate, Nat.reduceBEq, renA, renL, renM, renO, evx, evs, evp, Eng.look, cst, cst1, putd, dstOk, params, loadx, partx, loI, hiI, bltx, mmI, boxx, srcx, calx, nilx, upd, del, resv, fillA, setMany, Nat.reduceLT, Nat.reduceLeDiff, Nat.reduceEqDiff, Nat.reduceAdd, Nat.reduceMul, Nat.reduceSub, reduceIte, reduceCtorEq, if_true, if_false, ite_true, ite_false, eq_self, forall_const, implies_true, Int.reduceLT, Int.reduceLE, Int.reduceToNat, Int.reduceAdd, Int.reduceSub, Int.reduceNeg, ne_eq, Int.reduceEq, Int.reduceNe, Int.reduceBEq, Int.reduceBNe, beq_self_eq_true, bne_self_eq_false, BitVec.reduceBEq, BitVec.reduceBNe, BitVec.reduceOfInt, BitVec.reduceSetWidth, wrD, engS0, engS1, engS2, engS3, engS4, engS5, engS6, engS7, engS8, engS9, engT0, engT1, engT2, Fx.t3, Fx.t4, Fx.t5, Fx.t22, Fx.t23, Fx.t67, Fx.t125, Fx.t126, g1, rEO]
    have he : addB s.low n = (addI s.low n j).1 := by rw [hj']; rfl
    refine rET.finC (x := (.sl 1 0 s.low.length cap, [(1, rowO s.low sp)], 2)) hx0 (fun _ => rfl) (n := 3) (cap := cap1) (sp := sp1) (by decide) ?_ ?_ (by show (addB s.low n).length + _ = _; rw [addB_len]; exact d1) d2
    · show some _ = some (rEO _ _)
      rw [show (rET.out (⟨addB s.low n, s.rng⟩ : RS)).length = s.low.length from addB_len _ _]
      rfl
    · show some _ = some (rowO (addB s.low n) sp1)
      rw [he]
end Go.Proofs.Ytmnbbpckglppjaa
