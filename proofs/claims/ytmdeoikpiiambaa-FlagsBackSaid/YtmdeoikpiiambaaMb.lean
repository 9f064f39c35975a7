/- SHA-256: a block, bytes that come, the sum: the program. -/
import Derived.Test.YtmdeoikpiiambaaEng35
import Derived.Test.YtmdeoikpiiambaaEng18
import Derived.Test.YtmdeoikpiiambaaEng21
import Derived.Test.YtmdeoikpiiambaaEng22
import Derived.Test.YtmdeoikpiiambaaFx
set_option linter.unusedVariables false
set_option linter.unusedSimpArgs false
set_option maxRecDepth 100000
/-! Sha -/
namespace Go.Proofs.Ytmdeoikpiiambaa
open Go Go.Eng
def rotR (x : BitVec 32) (n : Nat) : BitVec 32 := (x <<< (32 - n)) ||| (x >>> n)
def r1 (x : BitVec 32) : BitVec 32 := x / 2#32 + (x % 2#32) * 2147483648#32
def rotN (x : BitVec 32) : Nat → BitVec 32
  | 0 => x
  | n + 1 => r1 (rotN x n)
theorem rotlOk (x : BitVec 32) (n : Nat) (h1 : 1 ≤ n) (h2 : n ≤ 31) : CallOk Try.prog 216 [.int .u32 (x.toNat : Int), .int .i64 (-(n : Int))] (fun _ => true) [] 0 fun v m nx => v = .int .u32 ((rotR x n).toNat : Int) ∧ m = [] ∧ nx = 0 := by
  refine fn_ok Try.func216 rfl (by show 2 ≤ _; decide) ?_
  have e : -BitVec.ofNat 64 n &&& 31#64 = BitVec.ofNat 64 (32 - n) := by
    have : ∀ k : Fin 32, 1 ≤ k.val → -BitVec.ofNat 64 k.val &&& 31#64 = BitVec.ofNat 64 (32 - k.val) := by decide
    exact this ⟨n, by omega⟩ h1
  have e1 : (BitVec.ofNat 64 (32 - n)).toNat = 32 - n := by rw [BitVec.toNat_ofNat]; omega
  have e2 : (32#64 - BitVec.ofNat 64 (32 - n)).toNat = n := by rw [BitVec.toNat_sub, e1, show (32#64).toNat = 32 from rfl]; omega
  simp (maxSteps := 1000000) -implicitDefEqProofs only [go_sem, Nat.reduceBEq, Nat.reduceLT, Nat.reduceLeDiff, Nat.reduceEqDiff, Nat.reduceAdd, Nat.reduceMul, Nat.reduceSub, reduceIte, reduceCtorEq, Int.reduceLT, Int.reduceLE, Int.reduceToNat, Int.reduceAdd, Int.reduceSub, Int.reduceNeg, Int.reduceEq, Int.reduceNe, Int.reduceBEq, Int.reduceBNe, BitVec.reduceBEq, BitVec.reduceBNe, BitVec.reduceOfInt, BitVec.reduceSetWidth, -List.reduceReplicate, Try.results216, Try.ntmps216]
  refine Fin.flatv (fun _ => rfl) (fun f => rfl) ⟨?_, rfl, rfl⟩
  rw [e, e1, e2]
  rfl
theorem rotOk (x : BitVec 32) (n : Nat) (h1 : 1 ≤ n) (h2 : n ≤ 31) : CallOk Try.prog 208 [.int .u32 (x.toNat : Int), .int .i64 (n : Int)] (fun _ => true) [] 0 fun v m nx => v = .int .u32 ((rotR x n).toNat : Int) ∧ m = [] ∧ nx = 0 := by
  refine fn_ok Try.func208 rfl (by show 2 ≤ _; decide) ?_
  have w1 : IntKind.i64.wrap (0 - (n : Int)) = -(n : Int) := by rw [wrap_i64] <;> omega
  simp (maxSteps := 1000000) -implicitDefEqProofs only [go_sem, Nat.reduceBEq, Nat.reduceLT, Nat.reduceLeDiff, Nat.reduceEqDiff, Nat.reduceAdd, Nat.reduceMul, Nat.reduceSub, reduceIte, reduceCtorEq, Int.reduceLT, Int.reduceLE, Int.reduceToNat, Int.reduceAdd, Int.reduceSub, Int.reduceNeg, Int.reduceEq, Int.reduceNe, Int.reduceBEq, Int.reduceBNe, BitVec.reduceBEq, BitVec.reduceBNe, BitVec.reduceOfInt, BitVec.reduceSetWidth, -List.reduceReplicate, Try.results208, Try.ntmps208, w1]
  refine (rotlOk x n h1 h2).flatv (by simp only [argsx, argx_int, argx_bool, argx_fn, argx_ro, argx_nils, eq_self, true_and, and_true, and_self]; try trivial) (fun _ => rfl) rfl ?_
  simp (maxSteps := 1000000) -implicitDefEqProofs only [go_sem, Nat.reduceBEq, Nat.reduceLT, Nat.reduceLeDiff, Nat.reduceEqDiff, Nat.reduceAdd, Nat.reduceMul, Nat.reduceSub, reduceIte, reduceCtorEq, Int.reduceLT, Int.reduceLE, Int.reduceToNat, Int.reduceAdd, Int.reduceSub, Int.reduceNeg, Int.reduceEq, Int.reduceNe, Int.reduceBEq, Int.reduceBNe, BitVec.reduceBEq, BitVec.reduceBNe, BitVec.reduceOfInt, BitVec.reduceSetWidth, -List.reduceReplicate]
  exact Fin.flatv (fun _ => rfl) (fun f => rfl) ⟨rfl, rfl, rfl⟩
theorem rrotOk (x : BitVec 32) (n : Nat) (h2 : n ≤ 31) : CallOk Try.prog 140 [.int .u32 (x.toNat : Int), .int .i64 (n : Int)] (fun _ => true) [] 0 fun v m nx => v = .int .u32 ((rotN x n).toNat : Int) ∧ m = [] ∧ nx = 0 := by
  refine fn_ok Try.func140 rfl (by show 2 ≤ _; decide) ?_
  simp (maxSteps := 1000000) -implicitDefEqProofs only [go_sem, Nat.reduceBEq, Nat.reduceLT, Nat.reduceLeDiff, Nat.reduceEqDiff, Nat.reduceAdd, Nat.reduceMul, Nat.reduceSub, reduceIte, reduceCtorEq, Int.reduceLT, Int.reduceLE, Int.reduceToNat, Int.reduceAdd, Int.reduceSub, Int.reduceNeg, Int.reduceEq, Int.reduceNe, Int.reduceBEq, Int.reduceBNe, BitVec.reduceBEq, BitVec.reduceBNe, BitVec.reduceOfInt, BitVec.reduceSetWidth, -List.reduceReplicate, Try.results140, Try.ntmps140]
  refine LoopOk.up n (fun i => ([(5, .int .i64 i), (0, .int .u32 ((rotN x i).toNat : Int)), (1, .int .i64 n)], [], 0)) (Le.sameT (by decide) (by simp only [-List.reduceReplicate, slotsSame, Eng.look, Nat.reduceEqDiff, rotN, reduceIte, reduceCtorEq, if_true, if_false, eq_self, true_and, and_true, Option.some.injEq, AV.int.injEq]; (try simp (disch := omega) only [wrap_i64]); (try simp [-List.reduceReplicate]); (try omega)) (by simp only [-List.reduceReplicate, memSame, Eng.look, Nat.reduceEqDiff, rotN, reduceIte, reduceCtorEq, if_true, if_false, eq_self, true_and, and_true, Option.some.injEq, AObj.cells.injEq, bvs_rep8, bvs_rep16, bvs_rep32, bvs_rep64, bvs_flat_rep, Nat.reduceMul, bvs_append, List.replicate_append_replicate, Nat.reduceAdd, bvs_inj]; try simp [-List.reduceReplicate]) (by simp [-List.reduceReplicate])) ?_
  intro i hi
  simp (maxSteps := 1000000) -implicitDefEqProofs only [go_sem, Nat.reduceBEq, Nat.reduceLT, Nat.reduceLeDiff, Nat.reduceEqDiff, Nat.reduceAdd, Nat.reduceMul, Nat.reduceSub, reduceIte, reduceCtorEq, Int.reduceLT, Int.reduceLE, Int.reduceToNat, Int.reduceAdd, Int.reduceSub, Int.reduceNeg, Int.reduceEq, Int.reduceNe, Int.reduceBEq, Int.reduceBNe, BitVec.reduceBEq, BitVec.reduceBNe, BitVec.reduceOfInt, BitVec.reduceSetWidth, -List.reduceReplicate]
  refine cndv_split (fun h => ?_) (fun h => ?_)
  · have h' : i < n := by have := of_decide_eq_true h; omega
    have wn : IntKind.i64.wrap ((i : Int) + 1) = ((i + 1 : Nat) : Int) := by rw [wrap_i64] <;> omega
    simp (maxSteps := 1000000) -implicitDefEqProofs only [go_sem, Nat.reduceBEq, Nat.reduceLT, Nat.reduceLeDiff, Nat.reduceEqDiff, Nat.reduceAdd, Nat.reduceMul, Nat.reduceSub, reduceIte, reduceCtorEq, Int.reduceLT, Int.reduceLE, Int.reduceToNat, Int.reduceAdd, Int.reduceSub, Int.reduceNeg, Int.reduceEq, Int.reduceNe, Int.reduceBEq, Int.reduceBNe, BitVec.reduceBEq, BitVec.reduceBNe, BitVec.reduceOfInt, BitVec.reduceSetWidth, -List.reduceReplicate, wn]
    refine UpK_normal h' (Le.sameT (by decide) (by simp only [-List.reduceReplicate, slotsSame, Eng.look, Nat.reduceEqDiff, rotN, r1, reduceIte, reduceCtorEq, if_true, if_false, eq_self, true_and, and_true, Option.some.injEq, AV.int.injEq]; (try simp (disch := omega) only [wrap_i64]); (try simp [-List.reduceReplicate]); (try omega)) (by simp only [-List.reduceReplicate, memSame, Eng.look, Nat.reduceEqDiff, rotN, r1, reduceIte, reduceCtorEq, if_true, if_false, eq_self, true_and, and_true, Option.some.injEq, AObj.cells.injEq, bvs_rep8, bvs_rep16, bvs_rep32, bvs_rep64, bvs_flat_rep, Nat.reduceMul, bvs_append, List.replicate_append_replicate, Nat.reduceAdd, bvs_inj]; try simp [-List.reduceReplicate]) (by simp [-List.reduceReplicate]))
  · have h' : i = n := by have := of_decide_eq_false h; omega
    subst h'
    simp (maxSteps := 1000000) -implicitDefEqProofs only [go_sem, Nat.reduceBEq, Nat.reduceLT, Nat.reduceLeDiff, Nat.reduceEqDiff, Nat.reduceAdd, Nat.reduceMul, Nat.reduceSub, reduceIte, reduceCtorEq, Int.reduceLT, Int.reduceLE, Int.reduceToNat, Int.reduceAdd, Int.reduceSub, Int.reduceNeg, Int.reduceEq, Int.reduceNe, Int.reduceBEq, Int.reduceBNe, BitVec.reduceBEq, BitVec.reduceBNe, BitVec.reduceOfInt, BitVec.reduceSetWidth, -List.reduceReplicate]
    exact Fin.flatv (fun _ => rfl) (fun f => rfl) ⟨rfl, rfl, rfl⟩
theorem or_field (a b lo : Nat) (h : b < 2 ^ lo) : (a * 2 ^ lo) ||| b = a * 2 ^ lo + b := by
  rw [Nat.mul_comm]
  exact (Nat.two_pow_add_eq_or_of_lt h a).symm
theorem rotR_nat (x : BitVec 32) (n : Nat) (h2 : n ≤ 32) : (rotR x n).toNat = x.toNat % 2 ^ n * 2 ^ (32 - n) + x.toNat / 2 ^ n := by
  have hx := x.isLt
  have hp : 2 ^ 32 = 2 ^ n * 2 ^ (32 - n) := by rw [← Nat.pow_add]; congr 1; omega
  rw [rotR, BitVec.toNat_or, BitVec.toNat_shiftLeft, BitVec.toNat_ushiftRight, Nat.shiftLeft_eq, Nat.shiftRight_eq_div_pow, hp, Nat.mul_mod_mul_right, or_field]
  rw [Nat.div_lt_iff_lt_mul (Nat.two_pow_pos n)]
  rw [Nat.mul_comm, ← hp]; exact hx
theorem r1_nat (x : BitVec 32) : (r1 x).toNat = x.toNat / 2 + x.toNat % 2 * 2147483648 := by
  have hx := x.isLt
  have e2 : (2#32).toNat = 2 := rfl
  have e3 : (2147483648#32).toNat = 2147483648 := rfl
  rw [r1, BitVec.toNat_add, BitVec.toNat_udiv, BitVec.toNat_mul, BitVec.toNat_umod, e2, e3]
  generalize x.toNat = y at *
  have h1 : y % 2 * 2147483648 % 2 ^ 32 = y % 2 * 2147483648 := Nat.mod_eq_of_lt (by omega)
  rw [h1]
  exact Nat.mod_eq_of_lt (by omega)
theorem step_nat (x n : Nat) (hn : n < 26) (hx : x < 4294967296) : (x % 2 ^ n * 2 ^ (32 - n) + x / 2 ^ n) / 2 + (x % 2 ^ n * 2 ^ (32 - n) + x / 2 ^ n) % 2 * 2147483648 = x % 2 ^ (n + 1) * 2 ^ (32 - (n + 1)) + x / 2 ^ (n + 1) := by
  have h : n = 0 ∨ n = 1 ∨ n = 2 ∨ n = 3 ∨ n = 4 ∨ n = 5 ∨ n = 6 ∨ n = 7 ∨ n = 8 ∨ n = 9 ∨ n = 10 ∨ n = 11 ∨ n = 12 ∨ n = 13 ∨ n = 14 ∨ n = 15 ∨ n = 16 ∨ n = 17 ∨ n = 18 ∨ n = 19 ∨ n = 20 ∨ n = 21 ∨ n = 22 ∨ n = 23 ∨ n = 24 ∨ n = 25 := by omega
  rcases h with rfl | rfl | rfl | rfl | rfl | rfl | rfl | rfl | rfl | rfl | rfl | rfl | rfl | rfl | rfl | rfl | rfl | rfl | rfl | rfl | rfl | rfl | rfl | rfl | rfl | rfl <;> omega
theorem rotN_eq (x : BitVec 32) : ∀ n, n ≤ 26 → rotN x n = rotR x n
  | 0, _ => by
    apply BitVec.eq_of_toNat_eq
    rw [rotR_nat x 0 (by decide)]
    simp only [rotN]; omega
  | n + 1, h => by
    apply BitVec.eq_of_toNat_eq
    rw [rotN, rotN_eq x n (by omega), r1_nat, rotR_nat x n (by omega), rotR_nat x (n + 1) (by omega)]
    exact step_nat x.toNat n (by omega) x.isLt
/-- a word of four bytes -/
def wordB (q : List (BitVec 8)) : BitVec 32 := ((q.getD 0 0).setWidth 32 <<< 24) ||| ((q.getD 1 0).setWidth 32 <<< 16) ||| ((q.getD 2 0).setWidth 32 <<< 8) ||| (q.getD 3 0).setWidth 32
theorem wordOk (n : Nat) (q : List (BitVec 8)) (hq : q.length = n) (h4 : 4 ≤ n) : CallOk Try.prog 215 [.ro n (bvs .u8 q)] (fun _ => true) [] 0 fun v m nx => v = .int .u32 ((wordB q).toNat : Int) ∧ m = [] ∧ nx = 0 := by
  refine fn_ok Try.func215 rfl (by show 1 ≤ _; decide) ?_
  simp (maxSteps := 1000000) -implicitDefEqProofs only [go_sem, Nat.reduceBEq, Nat.reduceLT, Nat.reduceLeDiff, Nat.reduceEqDiff, Nat.reduceAdd, Nat.reduceMul, Nat.reduceSub, reduceIte, reduceCtorEq, Int.reduceLT, Int.reduceLE, Int.reduceToNat, Int.reduceAdd, Int.reduceSub, Int.reduceNeg, Int.reduceEq, Int.reduceNe, Int.reduceBEq, Int.reduceBNe, BitVec.reduceBEq, BitVec.reduceBNe, BitVec.reduceOfInt, BitVec.reduceSetWidth, -List.reduceReplicate, Try.results215, Try.ntmps215]
  refine ⟨Fx.mixed, .inl ⟨[(0, false), (1, false), (2, false), (3, false), (4, false), (5, false), (6, false), (7, false), (8, false), (9, false), (10, false), (11, false), (12, false), (13, false), (14, false), (15, false), (16, false), (17, false), (18, false), (19, false), (20, false), (21, false), (22, false)], [], by kernel_rfl, (fun n hn => by cases hn), ?_⟩⟩
  simp (maxSteps := 1000000) -implicitDefEqProofs only [go_sem, Nat.reduceBEq, Nat.reduceLT, Nat.reduceLeDiff, Nat.reduceEqDiff, Nat.reduceAdd, Nat.reduceMul, Nat.reduceSub, reduceIte, reduceCtorEq, Int.reduceLT, Int.reduceLE, Int.reduceToNat, Int.reduceAdd, Int.reduceSub, Int.reduceNeg, Int.reduceEq, Int.reduceNe, Int.reduceBEq, Int.reduceBNe, BitVec.reduceBEq, BitVec.reduceBNe, BitVec.reduceOfInt, BitVec.reduceSetWidth, -List.reduceReplicate, hq]
  have d1 : ∀ k, k < 4 → 0 < (List.drop k q).length := fun k hk => by rw [List.length_drop]; omega
  exact ⟨by omega, by omega, by omega, by omega, by omega, d1 1 (by omega), by omega, by omega, d1 2 (by omega), by omega, by omega, d1 3 (by omega), Fin.flatv (fun _ => rfl) (fun f => rfl) ⟨rfl, rfl, rfl⟩⟩
end Go.Proofs.Ytmdeoikpiiambaa
/-! Shb -/
namespace Go.Proofs.Ytmdeoikpiiambaa
open Go Go.Eng
def s0W (x : BitVec 32) : BitVec 32 := rotR x 7 ^^^ rotR x 18 ^^^ x >>> 3
def s1W (y : BitVec 32) : BitVec 32 := rotR y 17 ^^^ rotR y 19 ^^^ y >>> 10
def wNext (b : List (BitVec 8)) (w : List (BitVec 32)) (n : Nat) : BitVec 32 := if n < 16 then wordB (b.drop (4 * n)) else w.getD (n - 16) 0 + s0W (w.getD (n - 15) 0) + w.getD (n - 7) 0 + s1W (w.getD (n - 2) 0)
def wl (b : List (BitVec 8)) : Nat → List (BitVec 32)
  | 0 => []
  | n + 1 => wl b n ++ [wNext b (wl b n) n]
theorem wl_len (b : List (BitVec 8)) (n : Nat) : (wl b n).length = n := by
  induction n with
  | zero => rfl
  | succ n ih => simp [wl, ih]
def wz (b : List (BitVec 8)) (n : Nat) : List (BitVec 32) := wl b n ++ List.replicate (64 - n) 0
theorem wz_len (b : List (BitVec 8)) (n : Nat) (h : n ≤ 64) : (wz b n).length = 64 := by
  rw [wz, List.length_append, wl_len, List.length_replicate]; omega
theorem wz_zero (b : List (BitVec 8)) : wz b 0 = List.replicate 64 0 := rfl
theorem wz_get (b : List (BitVec 8)) (n i : Nat) (h : i < n) : (wz b n).getD i 0 = (wl b n).getD i 0 := by
  simp only [wz, List.getD_eq_getElem?_getD]
  rw [List.getElem?_append_left (by rw [wl_len]; exact h)]
theorem wz_set (b : List (BitVec 8)) (n : Nat) (h : n < 64) : (wz b n).set n (wNext b (wl b n) n) = wz b (n + 1) := by
  have e : 64 - n = (64 - (n + 1)) + 1 := by omega
  rw [wz, e, List.replicate_succ, List.set_append_right _ _ (by rw [wl_len]; exact Nat.le_refl _), wl_len, Nat.sub_self, List.set_cons_zero, wz, wl, List.append_assoc]
  rfl
theorem wz_all (b : List (BitVec 8)) : wz b 64 = wl b 64 := by rw [wz]; simp
set_option maxHeartbeats 800000 in
theorem spreadOk (b : List (BitVec 8)) (h64 : 64 ≤ b.length) (hb : b.length ≤ 1000000) :
    CallOk Try.prog 206 [.ro b.length (bvs .u8 b)] (fun _ => true) [] 0 fun v m nx => v = .agg (bvs .u32 (wl b 64)) ∧ m = [] ∧ nx = 0 := by
  refine fn_ok Try.func206 rfl (by show 1 ≤ _; decide) ?_
  simp (maxSteps := 1000000) -implicitDefEqProofs only [go_sem, Nat.reduceBEq, Nat.reduceLT, Nat.reduceLeDiff, Nat.reduceEqDiff, Nat.reduceAdd, Nat.reduceMul, Nat.reduceSub, reduceIte, reduceCtorEq, Int.reduceLT, Int.reduceLE, Int.reduceToNat, Int.reduceAdd, Int.reduceSub, Int.reduceNeg, Int.reduceEq, Int.reduceNe, Int.reduceBEq, Int.reduceBNe, BitVec.reduceBEq, BitVec.reduceBNe, BitVec.reduceOfInt, BitVec.reduceSetWidth, -List.reduceReplicate, Try.results206, Try.ntmps206]
  refine LoopOk.up 16 (fun n => ([(8, .int .i64 n), (3, .ptr 1 0), (2, .ptr 0 0), (0, .ro b.length (bvs .u8 b))], [(1, .cells (bvs .u32 (wz b n)) 271), (0, .cells (bvs .u32 (List.replicate 64 (0 : BitVec 32))) 271)], 2)) (Le.sameT (by decide) (by simp only [-List.reduceReplicate, slotsSame, Eng.look, Nat.reduceEqDiff, wz_zero, reduceIte, reduceCtorEq, if_true, if_false, eq_self, true_and, and_true, Option.some.injEq, AV.int.injEq]; (try simp (disch := omega) only [wrap_i64]); (try simp [-List.reduceReplicate]); (try omega)) (by simp only [-List.reduceReplicate, memSame, Eng.look, Nat.reduceEqDiff, wz_zero, reduceIte, reduceCtorEq, if_true, if_false, eq_self, true_and, and_true, Option.some.injEq, AObj.cells.injEq, bvs_rep8, bvs_rep16, bvs_rep32, bvs_rep64, bvs_flat_rep, Nat.reduceMul, bvs_append, List.replicate_append_replicate, Nat.reduceAdd, bvs_inj]; try simp [-List.reduceReplicate]) (by simp [-List.reduceReplicate])) ?_
  intro n hn
  simp (maxSteps := 1000000) -implicitDefEqProofs only [go_sem, Nat.reduceBEq, Nat.reduceLT, Nat.reduceLeDiff, Nat.reduceEqDiff, Nat.reduceAdd, Nat.reduceMul, Nat.reduceSub, reduceIte, reduceCtorEq, Int.reduceLT, Int.reduceLE, Int.reduceToNat, Int.reduceAdd, Int.reduceSub, Int.reduceNeg, Int.reduceEq, Int.reduceNe, Int.reduceBEq, Int.reduceBNe, BitVec.reduceBEq, BitVec.reduceBNe, BitVec.reduceOfInt, BitVec.reduceSetWidth, -List.reduceReplicate]
  refine cndv_split (fun h => ?_) (fun h => ?_)
  · have h' : n < 16 := by have := of_decide_eq_true h; omega
    have wn : IntKind.i64.wrap ((n : Int) + 1) = ((n + 1 : Nat) : Int) := by rw [wrap_i64] <;> omega
    have w4 : IntKind.i64.wrap (4 * (n : Int)) = ((4 * n : Nat) : Int) := by rw [wrap_i64] <;> omega
    have hst : (wz b n).set n (wordB (b.drop (4 * n))) = wz b (n + 1) := by rw [← wz_set b n (by omega), wNext, if_pos h']
    have hl := wz_len b n (by omega)
    have hdl : (b.drop (4 * n)).length = b.length - 4 * n := List.length_drop
    have htk : (b.drop (4 * n)).take (b.length - 4 * n) = b.drop (4 * n) := by rw [← hdl]; exact List.take_length
    simp (maxSteps := 1000000) -implicitDefEqProofs only [go_sem, Nat.reduceBEq, Nat.reduceLT, Nat.reduceLeDiff, Nat.reduceEqDiff, Nat.reduceAdd, Nat.reduceMul, Nat.reduceSub, reduceIte, reduceCtorEq, Int.reduceLT, Int.reduceLE, Int.reduceToNat, Int.reduceAdd, Int.reduceSub, Int.reduceNeg, Int.reduceEq, Int.reduceNe, Int.reduceBEq, Int.reduceBNe, BitVec.reduceBEq, BitVec.reduceBNe, BitVec.reduceOfInt, BitVec.reduceSetWidth, -List.reduceReplicate, w4, htk]
    refine ⟨by omega, ?_⟩
    refine (wordOk (b.length - 4 * n) (b.drop (4 * n)) hdl (by omega)).flatv (by simp only [argsx, argx_int, argx_bool, argx_fn, argx_ro, argx_nils, eq_self, true_and, and_true, and_self]; try trivial) (fun _ => rfl) rfl ?_
    simp (maxSteps := 1000000) -implicitDefEqProofs only [go_sem, Nat.reduceBEq, Nat.reduceLT, Nat.reduceLeDiff, Nat.reduceEqDiff, Nat.reduceAdd, Nat.reduceMul, Nat.reduceSub, reduceIte, reduceCtorEq, Int.reduceLT, Int.reduceLE, Int.reduceToNat, Int.reduceAdd, Int.reduceSub, Int.reduceNeg, Int.reduceEq, Int.reduceNe, Int.reduceBEq, Int.reduceBNe, BitVec.reduceBEq, BitVec.reduceBNe, BitVec.reduceOfInt, BitVec.reduceSetWidth, -List.reduceReplicate, wn, hst, hl]
    refine ⟨by omega, by omega, UpK_normal h' (Le.sameT (by decide) (by simp only [-List.reduceReplicate, slotsSame, Eng.look, Nat.reduceEqDiff, reduceIte, reduceCtorEq, if_true, if_false, eq_self, true_and, and_true, Option.some.injEq, AV.int.injEq]; (try simp (disch := omega) only [wrap_i64]); (try simp [-List.reduceReplicate]); (try omega)) (by simp only [-List.reduceReplicate, memSame, Eng.look, Nat.reduceEqDiff, reduceIte, reduceCtorEq, if_true, if_false, eq_self, true_and, and_true, Option.some.injEq, AObj.cells.injEq, bvs_rep8, bvs_rep16, bvs_rep32, bvs_rep64, bvs_flat_rep, Nat.reduceMul, bvs_append, List.replicate_append_replicate, Nat.reduceAdd, bvs_inj]; try simp [-List.reduceReplicate]) (by simp [-List.reduceReplicate]))⟩
  · have h' : n = 16 := by have := of_decide_eq_false h; omega
    subst h'
    simp (maxSteps := 1000000) -implicitDefEqProofs only [go_sem, Nat.reduceBEq, Nat.reduceLT, Nat.reduceLeDiff, Nat.reduceEqDiff, Nat.reduceAdd, Nat.reduceMul, Nat.reduceSub, reduceIte, reduceCtorEq, Int.reduceLT, Int.reduceLE, Int.reduceToNat, Int.reduceAdd, Int.reduceSub, Int.reduceNeg, Int.reduceEq, Int.reduceNe, Int.reduceBEq, Int.reduceBNe, BitVec.reduceBEq, BitVec.reduceBNe, BitVec.reduceOfInt, BitVec.reduceSetWidth, -List.reduceReplicate]
    refine LoopOk.up 48 (fun n => ([(5, .int .i64 (16 + n : Nat)), (3, .ptr 1 0), (2, .ptr 0 0), (0, .ro b.length (bvs .u8 b))], [(1, .cells (bvs .u32 (wz b (16 + n))) 271), (0, .cells (bvs .u32 (List.replicate 64 (0 : BitVec 32))) 271)], 2)) (Le.sameT (by decide) (by simp only [-List.reduceReplicate, slotsSame, Eng.look, Nat.reduceEqDiff, reduceIte, reduceCtorEq, if_true, if_false, eq_self, true_and, and_true, Option.some.injEq, AV.int.injEq]; (try simp (disch := omega) only [wrap_i64]); (try simp [-List.reduceReplicate]); (try omega)) (by simp only [-List.reduceReplicate, memSame, Eng.look, Nat.reduceEqDiff, reduceIte, reduceCtorEq, if_true, if_false, eq_self, true_and, and_true, Option.some.injEq, AObj.cells.injEq, bvs_rep8, bvs_rep16, bvs_rep32, bvs_rep64, bvs_flat_rep, Nat.reduceMul, bvs_append, List.replicate_append_replicate, Nat.reduceAdd, bvs_inj]; try simp [-List.reduceReplicate]) (by simp [-List.reduceReplicate])) ?_
    intro k hk
    simp (maxSteps := 1000000) -implicitDefEqProofs only [go_sem, Nat.reduceBEq, Nat.reduceLT, Nat.reduceLeDiff, Nat.reduceEqDiff, Nat.reduceAdd, Nat.reduceMul, Nat.reduceSub, reduceIte, reduceCtorEq, Int.reduceLT, Int.reduceLE, Int.reduceToNat, Int.reduceAdd, Int.reduceSub, Int.reduceNeg, Int.reduceEq, Int.reduceNe, Int.reduceBEq, Int.reduceBNe, BitVec.reduceBEq, BitVec.reduceBNe, BitVec.reduceOfInt, BitVec.reduceSetWidth, -List.reduceReplicate]
    refine cndv_split (fun h => ?_) (fun h => ?_)
    · have h' : 16 + k < 64 := by have := of_decide_eq_true h; omega
      generalize hn : 16 + k = n at *
      have wn : IntKind.i64.wrap ((n : Int) + 1) = ((n + 1 : Nat) : Int) := by rw [wrap_i64] <;> omega
      have w15 : IntKind.i64.wrap ((n : Int) - 15) = ((n - 15 : Nat) : Int) := by rw [wrap_i64] <;> omega
      have w2 : IntKind.i64.wrap ((n : Int) - 2) = ((n - 2 : Nat) : Int) := by rw [wrap_i64] <;> omega
      have w16 : IntKind.i64.wrap ((n : Int) - 16) = ((n - 16 : Nat) : Int) := by rw [wrap_i64] <;> omega
      have w7 : IntKind.i64.wrap ((n : Int) - 7) = ((n - 7 : Nat) : Int) := by rw [wrap_i64] <;> omega
      have g15 := wz_get b n (n - 15) (by omega)
      have g2 := wz_get b n (n - 2) (by omega)
      have g16 := wz_get b n (n - 16) (by omega)
      have g7 := wz_get b n (n - 7) (by omega)
      have hl := wz_len b n (by omega)
      have hst := wz_set b n (by omega)
      rw [wNext, if_neg (by omega), s0W, s1W] at hst
      refine ⟨Fx.mixed, .inl ⟨[(0, false), (1, false), (2, false), (3, false), (4, false), (5, false), (6, false), (7, false), (8, false), (9, false)], [], by kernel_rfl, (fun n hn => by cases hn), ?_⟩⟩
      simp (maxSteps := 1000000) -implicitDefEqProofs only [go_sem, Nat.reduceBEq, Nat.reduceLT, Nat.reduceLeDiff, Nat.reduceEqDiff, Nat.reduceAdd, Nat.reduceMul, Nat.reduceSub, reduceIte, reduceCtorEq, Int.reduceLT, Int.reduceLE, Int.reduceToNat, Int.reduceAdd, Int.reduceSub, Int.reduceNeg, Int.reduceEq, Int.reduceNe, Int.reduceBEq, Int.reduceBNe, BitVec.reduceBEq, BitVec.reduceBNe, BitVec.reduceOfInt, BitVec.reduceSetWidth, -List.reduceReplicate, w15, w2, g15, g2, hl]
      refine ⟨by omega, by omega, by omega, by omega, ?_⟩
      refine ⟨Fx.mixed, .inr (.inl ⟨[(0, false), (1, false), (2, false), (3, false), (4, false), (5, false), (7, false), (10, false), (11, false), (14, false), (15, false), (16, false), (17, false), (19, false), (21, false), (24, false), (25, false), (6, true), (8, true), (9, false), (12, false), (13, false), (18, false), (20, true), (22, true), (23, false), (26, false), (27, false), (28, false), (29, true)], [1], [29], [4, 17], by kernel_rfl, by kernel_rfl, (fun n hn => by cases List.mem_singleton.1 hn; exact ⟨rfl, rfl⟩), ?_⟩)⟩
      simp (maxSteps := 1000000) -implicitDefEqProofs only [go_sem, Nat.reduceBEq, Nat.reduceLT, Nat.reduceLeDiff, Nat.reduceEqDiff, Nat.reduceAdd, Nat.reduceMul, Nat.reduceSub, reduceIte, reduceCtorEq, Int.reduceLT, Int.reduceLE, Int.reduceToNat, Int.reduceAdd, Int.reduceSub, Int.reduceNeg, Int.reduceEq, Int.reduceNe, Int.reduceBEq, Int.reduceBNe, BitVec.reduceBEq, BitVec.reduceBNe, BitVec.reduceOfInt, BitVec.reduceSetWidth, -List.reduceReplicate, w16, w7, g16, g7, hl]
      refine ⟨by omega, by omega, by omega, by omega, ?_⟩
      refine (rotOk _ 7 (by decide) (by decide)).flatv (by simp only [argsx, argx_int, argx_bool, argx_fn, argx_ro, argx_nils, eq_self, true_and, and_true, and_self]; try trivial) (fun _ => rfl) rfl ?_
      simp (maxSteps := 1000000) -implicitDefEqProofs only [go_sem, Nat.reduceBEq, Nat.reduceLT, Nat.reduceLeDiff, Nat.reduceEqDiff, Nat.reduceAdd, Nat.reduceMul, Nat.reduceSub, reduceIte, reduceCtorEq, Int.reduceLT, Int.reduceLE, Int.reduceToNat, Int.reduceAdd, Int.reduceSub, Int.reduceNeg, Int.reduceEq, Int.reduceNe, Int.reduceBEq, Int.reduceBNe, BitVec.reduceBEq, BitVec.reduceBNe, BitVec.reduceOfInt, BitVec.reduceSetWidth, -List.reduceReplicate]
      refine (rotOk _ 18 (by decide) (by decide)).flatv (by simp only [argsx, argx_int, argx_bool, argx_fn, argx_ro, argx_nils, eq_self, true_and, and_true, and_self]; try trivial) (fun _ => rfl) rfl ?_
      simp (maxSteps := 1000000) -implicitDefEqProofs only [go_sem, Nat.reduceBEq, Nat.reduceLT, Nat.reduceLeDiff, Nat.reduceEqDiff, Nat.reduceAdd, Nat.reduceMul, Nat.reduceSub, reduceIte, reduceCtorEq, Int.reduceLT, Int.reduceLE, Int.reduceToNat, Int.reduceAdd, Int.reduceSub, Int.reduceNeg, Int.reduceEq, Int.reduceNe, Int.reduceBEq, Int.reduceBNe, BitVec.reduceBEq, BitVec.reduceBNe, BitVec.reduceOfInt, BitVec.reduceSetWidth, -List.reduceReplicate]
      refine (rotOk _ 17 (by decide) (by decide)).flatv (by simp only [argsx, argx_int, argx_bool, argx_fn, argx_ro, argx_nils, eq_self, true_and, and_true, and_self]; try trivial) (fun _ => rfl) rfl ?_
      simp (maxSteps := 1000000) -implicitDefEqProofs only [go_sem, Nat.reduceBEq, Nat.reduceLT, Nat.reduceLeDiff, Nat.reduceEqDiff, Nat.reduceAdd, Nat.reduceMul, Nat.reduceSub, reduceIte, reduceCtorEq, Int.reduceLT, Int.reduceLE, Int.reduceToNat, Int.reduceAdd, Int.reduceSub, Int.reduceNeg, Int.reduceEq, Int.reduceNe, Int.reduceBEq, Int.reduceBNe, BitVec.reduceBEq, BitVec.reduceBNe, BitVec.reduceOfInt, BitVec.reduceSetWidth, -List.reduceReplicate]
      refine (rotOk _ 19 (by decide) (by decide)).flatv (by simp only [argsx, argx_int, argx_bool, argx_fn, argx_ro, argx_nils, eq_self, true_and, and_true, and_self]; try trivial) (fun _ => rfl) rfl ?_
      simp (maxSteps := 1000000) -implicitDefEqProofs only [go_sem, Nat.reduceBEq, Nat.reduceLT, Nat.reduceLeDiff, Nat.reduceEqDiff, Nat.reduceAdd, Nat.reduceMul, Nat.reduceSub, reduceIte, reduceCtorEq, Int.reduceLT, Int.reduceLE, Int.reduceToNat, Int.reduceAdd, Int.reduceSub, Int.reduceNeg, Int.reduceEq, Int.reduceNe, Int.reduceBEq, Int.reduceBNe, BitVec.reduceBEq, BitVec.reduceBNe, BitVec.reduceOfInt, BitVec.reduceSetWidth, -List.reduceReplicate, wn, hst, hl]
      refine ⟨by omega, by omega, ?_⟩
      refine UpK_normal (by omega) ?_
      rw [show 16 + (k + 1) = n + 1 by omega]
      exact (Le.sameT (by decide) (by simp only [-List.reduceReplicate, slotsSame, Eng.look, Nat.reduceEqDiff, reduceIte, reduceCtorEq, if_true, if_false, eq_self, true_and, and_true, Option.some.injEq, AV.int.injEq]; (try simp (disch := omega) only [wrap_i64]); (try simp [-List.reduceReplicate]); (try omega)) (by simp only [-List.reduceReplicate, memSame, Eng.look, Nat.reduceEqDiff, reduceIte, reduceCtorEq, if_true, if_false, eq_self, true_and, and_true, Option.some.injEq, AObj.cells.injEq, bvs_rep8, bvs_rep16, bvs_rep32, bvs_rep64, bvs_flat_rep, Nat.reduceMul, bvs_append, List.replicate_append_replicate, Nat.reduceAdd, bvs_inj]; try simp [-List.reduceReplicate]) (by simp [-List.reduceReplicate]))
    · have h' : k = 48 := by have := of_decide_eq_false h; omega
      subst h'
      have hl := wl_len b 64
      have htk : List.take 64 (wl b 64) = wl b 64 := List.take_of_length_le (by rw [hl]; exact Nat.le_refl _)
      simp (maxSteps := 1000000) -implicitDefEqProofs only [go_sem, Nat.reduceBEq, Nat.reduceLT, Nat.reduceLeDiff, Nat.reduceEqDiff, Nat.reduceAdd, Nat.reduceMul, Nat.reduceSub, reduceIte, reduceCtorEq, Int.reduceLT, Int.reduceLE, Int.reduceToNat, Int.reduceAdd, Int.reduceSub, Int.reduceNeg, Int.reduceEq, Int.reduceNe, Int.reduceBEq, Int.reduceBNe, BitVec.reduceBEq, BitVec.reduceBNe, BitVec.reduceOfInt, BitVec.reduceSetWidth, -List.reduceReplicate, wz_all, htk, hl]
      exact Fin.flatv (fun _ => rfl) (fun f => by simp only [renA, bvs_ren]) ⟨rfl, rfl, rfl⟩
end Go.Proofs.Ytmdeoikpiiambaa
/-! Shc -/
namespace Go.Proofs.Ytmdeoikpiiambaa
open Go Go.Eng
def beginL : List (BitVec 32) := [1779033703#32, 3144134277#32, 1013904242#32, 2773480762#32, 1359893119#32, 2600822924#32, 528734635#32, 1541459225#32]
def rootsL : List (BitVec 32) := [1116352408#32, 1899447441#32, 3049323471#32, 3921009573#32, 961987163#32, 1508970993#32, 2453635748#32, 2870763221#32, 3624381080#32, 310598401#32, 607225278#32, 1426881987#32, 1925078388#32, 2162078206#32, 2614888103#32, 3248222580#32, 3835390401#32, 4022224774#32, 264347078#32, 604807628#32, 770255983#32, 1249150122#32, 1555081692#32, 1996064986#32, 2554220882#32, 2821834349#32, 2952996808#32, 3210313671#32, 3336571891#32, 3584528711#32, 113926993#32, 338241895#32, 666307205#32, 773529912#32, 1294757372#32, 1396182291#32, 1695183700#32, 1986661051#32, 2177026350#32, 2456956037#32, 2730485921#32, 2820302411#32, 3259730800#32, 3345764771#32, 3516065817#32, 3600352804#32, 4094571909#32, 275423344#32, 430227734#32, 506948616#32, 659060556#32, 883997877#32, 958139571#32, 1322822218#32, 1537002063#32, 1747873779#32, 1955562222#32, 2024104815#32, 2227730452#32, 2361852424#32, 2428436474#32, 2756734187#32, 3204031479#32, 3329325298#32]
theorem beginSet : (((((((((bvs .u32 (List.replicate 8 (0 : BitVec 32))).set 0 (.int .u32 1779033703)).set 1 (.int .u32 3144134277)).set 2 (.int .u32 1013904242)).set 3 (.int .u32 2773480762)).set 4 (.int .u32 1359893119)).set 5 (.int .u32 2600822924)).set 6 (.int .u32 528734635)).set 7 (.int .u32 1541459225)) = bvs .u32 beginL := rfl
theorem beginOk : CallOk Try.prog 199 [] (fun _ => true) [] 0 fun v m nx => v = .agg (bvs .u32 beginL) ∧ m = [] ∧ nx = 0 := by
  refine fn_ok Try.func199 rfl (Nat.zero_le _) ?_
  have hl : beginL.length = 8 := rfl
  have ht : List.take 8 beginL = beginL := rfl
  simp (maxSteps := 1000000) -implicitDefEqProofs only [go_sem, Nat.reduceBEq, Nat.reduceLT, Nat.reduceLeDiff, Nat.reduceEqDiff, Nat.reduceAdd, Nat.reduceMul, Nat.reduceSub, reduceIte, reduceCtorEq, Int.reduceLT, Int.reduceLE, Int.reduceToNat, Int.reduceAdd, Int.reduceSub, Int.reduceNeg, Int.reduceEq, Int.reduceNe, Int.reduceBEq, Int.reduceBNe, BitVec.reduceBEq, BitVec.reduceBNe, BitVec.reduceOfInt, BitVec.reduceSetWidth, -List.reduceReplicate, Try.results199, Try.ntmps199, beginSet, hl, ht]
  exact Fin.flatv (fun _ => rfl) (fun f => by simp only [renA, bvs_ren]) ⟨rfl, rfl, rfl⟩
theorem rootsSet : (((((((((((((((((((((((((((((((((((((((((((((((((((((((((((((((((bvs .u32 (List.replicate 64 (0 : BitVec 32))).set 0 (.int .u32 1116352408)).set 1 (.int .u32 1899447441)).set 2 (.int .u32 3049323471)).set 3 (.int .u32 3921009573)).set 4 (.int .u32 961987163)).set 5 (.int .u32 1508970993)).set 6 (.int .u32 2453635748)).set 7 (.int .u32 2870763221)).set 8 (.int .u32 3624381080)).set 9 (.int .u32 310598401)).set 10 (.int .u32 607225278)).set 11 (.int .u32 1426881987)).set 12 (.int .u32 1925078388)).set 13 (.int .u32 2162078206)).set 14 (.int .u32 2614888103)).set 15 (.int .u32 3248222580)).set 16 (.int .u32 3835390401)).set 17 (.int .u32 4022224774)).set 18 (.int .u32 264347078)).set 19 (.int .u32 604807628)).set 20 (.int .u32 770255983)).set 21 (.int .u32 1249150122)).set 22 (.int .u32 1555081692)).set 23 (.int .u32 1996064986)).set 24 (.int .u32 2554220882)).set 25 (.int .u32 2821834349)).set 26 (.int .u32 2952996808)).set 27 (.int .u32 3210313671)).set 28 (.int .u32 3336571891)).set 29 (.int .u32 3584528711)).set 30 (.int .u32 113926993)).set 31 (.int .u32 338241895)).set 32 (.int .u32 666307205)).set 33 (.int .u32 773529912)).set 34 (.int .u32 1294757372)).set 35 (.int .u32 1396182291)).set 36 (.int .u32 1695183700)).set 37 (.int .u32 1986661051)).set 38 (.int .u32 2177026350)).set 39 (.int .u32 2456956037)).set 40 (.int .u32 2730485921)).set 41 (.int .u32 2820302411)).set 42 (.int .u32 3259730800)).set 43 (.int .u32 3345764771)).set 44 (.int .u32 3516065817)).set 45 (.int .u32 3600352804)).set 46 (.int .u32 4094571909)).set 47 (.int .u32 275423344)).set 48 (.int .u32 430227734)).set 49 (.int .u32 506948616)).set 50 (.int .u32 659060556)).set 51 (.int .u32 883997877)).set 52 (.int .u32 958139571)).set 53 (.int .u32 1322822218)).set 54 (.int .u32 1537002063)).set 55 (.int .u32 1747873779)).set 56 (.int .u32 1955562222)).set 57 (.int .u32 2024104815)).set 58 (.int .u32 2227730452)).set 59 (.int .u32 2361852424)).set 60 (.int .u32 2428436474)).set 61 (.int .u32 2756734187)).set 62 (.int .u32 3204031479)).set 63 (.int .u32 3329325298)) = bvs .u32 rootsL := rfl
theorem rootsOk : CallOk Try.prog 207 [] (fun _ => true) [] 0 fun v m nx => v = .agg (bvs .u32 rootsL) ∧ m = [] ∧ nx = 0 := by
  refine fn_ok Try.func207 rfl (Nat.zero_le _) ?_
  have hl : rootsL.length = 64 := rfl
  have ht : List.take 64 rootsL = rootsL := rfl
  simp (maxSteps := 1000000) -implicitDefEqProofs only [go_sem, Nat.reduceBEq, Nat.reduceLT, Nat.reduceLeDiff, Nat.reduceEqDiff, Nat.reduceAdd, Nat.reduceMul, Nat.reduceSub, reduceIte, reduceCtorEq, Int.reduceLT, Int.reduceLE, Int.reduceToNat, Int.reduceAdd, Int.reduceSub, Int.reduceNeg, Int.reduceEq, Int.reduceNe, Int.reduceBEq, Int.reduceBNe, BitVec.reduceBEq, BitVec.reduceBNe, BitVec.reduceOfInt, BitVec.reduceSetWidth, -List.reduceReplicate, Try.results207, Try.ntmps207, rootsSet, hl, ht]
  exact Fin.flatv (fun _ => rfl) (fun f => by simp only [renA, bvs_ren]) ⟨rfl, rfl, rfl⟩
def tW (v : List (BitVec 32)) (k w : BitVec 32) : BitVec 32 := v.getD 7 0 + (rotR (v.getD 4 0) 6 ^^^ rotR (v.getD 4 0) 11 ^^^ rotR (v.getD 4 0) 25) + (v.getD 4 0 &&& v.getD 5 0 ^^^ ~~~ v.getD 4 0 &&& v.getD 6 0) + k + w
def uW (v : List (BitVec 32)) : BitVec 32 := (rotR (v.getD 0 0) 2 ^^^ rotR (v.getD 0 0) 13 ^^^ rotR (v.getD 0 0) 22) + (v.getD 0 0 &&& v.getD 1 0 ^^^ v.getD 0 0 &&& v.getD 2 0 ^^^ v.getD 1 0 &&& v.getD 2 0)
def roundW (v : List (BitVec 32)) (k w : BitVec 32) : List (BitVec 32) := [tW v k w + uW v, v.getD 0 0, v.getD 1 0, v.getD 2 0, v.getD 3 0 + tW v k w, v.getD 4 0, v.getD 5 0, v.getD 6 0]
def rds (w v : List (BitVec 32)) : Nat → List (BitVec 32)
  | 0 => v
  | n + 1 => roundW (rds w v n) (rootsL.getD n 0) (w.getD n 0)
theorem rds_len (w v : List (BitVec 32)) (hv : v.length = 8) (n : Nat) : (rds w v n).length = 8 := by
  cases n with
  | zero => exact hv
  | succ n => rfl
def addN (W v : List (BitVec 32)) : Nat → List (BitVec 32)
  | 0 => W
  | n + 1 => (addN W v n).set n ((addN W v n).getD n 0 + v.getD n 0)
theorem addN_len (W v : List (BitVec 32)) (n : Nat) : (addN W v n).length = W.length := by
  induction n with
  | zero => rfl
  | succ n ih => simp [addN, ih]
def blockW (W : List (BitVec 32)) (b : List (BitVec 8)) : List (BitVec 32) := addN W (rds (wl b 64) W 64) 8
theorem blockW_len (W : List (BitVec 32)) (b : List (BitVec 8)) : (blockW W b).length = W.length := addN_len _ _ _
theorem takeB (k : IntKind) {w : Nat} (n : Nat) (x : List (BitVec w)) (hx : x.length = n) (y : List AV) : List.take n (bvs k x ++ y) = bvs k x := by
  rw [← hx, List.take_append_of_le_length (by rw [bvs_length]; exact Nat.le_refl _), bvs_take, List.take_length]
theorem bvsS_getD (k : IntKind) {w : Nat} (L : List (BitVec w)) (S : List AV) (i : Nat) (hi : i < L.length) : (bvs k L ++ S).getD i (.int k 0) = .int k ((L.getD i 0).toNat : Int) := by
  rw [← bvs_getD]
  simp only [List.getD_eq_getElem?_getD]
  rw [List.getElem?_append_left (by rw [bvs_length]; exact hi)]
theorem bvsS_set (k : IntKind) {w : Nat} (L : List (BitVec w)) (S : List AV) (i : Nat) (hi : i < L.length) (x : BitVec w) : (bvs k L ++ S).set i (.int k (x.toNat : Int)) = bvs k (L.set i x) ++ S := by
  rw [List.set_append_left _ _ (by rw [bvs_length]; exact hi), bvs_set]
theorem set8 (a b c d e f g h : BitVec 32) : ((((((((List.replicate 8 (0 : BitVec 32)).set 0 a).set 1 b).set 2 c).set 3 d).set 4 e).set 5 f).set 6 g).set 7 h = [a, b, c, d, e, f, g, h] := rfl
set_option maxHeartbeats 400000 in
theorem blockOk (W : List (BitVec 32)) (hW : W.length = 8) (us : List Value) (hus : us.length = 2) (b : List (BitVec 8)) (h64 : 64 ≤ b.length) (hb : b.length ≤ 1000000) :
    CallOk Try.prog 200 [.ptr 0 0, .ro b.length (bvs .u8 b)] (fun _ => true) [(0, .cells (bvs .u32 W ++ us.map AV.val) 262)] 1
      fun v m nx => v = .tup [] ∧ m = [(0, .cells (bvs .u32 (blockW W b) ++ us.map AV.val) 262)] ∧ nx = 1 := by
  refine fn_ok Try.func200 rfl (by show 2 ≤ _; decide) ?_
  simp (maxSteps := 1000000) -implicitDefEqProofs only [go_sem, Nat.reduceBEq, Nat.reduceLT, Nat.reduceLeDiff, Nat.reduceEqDiff, Nat.reduceAdd, Nat.reduceMul, Nat.reduceSub, reduceIte, reduceCtorEq, Int.reduceLT, Int.reduceLE, Int.reduceToNat, Int.reduceAdd, Int.reduceSub, Int.reduceNeg, Int.reduceEq, Int.reduceNe, Int.reduceBEq, Int.reduceBNe, BitVec.reduceBEq, BitVec.reduceBNe, BitVec.reduceOfInt, BitVec.reduceSetWidth, -List.reduceReplicate, Try.results200, Try.ntmps200]
  refine (spreadOk b h64 hb).flatv (by simp only [argsx, argx_int, argx_bool, argx_fn, argx_ro, argx_nils, eq_self, true_and, and_true, and_self]; try trivial) (fun f => by simp only [renA, bvs_ren]) (by simp only [noRo, bvs_noRo]) ?_
  simp (maxSteps := 1000000) -implicitDefEqProofs only [go_sem, Nat.reduceBEq, Nat.reduceLT, Nat.reduceLeDiff, Nat.reduceEqDiff, Nat.reduceAdd, Nat.reduceMul, Nat.reduceSub, reduceIte, reduceCtorEq, Int.reduceLT, Int.reduceLE, Int.reduceToNat, Int.reduceAdd, Int.reduceSub, Int.reduceNeg, Int.reduceEq, Int.reduceNe, Int.reduceBEq, Int.reduceBNe, BitVec.reduceBEq, BitVec.reduceBNe, BitVec.reduceOfInt, BitVec.reduceSetWidth, -List.reduceReplicate]
  refine rootsOk.flatv (by simp only [argsx, argx_int, argx_bool, argx_fn, argx_ro, argx_nils, eq_self, true_and, and_true, and_self]; try trivial) (fun f => by simp only [renA, bvs_ren]) (by simp only [noRo, bvs_noRo]) ?_
  have hwl := wl_len b 64
  have hrl : rootsL.length = 64 := rfl
  have ht := takeB .u32 8 W hW (us.map AV.val)
  simp (maxSteps := 1000000) -implicitDefEqProofs only [go_sem, Nat.reduceBEq, Nat.reduceLT, Nat.reduceLeDiff, Nat.reduceEqDiff, Nat.reduceAdd, Nat.reduceMul, Nat.reduceSub, reduceIte, reduceCtorEq, Int.reduceLT, Int.reduceLE, Int.reduceToNat, Int.reduceAdd, Int.reduceSub, Int.reduceNeg, Int.reduceEq, Int.reduceNe, Int.reduceBEq, Int.reduceBNe, BitVec.reduceBEq, BitVec.reduceBNe, BitVec.reduceOfInt, BitVec.reduceSetWidth, -List.reduceReplicate, hwl, hrl, ht, hW]
  refine ⟨by omega, ?_⟩
  have hbw0 : blockW W b = addN W (rds (wl b 64) W 64) 8 := rfl
  generalize wl b 64 = Wd at *
  refine LoopOk.up 64 (fun n => ([(21, .int .i64 n), (0, .ptr 0 0), (6, .ptr 3 0), (5, .ptr 2 0), (4, .ptr 1 0)], [(3, .cells (bvs .u32 (rds Wd W n)) 259), (2, .cells (bvs .u32 rootsL) 271), (1, .cells (bvs .u32 Wd) 271), (0, .cells (bvs .u32 W ++ us.map AV.val) 262)], 4)) (Le.sameT (by decide) (by simp only [-List.reduceReplicate, slotsSame, Eng.look, Nat.reduceEqDiff, rds, reduceIte, reduceCtorEq, if_true, if_false, eq_self, true_and, and_true, Option.some.injEq, AV.int.injEq]; (try simp (disch := omega) only [wrap_i64]); (try simp [-List.reduceReplicate]); (try omega)) (by simp only [-List.reduceReplicate, memSame, Eng.look, Nat.reduceEqDiff, rds, reduceIte, reduceCtorEq, if_true, if_false, eq_self, true_and, and_true, Option.some.injEq, AObj.cells.injEq, bvs_rep8, bvs_rep16, bvs_rep32, bvs_rep64, bvs_flat_rep, Nat.reduceMul, bvs_append, List.replicate_append_replicate, Nat.reduceAdd, bvs_inj]; try simp [-List.reduceReplicate]) (by simp [-List.reduceReplicate])) ?_
  intro n hn
  simp (maxSteps := 1000000) -implicitDefEqProofs only [go_sem, Nat.reduceBEq, Nat.reduceLT, Nat.reduceLeDiff, Nat.reduceEqDiff, Nat.reduceAdd, Nat.reduceMul, Nat.reduceSub, reduceIte, reduceCtorEq, Int.reduceLT, Int.reduceLE, Int.reduceToNat, Int.reduceAdd, Int.reduceSub, Int.reduceNeg, Int.reduceEq, Int.reduceNe, Int.reduceBEq, Int.reduceBNe, BitVec.reduceBEq, BitVec.reduceBNe, BitVec.reduceOfInt, BitVec.reduceSetWidth, -List.reduceReplicate]
  refine cndv_split (fun h => ?_) (fun h => ?_)
  · have h' : n < 64 := by have := of_decide_eq_true h; omega
    have wn : IntKind.i64.wrap ((n : Int) + 1) = ((n + 1 : Nat) : Int) := by rw [wrap_i64] <;> omega
    have hV := rds_len Wd W hW n
    have hnext : rds Wd W (n + 1) = roundW (rds Wd W n) (rootsL.getD n 0) (Wd.getD n 0) := rfl
    generalize rds Wd W n = V at *
    simp (maxSteps := 1000000) -implicitDefEqProofs only [go_sem, Nat.reduceBEq, Nat.reduceLT, Nat.reduceLeDiff, Nat.reduceEqDiff, Nat.reduceAdd, Nat.reduceMul, Nat.reduceSub, reduceIte, reduceCtorEq, Int.reduceLT, Int.reduceLE, Int.reduceToNat, Int.reduceAdd, Int.reduceSub, Int.reduceNeg, Int.reduceEq, Int.reduceNe, Int.reduceBEq, Int.reduceBNe, BitVec.reduceBEq, BitVec.reduceBNe, BitVec.reduceOfInt, BitVec.reduceSetWidth, -List.reduceReplicate]
    refine ⟨Fx.mixed, .inl ⟨[(0, false), (1, false), (2, false), (3, false), (4, false), (5, false)], [], by kernel_rfl, (fun n hn => by cases hn), ?_⟩⟩
    simp (maxSteps := 1000000) -implicitDefEqProofs only [go_sem, Nat.reduceBEq, Nat.reduceLT, Nat.reduceLeDiff, Nat.reduceEqDiff, Nat.reduceAdd, Nat.reduceMul, Nat.reduceSub, reduceIte, reduceCtorEq, Int.reduceLT, Int.reduceLE, Int.reduceToNat, Int.reduceAdd, Int.reduceSub, Int.reduceNeg, Int.reduceEq, Int.reduceNe, Int.reduceBEq, Int.reduceBNe, BitVec.reduceBEq, BitVec.reduceBNe, BitVec.reduceOfInt, BitVec.reduceSetWidth, -List.reduceReplicate, hV]
    refine ⟨Fx.mixed, .inl ⟨[(0, false), (1, false), (2, false), (4, false), (7, false), (11, false), (12, false), (13, false), (14, false), (15, false), (16, false), (17, false), (18, false), (19, false), (20, false), (22, false), (23, false), (24, false), (26, false), (27, false), (28, false), (3, true), (5, true), (6, false), (8, true), (9, false), (10, false), (21, false), (25, false), (29, false), (30, false)], [], by kernel_rfl, (fun n hn => by cases hn), ?_⟩⟩
    simp (maxSteps := 1000000) -implicitDefEqProofs only [go_sem, Nat.reduceBEq, Nat.reduceLT, Nat.reduceLeDiff, Nat.reduceEqDiff, Nat.reduceAdd, Nat.reduceMul, Nat.reduceSub, reduceIte, reduceCtorEq, Int.reduceLT, Int.reduceLE, Int.reduceToNat, Int.reduceAdd, Int.reduceSub, Int.reduceNeg, Int.reduceEq, Int.reduceNe, Int.reduceBEq, Int.reduceBNe, BitVec.reduceBEq, BitVec.reduceBNe, BitVec.reduceOfInt, BitVec.reduceSetWidth, -List.reduceReplicate, hV, hrl, hwl]
    refine ⟨by omega, h', by omega, h', ?_⟩
    refine (rotOk (V.getD 4 0) 6 (by decide) (by decide)).flatv (by simp only [argsx, argx_int, argx_bool, argx_fn, argx_ro, argx_nils, eq_self, true_and, and_true, and_self]; try trivial) (fun _ => rfl) rfl ?_
    simp (maxSteps := 1000000) -implicitDefEqProofs only [go_sem, Nat.reduceBEq, Nat.reduceLT, Nat.reduceLeDiff, Nat.reduceEqDiff, Nat.reduceAdd, Nat.reduceMul, Nat.reduceSub, reduceIte, reduceCtorEq, Int.reduceLT, Int.reduceLE, Int.reduceToNat, Int.reduceAdd, Int.reduceSub, Int.reduceNeg, Int.reduceEq, Int.reduceNe, Int.reduceBEq, Int.reduceBNe, BitVec.reduceBEq, BitVec.reduceBNe, BitVec.reduceOfInt, BitVec.reduceSetWidth, -List.reduceReplicate]
    refine (rotOk (V.getD 4 0) 11 (by decide) (by decide)).flatv (by simp only [argsx, argx_int, argx_bool, argx_fn, argx_ro, argx_nils, eq_self, true_and, and_true, and_self]; try trivial) (fun _ => rfl) rfl ?_
    simp (maxSteps := 1000000) -implicitDefEqProofs only [go_sem, Nat.reduceBEq, Nat.reduceLT, Nat.reduceLeDiff, Nat.reduceEqDiff, Nat.reduceAdd, Nat.reduceMul, Nat.reduceSub, reduceIte, reduceCtorEq, Int.reduceLT, Int.reduceLE, Int.reduceToNat, Int.reduceAdd, Int.reduceSub, Int.reduceNeg, Int.reduceEq, Int.reduceNe, Int.reduceBEq, Int.reduceBNe, BitVec.reduceBEq, BitVec.reduceBNe, BitVec.reduceOfInt, BitVec.reduceSetWidth, -List.reduceReplicate]
    refine (rotOk (V.getD 4 0) 25 (by decide) (by decide)).flatv (by simp only [argsx, argx_int, argx_bool, argx_fn, argx_ro, argx_nils, eq_self, true_and, and_true, and_self]; try trivial) (fun _ => rfl) rfl ?_
    simp (maxSteps := 1000000) -implicitDefEqProofs only [go_sem, Nat.reduceBEq, Nat.reduceLT, Nat.reduceLeDiff, Nat.reduceEqDiff, Nat.reduceAdd, Nat.reduceMul, Nat.reduceSub, reduceIte, reduceCtorEq, Int.reduceLT, Int.reduceLE, Int.reduceToNat, Int.reduceAdd, Int.reduceSub, Int.reduceNeg, Int.reduceEq, Int.reduceNe, Int.reduceBEq, Int.reduceBNe, BitVec.reduceBEq, BitVec.reduceBNe, BitVec.reduceOfInt, BitVec.reduceSetWidth, -List.reduceReplicate]
    refine ⟨Fx.mixed, .inl ⟨[(0, false), (2, false), (5, false), (8, false), (9, false), (10, false), (11, false), (12, false), (13, false), (14, false), (15, false), (16, false), (17, false), (18, false), (19, false), (20, false), (21, false), (22, false), (1, true), (3, true), (4, false), (6, true), (7, false), (23, false), (24, false)], [], by kernel_rfl, (fun n hn => by cases hn), ?_⟩⟩
    simp (maxSteps := 1000000) -implicitDefEqProofs only [go_sem, Nat.reduceBEq, Nat.reduceLT, Nat.reduceLeDiff, Nat.reduceEqDiff, Nat.reduceAdd, Nat.reduceMul, Nat.reduceSub, reduceIte, reduceCtorEq, Int.reduceLT, Int.reduceLE, Int.reduceToNat, Int.reduceAdd, Int.reduceSub, Int.reduceNeg, Int.reduceEq, Int.reduceNe, Int.reduceBEq, Int.reduceBNe, BitVec.reduceBEq, BitVec.reduceBNe, BitVec.reduceOfInt, BitVec.reduceSetWidth, -List.reduceReplicate, hV]
    refine (rotOk (V.getD 0 0) 2 (by decide) (by decide)).flatv (by simp only [argsx, argx_int, argx_bool, argx_fn, argx_ro, argx_nils, eq_self, true_and, and_true, and_self]; try trivial) (fun _ => rfl) rfl ?_
    simp (maxSteps := 1000000) -implicitDefEqProofs only [go_sem, Nat.reduceBEq, Nat.reduceLT, Nat.reduceLeDiff, Nat.reduceEqDiff, Nat.reduceAdd, Nat.reduceMul, Nat.reduceSub, reduceIte, reduceCtorEq, Int.reduceLT, Int.reduceLE, Int.reduceToNat, Int.reduceAdd, Int.reduceSub, Int.reduceNeg, Int.reduceEq, Int.reduceNe, Int.reduceBEq, Int.reduceBNe, BitVec.reduceBEq, BitVec.reduceBNe, BitVec.reduceOfInt, BitVec.reduceSetWidth, -List.reduceReplicate]
    refine (rotOk (V.getD 0 0) 13 (by decide) (by decide)).flatv (by simp only [argsx, argx_int, argx_bool, argx_fn, argx_ro, argx_nils, eq_self, true_and, and_true, and_self]; try trivial) (fun _ => rfl) rfl ?_
    simp (maxSteps := 1000000) -implicitDefEqProofs only [go_sem, Nat.reduceBEq, Nat.reduceLT, Nat.reduceLeDiff, Nat.reduceEqDiff, Nat.reduceAdd, Nat.reduceMul, Nat.reduceSub, reduceIte, reduceCtorEq, Int.reduceLT, Int.reduceLE, Int.reduceToNat, Int.reduceAdd, Int.reduceSub, Int.reduceNeg, Int.reduceEq, Int.reduceNe, Int.reduceBEq, Int.reduceBNe, BitVec.reduceBEq, BitVec.reduceBNe, BitVec.reduceOfInt, BitVec.reduceSetWidth, -List.reduceReplicate]
    refine (rotOk (V.getD 0 0) 22 (by decide) (by decide)).flatv (by simp only [argsx, argx_int, argx_bool, argx_fn, argx_ro, argx_nils, eq_self, true_and, and_true, and_self]; try trivial) (fun _ => rfl) rfl ?_
    simp (maxSteps := 1000000) -implicitDefEqProofs only [go_sem, Nat.reduceBEq, Nat.reduceLT, Nat.reduceLeDiff, Nat.reduceEqDiff, Nat.reduceAdd, Nat.reduceMul, Nat.reduceSub, reduceIte, reduceCtorEq, Int.reduceLT, Int.reduceLE, Int.reduceToNat, Int.reduceAdd, Int.reduceSub, Int.reduceNeg, Int.reduceEq, Int.reduceNe, Int.reduceBEq, Int.reduceBNe, BitVec.reduceBEq, BitVec.reduceBNe, BitVec.reduceOfInt, BitVec.reduceSetWidth, -List.reduceReplicate, hV, wn]
    refine UpK_normal h' ?_
    rw [hnext]
    have hdr : List.drop 8 V = [] := List.drop_eq_nil_of_le (by rw [hV]; exact Nat.le_refl _)
    exact (Le.sameT (by decide) (by simp only [-List.reduceReplicate, slotsSame, Eng.look, Nat.reduceEqDiff, set8, hdr, List.append_nil, roundW, tW, uW, reduceIte, reduceCtorEq, if_true, if_false, eq_self, true_and, and_true, Option.some.injEq, AV.int.injEq]; (try simp (disch := omega) only [wrap_i64]); (try simp [-List.reduceReplicate]); (try omega)) (by simp only [-List.reduceReplicate, memSame, Eng.look, Nat.reduceEqDiff, set8, hdr, List.append_nil, roundW, tW, uW, reduceIte, reduceCtorEq, if_true, if_false, eq_self, true_and, and_true, Option.some.injEq, AObj.cells.injEq, bvs_rep8, bvs_rep16, bvs_rep32, bvs_rep64, bvs_flat_rep, Nat.reduceMul, bvs_append, List.replicate_append_replicate, Nat.reduceAdd, bvs_inj]; try simp [-List.reduceReplicate]) (by simp [-List.reduceReplicate]))
  · have h' : n = 64 := by have := of_decide_eq_false h; omega
    subst h'
    have hV := rds_len Wd W hW 64
    generalize rds Wd W 64 = V at *
    have htV : List.take 8 V = V := List.take_of_length_le (by rw [hV]; exact Nat.le_refl _)
    simp (maxSteps := 1000000) -implicitDefEqProofs only [go_sem, Nat.reduceBEq, Nat.reduceLT, Nat.reduceLeDiff, Nat.reduceEqDiff, Nat.reduceAdd, Nat.reduceMul, Nat.reduceSub, reduceIte, reduceCtorEq, Int.reduceLT, Int.reduceLE, Int.reduceToNat, Int.reduceAdd, Int.reduceSub, Int.reduceNeg, Int.reduceEq, Int.reduceNe, Int.reduceBEq, Int.reduceBNe, BitVec.reduceBEq, BitVec.reduceBNe, BitVec.reduceOfInt, BitVec.reduceSetWidth, -List.reduceReplicate, hV, htV]
    refine LoopOk.up 8 (fun n => ([(102, .int .i64 n), (101, .agg (bvs .u32 V)), (0, .ptr 0 0)], [(0, .cells (bvs .u32 (addN W V n) ++ us.map AV.val) 262)], 4)) (Le.sameT (by decide) (by simp only [-List.reduceReplicate, slotsSame, Eng.look, Nat.reduceEqDiff, addN, reduceIte, reduceCtorEq, if_true, if_false, eq_self, true_and, and_true, Option.some.injEq, AV.int.injEq]; (try simp (disch := omega) only [wrap_i64]); (try simp [-List.reduceReplicate]); (try omega)) (by simp only [-List.reduceReplicate, memSame, Eng.look, Nat.reduceEqDiff, addN, reduceIte, reduceCtorEq, if_true, if_false, eq_self, true_and, and_true, Option.some.injEq, AObj.cells.injEq, bvs_rep8, bvs_rep16, bvs_rep32, bvs_rep64, bvs_flat_rep, Nat.reduceMul, bvs_append, List.replicate_append_replicate, Nat.reduceAdd, bvs_inj]; try simp [-List.reduceReplicate]) (by simp [-List.reduceReplicate])) ?_
    intro n hn
    simp (maxSteps := 1000000) -implicitDefEqProofs only [go_sem, Nat.reduceBEq, Nat.reduceLT, Nat.reduceLeDiff, Nat.reduceEqDiff, Nat.reduceAdd, Nat.reduceMul, Nat.reduceSub, reduceIte, reduceCtorEq, Int.reduceLT, Int.reduceLE, Int.reduceToNat, Int.reduceAdd, Int.reduceSub, Int.reduceNeg, Int.reduceEq, Int.reduceNe, Int.reduceBEq, Int.reduceBNe, BitVec.reduceBEq, BitVec.reduceBNe, BitVec.reduceOfInt, BitVec.reduceSetWidth, -List.reduceReplicate]
    refine cndv_split (fun h => ?_) (fun h => ?_)
    · have h' : n < 8 := by have := of_decide_eq_true h; omega
      have wn : IntKind.i64.wrap ((n : Int) + 1) = ((n + 1 : Nat) : Int) := by rw [wrap_i64] <;> omega
      have hal := addN_len W V n
      have hgd := bvsS_getD .u32 (addN W V n) (us.map AV.val) n (by omega)
      have hst := bvsS_set .u32 (addN W V n) (us.map AV.val) n (by omega) ((addN W V n).getD n 0 + V.getD n 0)
      simp (maxSteps := 1000000) -implicitDefEqProofs only [go_sem, Nat.reduceBEq, Nat.reduceLT, Nat.reduceLeDiff, Nat.reduceEqDiff, Nat.reduceAdd, Nat.reduceMul, Nat.reduceSub, reduceIte, reduceCtorEq, Int.reduceLT, Int.reduceLE, Int.reduceToNat, Int.reduceAdd, Int.reduceSub, Int.reduceNeg, Int.reduceEq, Int.reduceNe, Int.reduceBEq, Int.reduceBNe, BitVec.reduceBEq, BitVec.reduceBNe, BitVec.reduceOfInt, BitVec.reduceSetWidth, -List.reduceReplicate, hV]
      refine ⟨by omega, by omega, ?_⟩
      refine ⟨Fx.mixed, .inl ⟨[(0, false), (1, false), (2, false), (3, false), (4, false), (6, false), (8, false), (9, false), (5, true), (7, false), (10, false), (11, true)], [0], by kernel_rfl, (fun n hn => by cases List.mem_singleton.1 hn; exact ⟨rfl, rfl⟩), ?_⟩⟩
      simp (maxSteps := 1000000) -implicitDefEqProofs only [go_sem, Nat.reduceBEq, Nat.reduceLT, Nat.reduceLeDiff, Nat.reduceEqDiff, Nat.reduceAdd, Nat.reduceMul, Nat.reduceSub, reduceIte, reduceCtorEq, Int.reduceLT, Int.reduceLE, Int.reduceToNat, Int.reduceAdd, Int.reduceSub, Int.reduceNeg, Int.reduceEq, Int.reduceNe, Int.reduceBEq, Int.reduceBNe, BitVec.reduceBEq, BitVec.reduceBNe, BitVec.reduceOfInt, BitVec.reduceSetWidth, -List.reduceReplicate, hgd, hst, wn, hal, hus, hW, List.length_append]
      exact ⟨by omega, by omega, by omega, by omega, UpK_normal h' (Le.sameT (by decide) (by simp only [-List.reduceReplicate, slotsSame, Eng.look, Nat.reduceEqDiff, addN, reduceIte, reduceCtorEq, if_true, if_false, eq_self, true_and, and_true, Option.some.injEq, AV.int.injEq]; (try simp (disch := omega) only [wrap_i64]); (try simp [-List.reduceReplicate]); (try omega)) (by simp only [-List.reduceReplicate, memSame, Eng.look, Nat.reduceEqDiff, addN, reduceIte, reduceCtorEq, if_true, if_false, eq_self, true_and, and_true, Option.some.injEq, AObj.cells.injEq, bvs_rep8, bvs_rep16, bvs_rep32, bvs_rep64, bvs_flat_rep, Nat.reduceMul, bvs_append, List.replicate_append_replicate, Nat.reduceAdd, bvs_inj]; try simp [-List.reduceReplicate]) (by simp [-List.reduceReplicate]))⟩
    · have h' : n = 8 := by have := of_decide_eq_false h; omega
      subst h'
      simp (maxSteps := 1000000) -implicitDefEqProofs only [go_sem, Nat.reduceBEq, Nat.reduceLT, Nat.reduceLeDiff, Nat.reduceEqDiff, Nat.reduceAdd, Nat.reduceMul, Nat.reduceSub, reduceIte, reduceCtorEq, Int.reduceLT, Int.reduceLE, Int.reduceToNat, Int.reduceAdd, Int.reduceSub, Int.reduceNeg, Int.reduceEq, Int.reduceNe, Int.reduceBEq, Int.reduceBNe, BitVec.reduceBEq, BitVec.reduceBNe, BitVec.reduceOfInt, BitVec.reduceSetWidth, -List.reduceReplicate]
      rw [hbw0]
      refine ⟨[], .tup [], [(0, .cells (bvs .u32 (addN W V 8) ++ us.map AV.val) 262)], 1, ⟨rfl, by decide⟩, rfl, ⟨by simp only [renO, renL_append, bvs_ren, renL_vals]; rfl, rfl, trivial⟩, by simp [injOn], (fun n e => by cases e), rfl, rfl, rfl⟩
end Go.Proofs.Ytmdeoikpiiambaa
/-! Shd -/
namespace Go.Proofs.Ytmdeoikpiiambaa
open Go Go.Eng
theorem tail8 (W : List (BitVec 32)) (hW : W.length = 8) (x y : AV) : (bvs .u32 W ++ [x, y]).getD 8 .nils = x := by
  simp only [List.getD_eq_getElem?_getD]
  rw [List.getElem?_append_right (by rw [bvs_length, hW]; exact Nat.le_refl _), bvs_length, hW]
  rfl
theorem tail9 (W : List (BitVec 32)) (hW : W.length = 8) (x y : AV) : (bvs .u32 W ++ [x, y]).getD 9 (.int .u64 0) = y := by
  simp only [List.getD_eq_getElem?_getD]
  rw [List.getElem?_append_right (by rw [bvs_length, hW]; decide), bvs_length, hW]
  rfl
theorem set8' (W : List (BitVec 32)) (hW : W.length = 8) (x y z : AV) : (bvs .u32 W ++ [x, y]).set 8 z = bvs .u32 W ++ [z, y] := by
  rw [List.set_append_right _ _ (by rw [bvs_length, hW]; exact Nat.le_refl _), bvs_length, hW]
  rfl
theorem set9 (W : List (BitVec 32)) (hW : W.length = 8) (x y z : AV) : (bvs .u32 W ++ [x, y]).set 9 z = bvs .u32 W ++ [x, z] := by
  rw [List.set_append_right _ _ (by rw [bvs_length, hW]; decide), bvs_length, hW]
  rfl
def bl (W : List (BitVec 32)) (b : List (BitVec 8)) : Nat → List (BitVec 32)
  | 0 => W
  | n + 1 => blockW (bl W b n) (b.drop (64 * n))
theorem bl_len (W : List (BitVec 32)) (b : List (BitVec 8)) (n : Nat) : (bl W b n).length = W.length := by
  induction n with
  | zero => rfl
  | succ n ih => rw [bl, blockW_len, ih]
theorem newOk : CallOk Try.prog 176 [] (fun _ => true) [] 0 fun v m nx => v = .ptr 0 0 ∧ m = [(0, .cells (bvs .u32 beginL ++ [.nils, .int .u64 (((0 : BitVec 64).toNat : Nat) : Int)]) 262)] ∧ nx = 1 := by
  refine fn_ok Try.func176 rfl (Nat.zero_le _) ?_
  simp (maxSteps := 1000000) -implicitDefEqProofs only [go_sem, Nat.reduceBEq, Nat.reduceLT, Nat.reduceLeDiff, Nat.reduceEqDiff, Nat.reduceAdd, Nat.reduceMul, Nat.reduceSub, reduceIte, reduceCtorEq, Int.reduceLT, Int.reduceLE, Int.reduceToNat, Int.reduceAdd, Int.reduceSub, Int.reduceNeg, Int.reduceEq, Int.reduceNe, Int.reduceBEq, Int.reduceBNe, BitVec.reduceBEq, BitVec.reduceBNe, BitVec.reduceOfInt, BitVec.reduceSetWidth, -List.reduceReplicate, Try.results176, Try.ntmps176]
  refine beginOk.flatv trivial (fun f => by simp only [renA, bvs_ren]) (by simp only [noRo, bvs_noRo]) ?_
  have hl : beginL.length = 8 := rfl
  simp (maxSteps := 1000000) -implicitDefEqProofs only [go_sem, Nat.reduceBEq, Nat.reduceLT, Nat.reduceLeDiff, Nat.reduceEqDiff, Nat.reduceAdd, Nat.reduceMul, Nat.reduceSub, reduceIte, reduceCtorEq, Int.reduceLT, Int.reduceLE, Int.reduceToNat, Int.reduceAdd, Int.reduceSub, Int.reduceNeg, Int.reduceEq, Int.reduceNe, Int.reduceBEq, Int.reduceBNe, BitVec.reduceBEq, BitVec.reduceBNe, BitVec.reduceOfInt, BitVec.reduceSetWidth, -List.reduceReplicate, hl]
  exact ⟨[(0, 0)], .ptr 0 0, [(0, .cells (bvs .u32 beginL ++ [.nils, .int .u64 (((0 : BitVec 64).toNat : Nat) : Int)]) 262)], 1, ⟨rfl, by decide⟩, rfl, ⟨rfl, rfl, trivial⟩, by simp [injOn], (fun n e => by cases e), rfl, rfl, rfl⟩
set_option maxHeartbeats 800000 in
theorem writeNil (W : List (BitVec 32)) (hW : W.length = 8) (many : BitVec 64) (b : List (BitVec 8)) (hb : b.length ≤ 100000) :
    CallOk Try.prog 177 [.ptr 0 0, .ro b.length (bvs .u8 b)] (fun _ => true) [(0, .cells (bvs .u32 W ++ [.nils, .int .u64 (many.toNat : Int)]) 262)] 1
      fun v m nx => v = .tup [] ∧ ∃ (cap : Nat) (sp : List Value), m = [(0, .cells (bvs .u32 (bl W ([] ++ b) (([] ++ b).length / 64)) ++ [.sl 1 0 (([] ++ b).drop (64 * (([] ++ b).length / 64))).length cap, .int .u64 ((many + BitVec.ofNat 64 b.length).toNat : Int)]) 262), (1, .cells (bvs .u8 (([] ++ b).drop (64 * (([] ++ b).length / 64))) ++ sp.map AV.val) 5)] ∧ nx = 1 + 1 ∧ (([] ++ b).drop (64 * (([] ++ b).length / 64))).length + sp.length = cap ∧ cap ≤ maxI := by
  refine fn_ok Try.func177 rfl (by show 2 ≤ _; decide) ?_
  generalize hX : ([] ++ b) = X
  have hg8 : ∀ (x y : AV), (bvs .u32 W ++ [x, y]).getD 8 .nils = x := fun x y => tail8 W hW x y
  have hg9 : ∀ (x y : AV), (bvs .u32 W ++ [x, y]).getD 9 (.int .u64 0) = y := fun x y => tail9 W hW x y
  have hs9 : ∀ (x y z : AV), (bvs .u32 W ++ [x, y]).set 9 z = bvs .u32 W ++ [x, z] := fun x y z => set9 W hW x y z
  simp (maxSteps := 1000000) -implicitDefEqProofs only [go_sem, Nat.reduceBEq, Nat.reduceLT, Nat.reduceLeDiff, Nat.reduceEqDiff, Nat.reduceAdd, Nat.reduceMul, Nat.reduceSub, reduceIte, reduceCtorEq, Int.reduceLT, Int.reduceLE, Int.reduceToNat, Int.reduceAdd, Int.reduceSub, Int.reduceNeg, Int.reduceEq, Int.reduceNe, Int.reduceBEq, Int.reduceBNe, BitVec.reduceBEq, BitVec.reduceBNe, BitVec.reduceOfInt, BitVec.reduceSetWidth, -List.reduceReplicate, Try.results177, Try.ntmps177, hg8, hg9, hs9, hW, List.length_append, List.take_length]
  refine appk_gen (X := ([] : List (BitVec 8))) (.inl ⟨rfl, rfl⟩) (fun n off len cap e => by first | (cases e; done) | (cases e; decide)) (fun _ => rfl) (by decide) (by (try simp only [List.length_nil]); omega) fun v' m' nx' hap hnx hsl hoth => ?_
  have hm0 : Eng.look m' 0 = some (.cells (bvs .u32 W ++ [.nils, .int .u64 ((many + BitVec.ofNat 64 b.length).toNat : Int)]) 262) := by
    rw [hoth 0 (by decide) (fun _ _ _ e => by cases e)]
    rfl
  rw [hX] at hap
  have hXl : X.length ≤ 200000 := by rw [← hX, List.length_append]; (try simp only [List.length_nil]); omega
  generalize hmany : (many + BitVec.ofNat 64 b.length) = many' at *
  simp (maxSteps := 1000000) -implicitDefEqProofs only [go_sem, Nat.reduceBEq, Nat.reduceLT, Nat.reduceLeDiff, Nat.reduceEqDiff, Nat.reduceAdd, Nat.reduceMul, Nat.reduceSub, reduceIte, reduceCtorEq, Int.reduceLT, Int.reduceLE, Int.reduceToNat, Int.reduceAdd, Int.reduceSub, Int.reduceNeg, Int.reduceEq, Int.reduceNe, Int.reduceBEq, Int.reduceBNe, BitVec.reduceBEq, BitVec.reduceBNe, BitVec.reduceOfInt, BitVec.reduceSetWidth, -List.reduceReplicate]
  refine LoopOk.upF (X.length / 64) (fun n => ([(4, .ro (X.length - 64 * n) (bvs .u8 (X.drop (64 * n)))), (0, .ptr 0 0)], [(0, .cells (bvs .u32 (bl W X n) ++ [.nils, .int .u64 (many'.toNat : Int)]) 262)], 1)) ?_ ?_
  · obtain ⟨o, ho, hfz⟩ := hap.fz
    refine .inr ⟨o, fun n l e => ⟨rfl, 5, (ho n l e).1⟩, [], ⟨rfl, Nat.le_refl _, ⟨?_, ?_, trivial⟩, ⟨?_, rfl, trivial⟩, by simp [injOn], (fun n e => by cases e), fun _ _ => rfl⟩⟩
    · rw [fzS_look]
      simp only [Eng.look, Nat.reduceEqDiff, reduceIte, if_true, if_false, Option.map_some, hfz, renA, bvs_ren, Nat.mul_zero, Nat.sub_zero, List.drop_zero]
    · rw [fzS_look]
      simp only [Eng.look, Nat.reduceEqDiff, reduceIte, if_true, if_false, Option.map_some, fzA]
      rfl
    · have hd0 : Eng.look (delO m' o) 0 = Eng.look m' 0 := by
        cases o with
        | none => rfl
        | some p =>
          obtain ⟨n, l⟩ := p
          obtain ⟨len, cap, e⟩ := (ho n l rfl).2
          exact look_del_other (by rw [(hsl n 0 len cap e).1]; decide)
      change Eng.look (delO m' o) 0 = _
      rw [hd0, hm0]
      simp only [renO, renL_append, bvs_ren, bl]
      rfl
  intro n hn
  have hbl := bl_len W X n
  have hdl : (X.drop (64 * n)).length = X.length - 64 * n := List.length_drop
  rcases Nat.lt_or_ge n (X.length / 64) with h' | h'
  · have f1 : decide (((X.length - 64 * n : Nat) : Int) ≥ 64) = true := by simp; omega
    simp (maxSteps := 1000000) -implicitDefEqProofs only [go_sem, Nat.reduceBEq, Nat.reduceLT, Nat.reduceLeDiff, Nat.reduceEqDiff, Nat.reduceAdd, Nat.reduceMul, Nat.reduceSub, reduceIte, reduceCtorEq, Int.reduceLT, Int.reduceLE, Int.reduceToNat, Int.reduceAdd, Int.reduceSub, Int.reduceNeg, Int.reduceEq, Int.reduceNe, Int.reduceBEq, Int.reduceBNe, BitVec.reduceBEq, BitVec.reduceBNe, BitVec.reduceOfInt, BitVec.reduceSetWidth, -List.reduceReplicate, f1]
    refine CallG.hide (n := 0) (ty := 262) (A := bvs .u32 (bl W X n)) (T := [.nils, .int .u64 (many'.toNat : Int)]) rfl fun us hus => ?_
    rw [← hdl]
    refine (blockOk (bl W X n) (by rw [hbl]; exact hW) us hus (X.drop (64 * n)) (by omega) (by omega)).use [] rfl ⟨by simp only [renO, renL_append, bvs_ren, renL_vals]; rfl, fun _ => rfl, trivial⟩ (by simp [injOn]) rfl (fun _ _ => rfl) (fun _ e => by cases e) ⟨rfl, by simp only [argx, renA, bvs_ren], trivial⟩ ?_
    rintro v m1 nx1 ⟨rfl, rfl, rfl⟩
    refine ⟨rfl, by simp only [noRoM, noRoO, noRoL_vals', Bool.and_self], Nat.le_refl _, bvs .u32 (bl W X (n + 1)), by simp only [renM, renO, renL_append, bvs_ren, renL_vals, bl]; rfl, ?_⟩
    change After _ _ _ _ [(0, .cells (bvs .u32 (bl W X (n + 1)) ++ [.nils, .int .u64 (many'.toNat : Int)]) 262)] 1
    have e1 : X.length - 64 * n - 64 = X.length - 64 * (n + 1) := by omega
    have e2 : List.take (X.length - 64 * (n + 1)) (List.drop (64 * n + 64) X) = X.drop (64 * (n + 1)) := by
      rw [show 64 * n + 64 = 64 * (n + 1) by omega]
      exact List.take_of_length_le (by rw [List.length_drop]; exact Nat.le_refl _)
    simp (maxSteps := 1000000) -implicitDefEqProofs only [go_sem, Nat.reduceBEq, Nat.reduceLT, Nat.reduceLeDiff, Nat.reduceEqDiff, Nat.reduceAdd, Nat.reduceMul, Nat.reduceSub, reduceIte, reduceCtorEq, Int.reduceLT, Int.reduceLE, Int.reduceToNat, Int.reduceAdd, Int.reduceSub, Int.reduceNeg, Int.reduceEq, Int.reduceNe, Int.reduceBEq, Int.reduceBNe, BitVec.reduceBEq, BitVec.reduceBNe, BitVec.reduceOfInt, BitVec.reduceSetWidth, -List.reduceReplicate, hdl, e1, e2, List.drop_drop]
    refine ⟨by omega, UpK_normal h' (Le.sameT (by decide) (by simp only [-List.reduceReplicate, slotsSame, Eng.look, Nat.reduceEqDiff, reduceIte, reduceCtorEq, if_true, if_false, eq_self, true_and, and_true, Option.some.injEq, AV.int.injEq]; (try simp (disch := omega) only [wrap_i64]); (try simp [-List.reduceReplicate]); (try omega)) (by simp only [-List.reduceReplicate, memSame, Eng.look, Nat.reduceEqDiff, reduceIte, reduceCtorEq, if_true, if_false, eq_self, true_and, and_true, Option.some.injEq, AObj.cells.injEq, bvs_rep8, bvs_rep16, bvs_rep32, bvs_rep64, bvs_flat_rep, Nat.reduceMul, bvs_append, List.replicate_append_replicate, Nat.reduceAdd, bvs_inj]; try simp [-List.reduceReplicate]) (by simp [-List.reduceReplicate]))⟩
  · have f1 : decide (((X.length - 64 * n : Nat) : Int) ≥ 64) = false := by simp; omega
    have hnn : n = X.length / 64 := by omega
    subst hnn
    have htl : List.take (X.length - 64 * (X.length / 64)) (X.drop (64 * (X.length / 64))) = X.drop (64 * (X.length / 64)) := by rw [← hdl, List.take_length]
    have hgs : ∀ (x y z : AV), (bvs .u32 (bl W X (X.length / 64)) ++ [x, y]).set 8 z = bvs .u32 (bl W X (X.length / 64)) ++ [z, y] := fun x y z => set8' _ (by rw [hbl]; exact hW) x y z
    simp (maxSteps := 1000000) -implicitDefEqProofs only [go_sem, Nat.reduceBEq, Nat.reduceLT, Nat.reduceLeDiff, Nat.reduceEqDiff, Nat.reduceAdd, Nat.reduceMul, Nat.reduceSub, reduceIte, reduceCtorEq, Int.reduceLT, Int.reduceLE, Int.reduceToNat, Int.reduceAdd, Int.reduceSub, Int.reduceNeg, Int.reduceEq, Int.reduceNe, Int.reduceBEq, Int.reduceBNe, BitVec.reduceBEq, BitVec.reduceBNe, BitVec.reduceOfInt, BitVec.reduceSetWidth, -List.reduceReplicate, f1, htl]
    refine ⟨.inl trivial, hdl, ?_⟩
    rw [← hdl]
    refine appk_bvs (x := ([] : List (BitVec 8))) (sp := []) rfl rfl rfl (by decide) (by decide) (by rw [hdl, List.length_nil]; omega) fun cap sp g1 g2 => ?_
    simp (maxSteps := 1000000) -implicitDefEqProofs only [go_sem, Nat.reduceBEq, Nat.reduceLT, Nat.reduceLeDiff, Nat.reduceEqDiff, Nat.reduceAdd, Nat.reduceMul, Nat.reduceSub, reduceIte, reduceCtorEq, Int.reduceLT, Int.reduceLE, Int.reduceToNat, Int.reduceAdd, Int.reduceSub, Int.reduceNeg, Int.reduceEq, Int.reduceNe, Int.reduceBEq, Int.reduceBNe, BitVec.reduceBEq, BitVec.reduceBNe, BitVec.reduceOfInt, BitVec.reduceSetWidth, -List.reduceReplicate, hgs, hbl, hW, List.length_append]
    refine ⟨[(1, 2)], .tup [], [(0, .cells (bvs .u32 (bl W X (X.length / 64)) ++ [.sl 1 0 (X.drop (64 * (X.length / 64))).length cap, .int .u64 (many'.toNat : Int)]) 262), (1, .cells (bvs .u8 (X.drop (64 * (X.length / 64))) ++ sp.map AV.val) 5)], 1 + 1, ⟨rfl, Nat.le_succ _⟩, rfl, ⟨?_, rfl, ?_, rfl, trivial⟩, ?_, (fun n e => by cases e), rfl, cap, sp, rfl, rfl, by rw [List.nil_append] at g1; exact g1, g2⟩
    · simp only [renO, renL_append, bvs_ren]; rfl
    · simp only [renO, renL_vals']; rfl
    · simp [injOn]; decide
set_option maxHeartbeats 800000 in
theorem writeOk (W : List (BitVec 32)) (hW : W.length = 8) (many : BitVec 64) (rest : List (BitVec 8)) (hr : rest.length ≤ 100) (cap0 : Nat) (sp0 : List Value) (hc0 : rest.length + sp0.length = cap0) (hm0 : cap0 ≤ maxI) (b : List (BitVec 8)) (hb : b.length ≤ 100000) :
    CallOk Try.prog 177 [.ptr 0 0, .ro b.length (bvs .u8 b)] (fun _ => true) [(0, .cells (bvs .u32 W ++ [.sl 1 0 rest.length cap0, .int .u64 (many.toNat : Int)]) 262), (1, .cells (bvs .u8 rest ++ sp0.map AV.val) 5)] 2
      fun v m nx => v = .tup [] ∧ ∃ (cap : Nat) (sp : List Value), m = [(0, .cells (bvs .u32 (bl W (rest ++ b) ((rest ++ b).length / 64)) ++ [.sl 2 0 ((rest ++ b).drop (64 * ((rest ++ b).length / 64))).length cap, .int .u64 ((many + BitVec.ofNat 64 b.length).toNat : Int)]) 262), (2, .cells (bvs .u8 ((rest ++ b).drop (64 * ((rest ++ b).length / 64))) ++ sp.map AV.val) 5)] ∧ nx = 2 + 1 ∧ ((rest ++ b).drop (64 * ((rest ++ b).length / 64))).length + sp.length = cap ∧ cap ≤ maxI := by
  refine fn_ok Try.func177 rfl (by show 2 ≤ _; decide) ?_
  generalize hX : (rest ++ b) = X
  have hg8 : ∀ (x y : AV), (bvs .u32 W ++ [x, y]).getD 8 .nils = x := fun x y => tail8 W hW x y
  have hg9 : ∀ (x y : AV), (bvs .u32 W ++ [x, y]).getD 9 (.int .u64 0) = y := fun x y => tail9 W hW x y
  have hs9 : ∀ (x y z : AV), (bvs .u32 W ++ [x, y]).set 9 z = bvs .u32 W ++ [x, z] := fun x y z => set9 W hW x y z
  simp (maxSteps := 1000000) -implicitDefEqProofs only [go_sem, Nat.reduceBEq, Nat.reduceLT, Nat.reduceLeDiff, Nat.reduceEqDiff, Nat.reduceAdd, Nat.reduceMul, Nat.reduceSub, reduceIte, reduceCtorEq, Int.reduceLT, Int.reduceLE, Int.reduceToNat, Int.reduceAdd, Int.reduceSub, Int.reduceNeg, Int.reduceEq, Int.reduceNe, Int.reduceBEq, Int.reduceBNe, BitVec.reduceBEq, BitVec.reduceBNe, BitVec.reduceOfInt, BitVec.reduceSetWidth, -List.reduceReplicate, Try.results177, Try.ntmps177, hg8, hg9, hs9, hW, List.length_append, List.take_length]
  refine appk_gen (X := rest) (.inr ⟨1, cap0, sp0, rfl, rfl, hc0, hm0⟩) (fun n off len cap e => by first | (cases e; done) | (cases e; decide)) (fun _ => rfl) (by decide) (by (try simp only [List.length_nil]); omega) fun v' m' nx' hap hnx hsl hoth => ?_
  have hm0 : Eng.look m' 0 = some (.cells (bvs .u32 W ++ [.sl 1 0 rest.length cap0, .int .u64 ((many + BitVec.ofNat 64 b.length).toNat : Int)]) 262) := by
    rw [hoth 0 (by decide) (fun _ _ _ e => by cases e)]
    rfl
  rw [hX] at hap
  have hXl : X.length ≤ 200000 := by rw [← hX, List.length_append]; (try simp only [List.length_nil]); omega
  generalize hmany : (many + BitVec.ofNat 64 b.length) = many' at *
  simp (maxSteps := 1000000) -implicitDefEqProofs only [go_sem, Nat.reduceBEq, Nat.reduceLT, Nat.reduceLeDiff, Nat.reduceEqDiff, Nat.reduceAdd, Nat.reduceMul, Nat.reduceSub, reduceIte, reduceCtorEq, Int.reduceLT, Int.reduceLE, Int.reduceToNat, Int.reduceAdd, Int.reduceSub, Int.reduceNeg, Int.reduceEq, Int.reduceNe, Int.reduceBEq, Int.reduceBNe, BitVec.reduceBEq, BitVec.reduceBNe, BitVec.reduceOfInt, BitVec.reduceSetWidth, -List.reduceReplicate]
  refine LoopOk.upF (X.length / 64) (fun n => ([(4, .ro (X.length - 64 * n) (bvs .u8 (X.drop (64 * n)))), (0, .ptr 0 0)], [(0, .cells (bvs .u32 (bl W X n) ++ [.sl 1 0 rest.length cap0, .int .u64 (many'.toNat : Int)]) 262)], 2)) ?_ ?_
  · obtain ⟨o, ho, hfz⟩ := hap.fz
    refine .inr ⟨o, fun n l e => ⟨rfl, 5, (ho n l e).1⟩, [], ⟨rfl, Nat.le_refl _, ⟨?_, ?_, trivial⟩, ⟨?_, rfl, trivial⟩, by simp [injOn], (fun n e => by cases e), fun _ _ => rfl⟩⟩
    · rw [fzS_look]
      simp only [Eng.look, Nat.reduceEqDiff, reduceIte, if_true, if_false, Option.map_some, hfz, renA, bvs_ren, Nat.mul_zero, Nat.sub_zero, List.drop_zero]
    · rw [fzS_look]
      simp only [Eng.look, Nat.reduceEqDiff, reduceIte, if_true, if_false, Option.map_some, fzA]
      rfl
    · have hd0 : Eng.look (delO m' o) 0 = Eng.look m' 0 := by
        cases o with
        | none => rfl
        | some p =>
          obtain ⟨n, l⟩ := p
          obtain ⟨len, cap, e⟩ := (ho n l rfl).2
          exact look_del_other (by rw [(hsl n 0 len cap e).1]; decide)
      change Eng.look (delO m' o) 0 = _
      rw [hd0, hm0]
      simp only [renO, renL_append, bvs_ren, bl]
      rfl
  intro n hn
  have hbl := bl_len W X n
  have hdl : (X.drop (64 * n)).length = X.length - 64 * n := List.length_drop
  rcases Nat.lt_or_ge n (X.length / 64) with h' | h'
  · have f1 : decide (((X.length - 64 * n : Nat) : Int) ≥ 64) = true := by simp; omega
    simp (maxSteps := 1000000) -implicitDefEqProofs only [go_sem, Nat.reduceBEq, Nat.reduceLT, Nat.reduceLeDiff, Nat.reduceEqDiff, Nat.reduceAdd, Nat.reduceMul, Nat.reduceSub, reduceIte, reduceCtorEq, Int.reduceLT, Int.reduceLE, Int.reduceToNat, Int.reduceAdd, Int.reduceSub, Int.reduceNeg, Int.reduceEq, Int.reduceNe, Int.reduceBEq, Int.reduceBNe, BitVec.reduceBEq, BitVec.reduceBNe, BitVec.reduceOfInt, BitVec.reduceSetWidth, -List.reduceReplicate, f1]
    refine CallG.hide (n := 0) (ty := 262) (A := bvs .u32 (bl W X n)) (T := [.sl 1 0 rest.length cap0, .int .u64 (many'.toNat : Int)]) rfl fun us hus => ?_
    rw [← hdl]
    refine (blockOk (bl W X n) (by rw [hbl]; exact hW) us hus (X.drop (64 * n)) (by omega) (by omega)).use [] rfl ⟨by simp only [renO, renL_append, bvs_ren, renL_vals]; rfl, fun _ => rfl, trivial⟩ (by simp [injOn]) rfl (fun _ _ => rfl) (fun _ e => by cases e) ⟨rfl, by simp only [argx, renA, bvs_ren], trivial⟩ ?_
    rintro v m1 nx1 ⟨rfl, rfl, rfl⟩
    refine ⟨rfl, by simp only [noRoM, noRoO, noRoL_vals', Bool.and_self], Nat.le_refl _, bvs .u32 (bl W X (n + 1)), by simp only [renM, renO, renL_append, bvs_ren, renL_vals, bl]; rfl, ?_⟩
    change After _ _ _ _ [(0, .cells (bvs .u32 (bl W X (n + 1)) ++ [.sl 1 0 rest.length cap0, .int .u64 (many'.toNat : Int)]) 262)] 2
    have e1 : X.length - 64 * n - 64 = X.length - 64 * (n + 1) := by omega
    have e2 : List.take (X.length - 64 * (n + 1)) (List.drop (64 * n + 64) X) = X.drop (64 * (n + 1)) := by
      rw [show 64 * n + 64 = 64 * (n + 1) by omega]
      exact List.take_of_length_le (by rw [List.length_drop]; exact Nat.le_refl _)
    simp (maxSteps := 1000000) -implicitDefEqProofs only [go_sem, Nat.reduceBEq, Nat.reduceLT, Nat.reduceLeDiff, Nat.reduceEqDiff, Nat.reduceAdd, Nat.reduceMul, Nat.reduceSub, reduceIte, reduceCtorEq, Int.reduceLT, Int.reduceLE, Int.reduceToNat, Int.reduceAdd, Int.reduceSub, Int.reduceNeg, Int.reduceEq, Int.reduceNe, Int.reduceBEq, Int.reduceBNe, BitVec.reduceBEq, BitVec.reduceBNe, BitVec.reduceOfInt, BitVec.reduceSetWidth, -List.reduceReplicate, hdl, e1, e2, List.drop_drop]
    refine ⟨by omega, UpK_normal h' (Le.sameT (by decide) (by simp only [-List.reduceReplicate, slotsSame, Eng.look, Nat.reduceEqDiff, reduceIte, reduceCtorEq, if_true, if_false, eq_self, true_and, and_true, Option.some.injEq, AV.int.injEq]; (try simp (disch := omega) only [wrap_i64]); (try simp [-List.reduceReplicate]); (try omega)) (by simp only [-List.reduceReplicate, memSame, Eng.look, Nat.reduceEqDiff, reduceIte, reduceCtorEq, if_true, if_false, eq_self, true_and, and_true, Option.some.injEq, AObj.cells.injEq, bvs_rep8, bvs_rep16, bvs_rep32, bvs_rep64, bvs_flat_rep, Nat.reduceMul, bvs_append, List.replicate_append_replicate, Nat.reduceAdd, bvs_inj]; try simp [-List.reduceReplicate]) (by simp [-List.reduceReplicate]))⟩
  · have f1 : decide (((X.length - 64 * n : Nat) : Int) ≥ 64) = false := by simp; omega
    have hnn : n = X.length / 64 := by omega
    subst hnn
    have htl : List.take (X.length - 64 * (X.length / 64)) (X.drop (64 * (X.length / 64))) = X.drop (64 * (X.length / 64)) := by rw [← hdl, List.take_length]
    have hgs : ∀ (x y z : AV), (bvs .u32 (bl W X (X.length / 64)) ++ [x, y]).set 8 z = bvs .u32 (bl W X (X.length / 64)) ++ [z, y] := fun x y z => set8' _ (by rw [hbl]; exact hW) x y z
    simp (maxSteps := 1000000) -implicitDefEqProofs only [go_sem, Nat.reduceBEq, Nat.reduceLT, Nat.reduceLeDiff, Nat.reduceEqDiff, Nat.reduceAdd, Nat.reduceMul, Nat.reduceSub, reduceIte, reduceCtorEq, Int.reduceLT, Int.reduceLE, Int.reduceToNat, Int.reduceAdd, Int.reduceSub, Int.reduceNeg, Int.reduceEq, Int.reduceNe, Int.reduceBEq, Int.reduceBNe, BitVec.reduceBEq, BitVec.reduceBNe, BitVec.reduceOfInt, BitVec.reduceSetWidth, -List.reduceReplicate, f1, htl]
    refine ⟨.inl trivial, hdl, ?_⟩
    rw [← hdl]
    refine appk_bvs (x := ([] : List (BitVec 8))) (sp := []) rfl rfl rfl (by decide) (by decide) (by rw [hdl, List.length_nil]; omega) fun cap sp g1 g2 => ?_
    simp (maxSteps := 1000000) -implicitDefEqProofs only [go_sem, Nat.reduceBEq, Nat.reduceLT, Nat.reduceLeDiff, Nat.reduceEqDiff, Nat.reduceAdd, Nat.reduceMul, Nat.reduceSub, reduceIte, reduceCtorEq, Int.reduceLT, Int.reduceLE, Int.reduceToNat, Int.reduceAdd, Int.reduceSub, Int.reduceNeg, Int.reduceEq, Int.reduceNe, Int.reduceBEq, Int.reduceBNe, BitVec.reduceBEq, BitVec.reduceBNe, BitVec.reduceOfInt, BitVec.reduceSetWidth, -List.reduceReplicate, hgs, hbl, hW, List.length_append]
    refine ⟨[(2, 3)], .tup [], [(0, .cells (bvs .u32 (bl W X (X.length / 64)) ++ [.sl 2 0 (X.drop (64 * (X.length / 64))).length cap, .int .u64 (many'.toNat : Int)]) 262), (2, .cells (bvs .u8 (X.drop (64 * (X.length / 64))) ++ sp.map AV.val) 5)], 2 + 1, ⟨rfl, Nat.le_succ _⟩, rfl, ⟨?_, rfl, ?_, rfl, trivial⟩, ?_, (fun n e => by cases e), rfl, cap, sp, rfl, rfl, by rw [List.nil_append] at g1; exact g1, g2⟩
    · simp only [renO, renL_append, bvs_ren]; rfl
    · simp only [renO, renL_vals']; rfl
    · simp [injOn]; decide
end Go.Proofs.Ytmdeoikpiiambaa
/-! She -/
namespace Go.Proofs.Ytmdeoikpiiambaa
open Go Go.Eng
def padZ (rest : List (BitVec 8)) (n : Nat) : List (BitVec 8) := rest ++ [128#8] ++ List.replicate n 0#8
theorem padZ_len (rest : List (BitVec 8)) (n : Nat) : (padZ rest n).length = rest.length + 1 + n := by simp [padZ]; omega
theorem padZ_succ (rest : List (BitVec 8)) (n : Nat) : padZ rest n ++ [0#8] = padZ rest (n + 1) := by simp [padZ, List.replicate_succ']
def zN (len : Nat) : Nat := (119 - len % 64) % 64
def by8 (m : BitVec 64) : Nat → List (BitVec 8)
  | 0 => []
  | n + 1 => by8 m n ++ [(m >>> (8 * (7 - n))).setWidth 8]
theorem by8_len (m : BitVec 64) (n : Nat) : (by8 m n).length = n := by
  induction n with
  | zero => rfl
  | succ n ih => simp [by8, ih]
def padE (rest : List (BitVec 8)) (m : BitVec 64) (n : Nat) : List (BitVec 8) := padZ rest (zN rest.length) ++ by8 m n
def padL (rest : List (BitVec 8)) (m : BitVec 64) : List (BitVec 8) := padE rest m 8
theorem padE_len (rest : List (BitVec 8)) (m : BitVec 64) (n : Nat) : (padE rest m n).length = rest.length + 1 + zN rest.length + n := by simp [padE, padZ_len, by8_len]
theorem padE_succ (rest : List (BitVec 8)) (m : BitVec 64) (n : Nat) : padE rest m n ++ [(m >>> (8 * (7 - n))).setWidth 8] = padE rest m (n + 1) := by simp [padE, by8]
theorem padL_mod (rest : List (BitVec 8)) (m : BitVec 64) : (padL rest m).length % 64 = 0 := by
  rw [padL, padE_len, zN]; omega
theorem padL_le (rest : List (BitVec 8)) (m : BitVec 64) : (padL rest m).length ≤ rest.length + 72 := by
  rw [padL, padE_len, zN]; omega
def outB (W : List (BitVec 32)) (i : Nat) : BitVec 8 := (W.getD (i / 4) 0 >>> (24 - 8 * (i % 4))).setWidth 8
def outN (W : List (BitVec 32)) : Nat → List (BitVec 8)
  | 0 => List.replicate 32 0#8
  | n + 1 => (outN W n).set n (outB W n)
theorem outN_len (W : List (BitVec 32)) (n : Nat) : (outN W n).length = 32 := by
  induction n with
  | zero => rfl
  | succ n ih => simp [outN, ih]
def sumW (W : List (BitVec 32)) (rest : List (BitVec 8)) (m : BitVec 64) : List (BitVec 32) := bl W (padL rest (m * 8#64)) ((padL rest (m * 8#64)).length / 64)
theorem take10 (W : List (BitVec 32)) (hW : W.length = 8) (x y : AV) : List.take 10 (bvs .u32 W ++ [x, y]) = bvs .u32 W ++ [x, y] := List.take_of_length_le (by simp [bvs_length, hW])
theorem spl10 (W V : List (BitVec 32)) (hW : W.length = 8) (hV : V.length = 8) (a b x y : AV) : spl (bvs .u32 V ++ [a, b]) 0 (bvs .u32 W ++ [x, y]) = bvs .u32 W ++ [x, y] := by
  have : List.drop 10 (bvs .u32 V ++ [a, b]) = [] := List.drop_eq_nil_of_le (by simp [bvs_length, hV])
  simp only [spl, List.take_zero, List.nil_append, Nat.zero_add, List.length_append, bvs_length, hW, List.length_cons, List.length_nil]
  rw [this, List.append_nil]
set_option maxHeartbeats 1600000 in
theorem sumMOk (W : List (BitVec 32)) (hW : W.length = 8) (rest : List (BitVec 8)) (hr : rest.length ≤ 100) (cap0 : Nat) (sp0 : List Value) (many : BitVec 64) :
    CallOk Try.prog 178 [.ptr 0 0] (fun _ => true) [(0, .cells (bvs .u32 W ++ [.sl 1 0 rest.length cap0, .int .u64 (many.toNat : Int)]) 262), (1, .cells (bvs .u8 rest ++ sp0.map AV.val) 5)] 2
      fun v m nx => v = .agg (bvs .u8 (outN (sumW W rest many) 32)) ∧ m = [(0, .cells (bvs .u32 W ++ [.sl 1 0 rest.length cap0, .int .u64 (many.toNat : Int)]) 262), (1, .cells (bvs .u8 rest ++ sp0.map AV.val) 5)] ∧ nx = 2 := by
  refine fn_ok Try.func178 rfl (by show 1 ≤ _; decide) ?_
  simp (maxSteps := 1000000) -implicitDefEqProofs only [go_sem, Nat.reduceBEq, Nat.reduceLT, Nat.reduceLeDiff, Nat.reduceEqDiff, Nat.reduceAdd, Nat.reduceMul, Nat.reduceSub, reduceIte, reduceCtorEq, Int.reduceLT, Int.reduceLE, Int.reduceToNat, Int.reduceAdd, Int.reduceSub, Int.reduceNeg, Int.reduceEq, Int.reduceNe, Int.reduceBEq, Int.reduceBNe, BitVec.reduceBEq, BitVec.reduceBNe, BitVec.reduceOfInt, BitVec.reduceSetWidth, -List.reduceReplicate, Try.results178, Try.ntmps178]
  refine newOk.more trivial ?_
  rintro v m' nx' ⟨rfl, rfl, rfl⟩
  refine ⟨rfl, by simp only [noRoM, noRoO, noRoL_append, bvs_noRo]; rfl, ?_⟩
  have hbg : beginL.length = 8 := rfl
  have hg8 : ∀ (x y : AV), (bvs .u32 W ++ [x, y]).getD 8 .nils = x := fun x y => tail8 W hW x y
  have hg9 : ∀ (x y : AV), (bvs .u32 W ++ [x, y]).getD 9 (.int .u64 0) = y := fun x y => tail9 W hW x y
  have ht10 := take10 W hW
  have hs10 := spl10 W beginL hW hbg
  have htr := takeB .u8 rest.length rest rfl (sp0.map AV.val)
  have hz := padZ_len rest
  simp (maxSteps := 1000000) -implicitDefEqProofs only [go_sem, Nat.reduceBEq, Nat.reduceLT, Nat.reduceLeDiff, Nat.reduceEqDiff, Nat.reduceAdd, Nat.reduceMul, Nat.reduceSub, reduceIte, reduceCtorEq, Int.reduceLT, Int.reduceLE, Int.reduceToNat, Int.reduceAdd, Int.reduceSub, Int.reduceNeg, Int.reduceEq, Int.reduceNe, Int.reduceBEq, Int.reduceBNe, BitVec.reduceBEq, BitVec.reduceBNe, BitVec.reduceOfInt, BitVec.reduceSetWidth, -List.reduceReplicate, hg8, hg9, hbg, hW, ht10, hs10, renL_append, List.length_append, List.take_length, htr]
  refine ⟨by simp only [List.all_append, bvs_one]; rfl, .inl trivial, ?_⟩
  refine appk_bvs (x := ([] : List (BitVec 8))) (sp := []) rfl rfl rfl (by decide) (by decide) (by rw [List.length_nil]; omega) fun cap1 sp1 g1 g2 => ?_
  simp only [List.nil_append] at g1
  simp (maxSteps := 1000000) -implicitDefEqProofs only [go_sem, Nat.reduceBEq, Nat.reduceLT, Nat.reduceLeDiff, Nat.reduceEqDiff, Nat.reduceAdd, Nat.reduceMul, Nat.reduceSub, reduceIte, reduceCtorEq, Int.reduceLT, Int.reduceLE, Int.reduceToNat, Int.reduceAdd, Int.reduceSub, Int.reduceNeg, Int.reduceEq, Int.reduceNe, Int.reduceBEq, Int.reduceBNe, BitVec.reduceBEq, BitVec.reduceBNe, BitVec.reduceOfInt, BitVec.reduceSetWidth, -List.reduceReplicate]
  refine ⟨.inr trivial, rfl, rfl, ?_⟩
  refine appk_bvs (x := rest) (y := [128#8]) (sp := sp1) (n := 5) rfl rfl g1 g2 (by decide) (by simp only [List.length_cons, List.length_nil]; omega) fun cap2 sp2 g3 g4 => ?_
  have hp0 : rest ++ [128#8] = padZ rest 0 := by simp [padZ]
  rw [hp0]
  rw [hp0] at g3
  simp (maxSteps := 1000000) -implicitDefEqProofs only [go_sem, Nat.reduceBEq, Nat.reduceLT, Nat.reduceLeDiff, Nat.reduceEqDiff, Nat.reduceAdd, Nat.reduceMul, Nat.reduceSub, reduceIte, reduceCtorEq, Int.reduceLT, Int.reduceLE, Int.reduceToNat, Int.reduceAdd, Int.reduceSub, Int.reduceNeg, Int.reduceEq, Int.reduceNe, Int.reduceBEq, Int.reduceBNe, BitVec.reduceBEq, BitVec.reduceBNe, BitVec.reduceOfInt, BitVec.reduceSetWidth, -List.reduceReplicate]
  refine LoopOk.upX (fun n x => (padZ rest n).length + x.2.length = x.1 ∧ x.1 ≤ maxI) (zN rest.length) (fun n x => ([(4, .sl 4 0 (padZ rest n).length x.1), (3, .ptr 3 0), (2, .ptr 2 0), (0, .ptr 0 0)], [(4, .cells (bvs .u8 (padZ rest n) ++ x.2.map AV.val) 5), (3, (.cells (bvs .u32 (W) ++ [.sl 1 0 rest.length cap0, .int .u64 (many.toNat : Int)]) 262)), (2, (.cells (bvs .u8 (List.replicate 32 (0 : BitVec 8))) 199)), (0, (.cells (bvs .u32 (W) ++ [.sl 1 0 rest.length cap0, .int .u64 (many.toNat : Int)]) 262)), (1, (.cells (bvs .u8 rest ++ sp0.map AV.val) 5))], 5)) (cap2, sp2) ⟨g3, g4⟩ ⟨[(4, 7)], rfl, (show 2 ≤ 5 by decide), (by exact ⟨rfl, rfl, rfl, rfl, trivial⟩), ⟨by simp only [renO, renL_vals']; rfl, rfl, by simp only [renO, renL_append, bvs_ren]; rfl, rfl, by simp only [renO, bvs_ren]; rfl, rfl, by simp only [renO, renL_append, bvs_ren]; rfl, rfl, by simp only [renO, renL_vals']; rfl, rfl, trivial⟩, (by simp [injOn]; decide), (fun n e => by cases e), fun _ _ => rfl⟩ ?_
  have hzN : zN rest.length < 64 := Nat.mod_lt _ (by decide)
  intro n x ⟨hn, hq1, hq2⟩
  have hzl := padZ_len rest n
  have hzm : ((padZ rest n).length : Int).tmod 64 = (((rest.length + 1 + n) % 64 : Nat) : Int) := by rw [hzl, Int.tmod_eq_emod_of_nonneg (by omega)]; omega
  rcases Nat.lt_or_ge n (zN rest.length) with h' | h'
  · have f1 : ((((rest.length + 1 + n) % 64 : Nat) : Int) != 56) = true := by
      rw [bne_iff_ne]; unfold zN at h'; omega
    simp (maxSteps := 1000000) -implicitDefEqProofs only [go_sem, Nat.reduceBEq, Nat.reduceLT, Nat.reduceLeDiff, Nat.reduceEqDiff, Nat.reduceAdd, Nat.reduceMul, Nat.reduceSub, reduceIte, reduceCtorEq, Int.reduceLT, Int.reduceLE, Int.reduceToNat, Int.reduceAdd, Int.reduceSub, Int.reduceNeg, Int.reduceEq, Int.reduceNe, Int.reduceBEq, Int.reduceBNe, BitVec.reduceBEq, BitVec.reduceBNe, BitVec.reduceOfInt, BitVec.reduceSetWidth, -List.reduceReplicate, hzm, f1]
    refine ⟨.inr trivial, rfl, rfl, ?_⟩
    refine appk_bvs (x := padZ rest n) (y := [0#8]) (sp := x.2) (n := 4) rfl rfl hq1 hq2 (by decide) (by simp only [List.length_cons, List.length_nil]; omega) fun cap3 sp3 g5 g6 => ?_
    rw [padZ_succ]
    rw [padZ_succ] at g5
    simp (maxSteps := 1000000) -implicitDefEqProofs only [go_sem, Nat.reduceBEq, Nat.reduceLT, Nat.reduceLeDiff, Nat.reduceEqDiff, Nat.reduceAdd, Nat.reduceMul, Nat.reduceSub, reduceIte, reduceCtorEq, Int.reduceLT, Int.reduceLE, Int.reduceToNat, Int.reduceAdd, Int.reduceSub, Int.reduceNeg, Int.reduceEq, Int.reduceNe, Int.reduceBEq, Int.reduceBNe, BitVec.reduceBEq, BitVec.reduceBNe, BitVec.reduceOfInt, BitVec.reduceSetWidth, -List.reduceReplicate]
    refine UpX_normal h' (cap3, sp3) ⟨g5, g6⟩ ⟨[(4, 6)], rfl, (show 2 ≤ 5 by decide), (by exact ⟨rfl, rfl, rfl, rfl, trivial⟩), ⟨by simp only [renO, renL_vals']; rfl, rfl, by simp only [renO, renL_append, bvs_ren]; rfl, rfl, by simp only [renO, bvs_ren]; rfl, rfl, by simp only [renO, renL_append, bvs_ren]; rfl, rfl, by simp only [renO, renL_vals']; rfl, rfl, trivial⟩, (by simp [injOn]; decide), (fun n e => by cases e), fun _ _ => rfl⟩
  · have hnz : n = zN rest.length := by omega
    subst hnz
    have f1 : ((((rest.length + 1 + zN rest.length) % 64 : Nat) : Int) != 56) = false := by
      have : (rest.length + 1 + zN rest.length) % 64 = 56 := by unfold zN; omega
      rw [this]; rfl
    have he0 : padZ rest (zN rest.length) = padE rest (many * 8#64) 0 := by simp [padE, by8]
    simp (maxSteps := 1000000) -implicitDefEqProofs only [go_sem, Nat.reduceBEq, Nat.reduceLT, Nat.reduceLeDiff, Nat.reduceEqDiff, Nat.reduceAdd, Nat.reduceMul, Nat.reduceSub, reduceIte, reduceCtorEq, Int.reduceLT, Int.reduceLE, Int.reduceToNat, Int.reduceAdd, Int.reduceSub, Int.reduceNeg, Int.reduceEq, Int.reduceNe, Int.reduceBEq, Int.reduceBNe, BitVec.reduceBEq, BitVec.reduceBNe, BitVec.reduceOfInt, BitVec.reduceSetWidth, -List.reduceReplicate, hzm, f1, hg9]
    rw [he0]
    rw [he0] at hq1
    generalize hM8 : many * 8#64 = m8 at *
    refine ⟨by omega, ?_⟩
    refine LoopOk.upX (fun n x => (padE rest m8 n).length + x.2.length = x.1 ∧ x.1 ≤ maxI) 8 (fun n x => ([(6, .int .i64 (7 - (n : Int))), (5, .int .u64 (m8.toNat : Int)), (4, .sl 4 0 (padE rest m8 n).length x.1), (3, .ptr 3 0), (2, .ptr 2 0), (0, .ptr 0 0)], [(4, .cells (bvs .u8 (padE rest m8 n) ++ x.2.map AV.val) 5), (3, (.cells (bvs .u32 (W) ++ [.sl 1 0 rest.length cap0, .int .u64 (many.toNat : Int)]) 262)), (2, (.cells (bvs .u8 (List.replicate 32 (0 : BitVec 8))) 199)), (0, (.cells (bvs .u32 (W) ++ [.sl 1 0 rest.length cap0, .int .u64 (many.toNat : Int)]) 262)), (1, (.cells (bvs .u8 rest ++ sp0.map AV.val) 5))], 5)) x ⟨hq1, hq2⟩ ⟨[(4, 4)], rfl, (show 2 ≤ 5 by decide), (by exact ⟨rfl, rfl, rfl, rfl, rfl, rfl, trivial⟩), ⟨by simp only [renO, renL_vals']; rfl, rfl, by simp only [renO, renL_append, bvs_ren]; rfl, rfl, by simp only [renO, bvs_ren]; rfl, rfl, by simp only [renO, renL_append, bvs_ren]; rfl, rfl, by simp only [renO, renL_vals']; rfl, rfl, trivial⟩, (by simp [injOn]; decide), (fun n e => by cases e), fun _ _ => rfl⟩ ?_
    clear hzl hzm hq1 hq2 he0 f1
    intro n x ⟨hn, hq1, hq2⟩
    have hel := padE_len rest m8 n
    rcases Nat.lt_or_ge n 8 with h8 | h8
    · have f1 : decide (7 - (n : Int) ≥ 0) = true := by simp; omega
      have w1 : IntKind.i64.wrap (8 * (7 - (n : Int))) = ((8 * (7 - n) : Nat) : Int) := by rw [wrap_i64] <;> omega
      have w2 : IntKind.i64.wrap (7 - (n : Int) - 1) = 7 - ((n + 1 : Nat) : Int) := by rw [wrap_i64] <;> omega
      simp (maxSteps := 1000000) -implicitDefEqProofs only [go_sem, Nat.reduceBEq, Nat.reduceLT, Nat.reduceLeDiff, Nat.reduceEqDiff, Nat.reduceAdd, Nat.reduceMul, Nat.reduceSub, reduceIte, reduceCtorEq, Int.reduceLT, Int.reduceLE, Int.reduceToNat, Int.reduceAdd, Int.reduceSub, Int.reduceNeg, Int.reduceEq, Int.reduceNe, Int.reduceBEq, Int.reduceBNe, BitVec.reduceBEq, BitVec.reduceBNe, BitVec.reduceOfInt, BitVec.reduceSetWidth, -List.reduceReplicate, f1, w1]
      refine ⟨.inr trivial, rfl, ?_⟩
      refine appk_bvs (x := padE rest m8 n) (y := [(m8 >>> (8 * (7 - n))).setWidth 8]) (sp := x.2) (n := 4) rfl rfl hq1 hq2 (by decide) (by simp only [List.length_cons, List.length_nil]; omega) fun cap3 sp3 g5 g6 => ?_
      rw [padE_succ]
      rw [padE_succ] at g5
      simp (maxSteps := 1000000) -implicitDefEqProofs only [go_sem, Nat.reduceBEq, Nat.reduceLT, Nat.reduceLeDiff, Nat.reduceEqDiff, Nat.reduceAdd, Nat.reduceMul, Nat.reduceSub, reduceIte, reduceCtorEq, Int.reduceLT, Int.reduceLE, Int.reduceToNat, Int.reduceAdd, Int.reduceSub, Int.reduceNeg, Int.reduceEq, Int.reduceNe, Int.reduceBEq, Int.reduceBNe, BitVec.reduceBEq, BitVec.reduceBNe, BitVec.reduceOfInt, BitVec.reduceSetWidth, -List.reduceReplicate, w2]
      refine UpX_normal h8 (cap3, sp3) ⟨g5, g6⟩ ⟨[(4, 6)], rfl, (show 2 ≤ 5 by decide), (by exact ⟨rfl, rfl, rfl, rfl, rfl, rfl, trivial⟩), ⟨by simp only [renO, renL_vals']; rfl, rfl, by simp only [renO, renL_append, bvs_ren]; rfl, rfl, by simp only [renO, bvs_ren]; rfl, rfl, by simp only [renO, renL_append, bvs_ren]; rfl, rfl, by simp only [renO, renL_vals']; rfl, rfl, trivial⟩, (by simp [injOn]; decide), (fun n e => by cases e), fun _ _ => rfl⟩
    · have hn8 : n = 8 := by omega
      subst hn8
      have f0 : decide ((-1 : Int) ≥ 0) = false := rfl
      simp (maxSteps := 1000000) -implicitDefEqProofs only [go_sem, Nat.reduceBEq, Nat.reduceLT, Nat.reduceLeDiff, Nat.reduceEqDiff, Nat.reduceAdd, Nat.reduceMul, Nat.reduceSub, reduceIte, reduceCtorEq, Int.reduceLT, Int.reduceLE, Int.reduceToNat, Int.reduceAdd, Int.reduceSub, Int.reduceNeg, Int.reduceEq, Int.reduceNe, Int.reduceBEq, Int.reduceBNe, BitVec.reduceBEq, BitVec.reduceBNe, BitVec.reduceOfInt, BitVec.reduceSetWidth, -List.reduceReplicate, f0]
      have hmod := padL_mod rest m8
      have hle := padL_le rest m8
      have hsum : sumW W rest many = bl W (padL rest m8) ((padL rest m8).length / 64) := by rw [sumW, hM8]
      have hPLd : padL rest m8 = padE rest m8 8 := rfl
      rw [hPLd] at hmod hle hsum
      clear hPLd
      generalize padE rest m8 8 = PL at *
      refine LoopOk.upF (PL.length / 64) (fun n => ([(4, .ro (PL.length - 64 * n) (bvs .u8 (PL.drop (64 * n)))), (3, .ptr 3 0), (2, .ptr 2 0)], [(3, (.cells (bvs .u32 (bl W PL n) ++ [.sl 1 0 rest.length cap0, .int .u64 (many.toNat : Int)]) 262)), (2, (.cells (bvs .u8 (List.replicate 32 (0 : BitVec 8))) 199)), (0, (.cells (bvs .u32 (W) ++ [.sl 1 0 rest.length cap0, .int .u64 (many.toNat : Int)]) 262)), (1, (.cells (bvs .u8 rest ++ sp0.map AV.val) 5))], 4)) ?_ ?_
      · refine .inr ⟨some (4, _), fun n l e => by cases e; exact ⟨rfl, 5, rfl⟩, [], ⟨rfl, (show 2 ≤ 4 by decide), ⟨?_, rfl, rfl, trivial⟩, ⟨by simp only [renO, renL_append, bvs_ren]; rfl, rfl, by simp only [renO, bvs_ren]; rfl, rfl, by simp only [renO, renL_append, bvs_ren]; rfl, rfl, by simp only [renO, renL_vals']; rfl, rfl, trivial⟩, (by simp [injOn]; decide), (fun n e => by cases e), fun _ _ => rfl⟩⟩
        simp only [fzS, Eng.look, Nat.reduceEqDiff, reduceIte, if_true, if_false, fzA, renA, bvs_ren, Nat.mul_zero, Nat.sub_zero, List.drop_zero]
        rw [List.take_append_of_le_length (by rw [bvs_length]; exact Nat.le_refl _), bvs_take, List.take_length]
      intro n hn
      have hbl := bl_len W PL n
      have hdl : (PL.drop (64 * n)).length = PL.length - 64 * n := List.length_drop
      rcases Nat.lt_or_ge n (PL.length / 64) with h' | h'
      · have f1 : decide (((PL.length - 64 * n : Nat) : Int) > 0) = true := by simp; omega
        simp (maxSteps := 1000000) -implicitDefEqProofs only [go_sem, Nat.reduceBEq, Nat.reduceLT, Nat.reduceLeDiff, Nat.reduceEqDiff, Nat.reduceAdd, Nat.reduceMul, Nat.reduceSub, reduceIte, reduceCtorEq, Int.reduceLT, Int.reduceLE, Int.reduceToNat, Int.reduceAdd, Int.reduceSub, Int.reduceNeg, Int.reduceEq, Int.reduceNe, Int.reduceBEq, Int.reduceBNe, BitVec.reduceBEq, BitVec.reduceBNe, BitVec.reduceOfInt, BitVec.reduceSetWidth, -List.reduceReplicate, f1]
        refine CallG.hide (n := 3) (ty := 262) (A := bvs .u32 (bl W PL n)) (T := [.sl 1 0 rest.length cap0, .int .u64 (many.toNat : Int)]) rfl fun us hus => ?_
        rw [← hdl]
        refine (blockOk (bl W PL n) (by rw [hbl]; exact hW) us hus (PL.drop (64 * n)) (by omega) (by omega)).use [(0, 3)] rfl ⟨by simp only [renO, renL_append, bvs_ren, renL_vals]; rfl, fun _ => rfl, trivial⟩ (by simp [injOn]) rfl (fun _ _ => rfl) (fun _ e => by cases e) ⟨rfl, by simp only [argx, renA, bvs_ren], trivial⟩ ?_
        rintro v m1 nx1 ⟨rfl, rfl, rfl⟩
        refine ⟨rfl, by simp only [noRoM, noRoO, noRoL_vals', Bool.and_self], Nat.le_refl _, bvs .u32 (bl W PL (n + 1)), by simp only [renM, renO, renL_append, bvs_ren, renL_vals, bl]; rfl, ?_⟩
        change After _ _ _ _ [(3, .cells (bvs .u32 (bl W PL (n + 1)) ++ [.sl 1 0 rest.length cap0, .int .u64 (many.toNat : Int)]) 262), (2, (.cells (bvs .u8 (List.replicate 32 (0 : BitVec 8))) 199)), (0, (.cells (bvs .u32 (W) ++ [.sl 1 0 rest.length cap0, .int .u64 (many.toNat : Int)]) 262)), (1, (.cells (bvs .u8 rest ++ sp0.map AV.val) 5))] 4
        have e1 : PL.length - 64 * n - 64 = PL.length - 64 * (n + 1) := by omega
        have e2 : List.take (PL.length - 64 * (n + 1)) (List.drop (64 * n + 64) PL) = PL.drop (64 * (n + 1)) := by
          rw [show 64 * n + 64 = 64 * (n + 1) by omega]
          exact List.take_of_length_le (by rw [List.length_drop]; exact Nat.le_refl _)
        simp (maxSteps := 1000000) -implicitDefEqProofs only [go_sem, Nat.reduceBEq, Nat.reduceLT, Nat.reduceLeDiff, Nat.reduceEqDiff, Nat.reduceAdd, Nat.reduceMul, Nat.reduceSub, reduceIte, reduceCtorEq, Int.reduceLT, Int.reduceLE, Int.reduceToNat, Int.reduceAdd, Int.reduceSub, Int.reduceNeg, Int.reduceEq, Int.reduceNe, Int.reduceBEq, Int.reduceBNe, BitVec.reduceBEq, BitVec.reduceBNe, BitVec.reduceOfInt, BitVec.reduceSetWidth, -List.reduceReplicate, hdl, e1, e2, List.drop_drop]
        refine ⟨by omega, UpK_normal h' (Le.sameT (by decide) (by simp only [-List.reduceReplicate, slotsSame, Eng.look, Nat.reduceEqDiff, reduceIte, reduceCtorEq, if_true, if_false, eq_self, true_and, and_true, Option.some.injEq, AV.int.injEq]; (try simp (disch := omega) only [wrap_i64]); (try simp [-List.reduceReplicate]); (try omega)) (by simp only [-List.reduceReplicate, memSame, Eng.look, Nat.reduceEqDiff, reduceIte, reduceCtorEq, if_true, if_false, eq_self, true_and, and_true, Option.some.injEq, AObj.cells.injEq, bvs_rep8, bvs_rep16, bvs_rep32, bvs_rep64, bvs_flat_rep, Nat.reduceMul, bvs_append, List.replicate_append_replicate, Nat.reduceAdd, bvs_inj]; try simp [-List.reduceReplicate]) (by simp [-List.reduceReplicate]))⟩
      · have f1 : decide (((PL.length - 64 * n : Nat) : Int) > 0) = false := by simp; omega
        have hnn : n = PL.length / 64 := by omega
        subst hnn
        rw [← hsum]
        rw [← hsum] at hbl
        generalize sumW W rest many = V at *
        simp (maxSteps := 1000000) -implicitDefEqProofs only [go_sem, Nat.reduceBEq, Nat.reduceLT, Nat.reduceLeDiff, Nat.reduceEqDiff, Nat.reduceAdd, Nat.reduceMul, Nat.reduceSub, reduceIte, reduceCtorEq, Int.reduceLT, Int.reduceLE, Int.reduceToNat, Int.reduceAdd, Int.reduceSub, Int.reduceNeg, Int.reduceEq, Int.reduceNe, Int.reduceBEq, Int.reduceBNe, BitVec.reduceBEq, BitVec.reduceBNe, BitVec.reduceOfInt, BitVec.reduceSetWidth, -List.reduceReplicate, f1]
        refine LoopOk.up 32 (fun n => ([(58, .int .i64 n), (7, .ptr 4 0), (3, .ptr 3 0), (2, .ptr 2 0)], [(4, .cells (bvs .u8 (outN V n)) 199), (3, (.cells (bvs .u32 (V) ++ [.sl 1 0 rest.length cap0, .int .u64 (many.toNat : Int)]) 262)), (2, (.cells (bvs .u8 (List.replicate 32 (0 : BitVec 8))) 199)), (0, (.cells (bvs .u32 (W) ++ [.sl 1 0 rest.length cap0, .int .u64 (many.toNat : Int)]) 262)), (1, (.cells (bvs .u8 rest ++ sp0.map AV.val) 5))], 5)) (Le.sameT (by decide) (by simp only [-List.reduceReplicate, slotsSame, Eng.look, Nat.reduceEqDiff, outN, reduceIte, reduceCtorEq, if_true, if_false, eq_self, true_and, and_true, Option.some.injEq, AV.int.injEq]; (try simp (disch := omega) only [wrap_i64]); (try simp [-List.reduceReplicate]); (try omega)) (by simp only [-List.reduceReplicate, memSame, Eng.look, Nat.reduceEqDiff, outN, reduceIte, reduceCtorEq, if_true, if_false, eq_self, true_and, and_true, Option.some.injEq, AObj.cells.injEq, bvs_rep8, bvs_rep16, bvs_rep32, bvs_rep64, bvs_flat_rep, Nat.reduceMul, bvs_append, List.replicate_append_replicate, Nat.reduceAdd, bvs_inj]; try simp [-List.reduceReplicate]) (by simp [-List.reduceReplicate])) ?_
        intro n hn
        have hol := outN_len V n
        rcases Nat.lt_or_ge n 32 with h3 | h3
        · have f1 : decide ((n : Int) < 32) = true := by simp; omega
          have w1 : IntKind.i64.wrap ((n : Int).tdiv 4) = ((n / 4 : Nat) : Int) := by rw [Int.tdiv_eq_ediv_of_nonneg (by omega), wrap_i64] <;> omega
          have w2 : (n : Int).tmod 4 = ((n % 4 : Nat) : Int) := by rw [Int.tmod_eq_emod_of_nonneg (by omega)]; omega
          have w3 : IntKind.i64.wrap (8 * ((n % 4 : Nat) : Int)) = ((8 * (n % 4) : Nat) : Int) := by rw [wrap_i64] <;> omega
          have w4 : IntKind.i64.wrap (24 - ((8 * (n % 4) : Nat) : Int)) = ((24 - 8 * (n % 4) : Nat) : Int) := by rw [wrap_i64] <;> omega
          have wn : IntKind.i64.wrap ((n : Int) + 1) = ((n + 1 : Nat) : Int) := by rw [wrap_i64] <;> omega
          have hgd := bvsS_getD .u32 V [.sl 1 0 rest.length cap0, .int .u64 (many.toNat : Int)] (n / 4) (by rw [hbl, hW]; omega)
          simp (maxSteps := 1000000) -implicitDefEqProofs only [go_sem, Nat.reduceBEq, Nat.reduceLT, Nat.reduceLeDiff, Nat.reduceEqDiff, Nat.reduceAdd, Nat.reduceMul, Nat.reduceSub, reduceIte, reduceCtorEq, Int.reduceLT, Int.reduceLE, Int.reduceToNat, Int.reduceAdd, Int.reduceSub, Int.reduceNeg, Int.reduceEq, Int.reduceNe, Int.reduceBEq, Int.reduceBNe, BitVec.reduceBEq, BitVec.reduceBNe, BitVec.reduceOfInt, BitVec.reduceSetWidth, -List.reduceReplicate, f1, w1, w2, w3, w4, wn, hgd]
          exact ⟨by omega, by omega, by omega, by omega, UpK_normal h3 (Le.sameT (by decide) (by simp only [-List.reduceReplicate, slotsSame, Eng.look, Nat.reduceEqDiff, outN, outB, reduceIte, reduceCtorEq, if_true, if_false, eq_self, true_and, and_true, Option.some.injEq, AV.int.injEq]; (try simp (disch := omega) only [wrap_i64]); (try simp [-List.reduceReplicate]); (try omega)) (by simp only [-List.reduceReplicate, memSame, Eng.look, Nat.reduceEqDiff, outN, outB, reduceIte, reduceCtorEq, if_true, if_false, eq_self, true_and, and_true, Option.some.injEq, AObj.cells.injEq, bvs_rep8, bvs_rep16, bvs_rep32, bvs_rep64, bvs_flat_rep, Nat.reduceMul, bvs_append, List.replicate_append_replicate, Nat.reduceAdd, bvs_inj]; try simp [-List.reduceReplicate]) (by simp [-List.reduceReplicate]))⟩
        · have hn3 : n = 32 := by omega
          subst hn3
          have f1 : decide ((32 : Int) < 32) = false := rfl
          have htk : List.take 32 (outN V 32) = outN V 32 := List.take_of_length_le (by rw [hol]; exact Nat.le_refl _)
          simp (maxSteps := 1000000) -implicitDefEqProofs only [go_sem, Nat.reduceBEq, Nat.reduceLT, Nat.reduceLeDiff, Nat.reduceEqDiff, Nat.reduceAdd, Nat.reduceMul, Nat.reduceSub, reduceIte, reduceCtorEq, Int.reduceLT, Int.reduceLE, Int.reduceToNat, Int.reduceAdd, Int.reduceSub, Int.reduceNeg, Int.reduceEq, Int.reduceNe, Int.reduceBEq, Int.reduceBNe, BitVec.reduceBEq, BitVec.reduceBNe, BitVec.reduceOfInt, BitVec.reduceSetWidth, -List.reduceReplicate, f1, htk, hol]
          exact ⟨[], .agg (bvs .u8 (outN V 32)), [(0, (.cells (bvs .u32 (W) ++ [.sl 1 0 rest.length cap0, .int .u64 (many.toNat : Int)]) 262)), (1, (.cells (bvs .u8 rest ++ sp0.map AV.val) 5))], 2, ⟨rfl, Nat.le_refl _⟩, by simp only [renA, bvs_ren], ⟨by simp only [renO, renL_append, bvs_ren]; rfl, rfl, by simp only [renO, renL_vals']; rfl, rfl, trivial⟩, (by simp [injOn]; decide), (fun n e => by cases e), rfl, rfl, rfl⟩
end Go.Proofs.Ytmdeoikpiiambaa
/-! Shf -/
namespace Go.Proofs.Ytmdeoikpiiambaa
open Go Go.Eng
def shaP (b : List (BitVec 8)) : List (BitVec 8) := outN (sumW (bl beginL b (b.length / 64)) (b.drop (64 * (b.length / 64))) (0 + BitVec.ofNat 64 b.length)) 32
theorem shaP_len (b : List (BitVec 8)) : (shaP b).length = 32 := outN_len _ _
set_option maxHeartbeats 800000 in
theorem shaSumOk (b : List (BitVec 8)) (hb : b.length ≤ 100000) : CallOk Try.prog 134 [.ro b.length (bvs .u8 b)] (fun _ => true) [] 0 fun v m nx => v = .agg (bvs .u8 (shaP b)) ∧ m = [] ∧ nx = 0 := by
  refine fn_ok Try.func134 rfl (by show 1 ≤ _; decide) ?_
  simp (maxSteps := 1000000) -implicitDefEqProofs only [go_sem, Nat.reduceBEq, Nat.reduceLT, Nat.reduceLeDiff, Nat.reduceEqDiff, Nat.reduceAdd, Nat.reduceMul, Nat.reduceSub, reduceIte, reduceCtorEq, Int.reduceLT, Int.reduceLE, Int.reduceToNat, Int.reduceAdd, Int.reduceSub, Int.reduceNeg, Int.reduceEq, Int.reduceNe, Int.reduceBEq, Int.reduceBNe, BitVec.reduceBEq, BitVec.reduceBNe, BitVec.reduceOfInt, BitVec.reduceSetWidth, -List.reduceReplicate, Try.results134, Try.ntmps134]
  refine newOk.more trivial ?_
  rintro v m' nx' ⟨rfl, rfl, rfl⟩
  refine ⟨rfl, by simp only [noRoM, noRoO, noRoL_append, bvs_noRo]; rfl, ?_⟩
  simp (maxSteps := 1000000) -implicitDefEqProofs only [go_sem, Nat.reduceBEq, Nat.reduceLT, Nat.reduceLeDiff, Nat.reduceEqDiff, Nat.reduceAdd, Nat.reduceMul, Nat.reduceSub, reduceIte, reduceCtorEq, Int.reduceLT, Int.reduceLE, Int.reduceToNat, Int.reduceAdd, Int.reduceSub, Int.reduceNeg, Int.reduceEq, Int.reduceNe, Int.reduceBEq, Int.reduceBNe, BitVec.reduceBEq, BitVec.reduceBNe, BitVec.reduceOfInt, BitVec.reduceSetWidth, -List.reduceReplicate, renL_append]
  refine (writeNil beginL rfl 0 b hb).use [(0, 1)] rfl ⟨by simp only [renO, renL_append, bvs_ren]; rfl, fun _ => rfl, trivial⟩ (by simp [injOn]) rfl (fun _ _ => rfl) (fun _ e => by cases e) ⟨rfl, by simp only [argx, renA, bvs_ren], trivial⟩ ?_
  rintro v m' nx' ⟨rfl, cap, sp, rfl, rfl, h1, h2⟩
  simp only [List.nil_append] at h1 ⊢
  refine ⟨rfl, by simp only [noRoM, noRoO, noRoL_append, bvs_noRo, noRoL_vals]; rfl, by decide, ?_⟩
  have hrl : (b.drop (64 * (b.length / 64))).length ≤ 100 := by rw [List.length_drop]; omega
  have hS : shaP b = outN (sumW (bl beginL b (b.length / 64)) (b.drop (64 * (b.length / 64))) (0 + BitVec.ofNat 64 b.length)) 32 := rfl
  have hWl : (bl beginL b (b.length / 64)).length = 8 := by rw [bl_len]; rfl
  generalize bl beginL b (b.length / 64) = W at *
  generalize b.drop (64 * (b.length / 64)) = rest at *
  generalize 0 + BitVec.ofNat 64 b.length = many at *
  simp only [renM, renO, renL_append, bvs_ren, renL_vals]
  change After _ _ _ _ [(1, .cells (bvs .u32 W ++ [.sl 2 0 rest.length cap, .int .u64 (many.toNat : Int)]) 262), (2, .cells (bvs .u8 rest ++ sp.map AV.val) 5), (0, .cells (bvs .u8 (List.replicate 32 (0 : BitVec 8))) 199)] 3
  simp (maxSteps := 1000000) -implicitDefEqProofs only [go_sem, Nat.reduceBEq, Nat.reduceLT, Nat.reduceLeDiff, Nat.reduceEqDiff, Nat.reduceAdd, Nat.reduceMul, Nat.reduceSub, reduceIte, reduceCtorEq, Int.reduceLT, Int.reduceLE, Int.reduceToNat, Int.reduceAdd, Int.reduceSub, Int.reduceNeg, Int.reduceEq, Int.reduceNe, Int.reduceBEq, Int.reduceBNe, BitVec.reduceBEq, BitVec.reduceBNe, BitVec.reduceOfInt, BitVec.reduceSetWidth, -List.reduceReplicate]
  refine (sumMOk W hWl rest hrl cap sp many).use [(0, 1), (1, 2)] rfl ⟨by simp only [renO, renL_append, bvs_ren]; rfl, fun _ => rfl, by simp only [renO, renL_append, bvs_ren, renL_vals]; rfl, fun _ => rfl, trivial⟩ (by simp [injOn]; decide) rfl (fun _ _ => rfl) (fun _ e => by cases e) ⟨rfl, trivial⟩ ?_
  rintro v m' nx' ⟨rfl, rfl, rfl⟩
  refine ⟨by simp only [noRo, bvs_noRo], by simp only [noRoM, noRoO, noRoL_append, bvs_noRo, noRoL_vals]; rfl, by decide, ?_⟩
  rw [← hS]
  have hl := shaP_len b
  have htk : List.take 32 (shaP b) = shaP b := List.take_of_length_le (by rw [hl]; exact Nat.le_refl _)
  simp only [renM, renO, renL_append, bvs_ren, renL_vals, renA]
  change After _ _ _ _ [(1, .cells (bvs .u32 W ++ [.sl 2 0 rest.length cap, .int .u64 (many.toNat : Int)]) 262), (2, .cells (bvs .u8 rest ++ sp.map AV.val) 5), (0, .cells (bvs .u8 (List.replicate 32 (0 : BitVec 8))) 199)] 3
  simp (maxSteps := 1000000) -implicitDefEqProofs only [go_sem, Nat.reduceBEq, Nat.reduceLT, Nat.reduceLeDiff, Nat.reduceEqDiff, Nat.reduceAdd, Nat.reduceMul, Nat.reduceSub, reduceIte, reduceCtorEq, Int.reduceLT, Int.reduceLE, Int.reduceToNat, Int.reduceAdd, Int.reduceSub, Int.reduceNeg, Int.reduceEq, Int.reduceNe, Int.reduceBEq, Int.reduceBNe, BitVec.reduceBEq, BitVec.reduceBNe, BitVec.reduceOfInt, BitVec.reduceSetWidth, -List.reduceReplicate, hl, htk]
  exact Fin.flatv (fun _ => rfl) (fun f => by simp only [renA, bvs_ren]) ⟨rfl, rfl, rfl⟩
/-- the document's words of a block -/
def rwB (b : List (BitVec 8)) (i : Nat) : Nat → BitVec 32
  | 0 => 0#32
  | k + 1 => 256#32 * rwB b i k + (b.getD (4 * i + k) 0).setWidth 32
def s0R (x : BitVec 32) : BitVec 32 := rotN x 7 ^^^ rotN x 18 ^^^ x / 8#32
def s1R (y : BitVec 32) : BitVec 32 := rotN y 17 ^^^ rotN y 19 ^^^ y / 1024#32
def rNext (b : List (BitVec 8)) (w : List (BitVec 32)) (n : Nat) : BitVec 32 := if n < 16 then rwB b n 4 else w.getD (n - 16) 0 + s0R (w.getD (n - 15) 0) + w.getD (n - 7) 0 + s1R (w.getD (n - 2) 0)
def rl (b : List (BitVec 8)) : Nat → List (BitVec 32)
  | 0 => []
  | n + 1 => rl b n ++ [rNext b (rl b n) n]
theorem rl_len (b : List (BitVec 8)) (n : Nat) : (rl b n).length = n := by
  induction n with
  | zero => rfl
  | succ n ih => simp [rl, ih]
theorem memSame_self : ∀ {m : Mem}, (m.map fun p => p.1).Nodup → memSame m m := by
  have key : ∀ (m0 m : Mem), (∀ p ∈ m, Eng.look m0 p.1 = some p.2) → memSame m0 m := by
    intro m0 m
    induction m with
    | nil => intro _; trivial
    | cons p r ih => intro h; exact ⟨h p (List.mem_cons_self ..), ih fun q hq => h q (List.mem_cons_of_mem _ hq)⟩
  intro m h
  refine key m m ?_
  induction m with
  | nil => intro p hp; cases hp
  | cons q r ih =>
    obtain ⟨k, o⟩ := q
    simp only [List.map_cons, List.nodup_cons] at h
    intro p hp
    rcases List.mem_cons.1 hp with rfl | hp
    · simp [Eng.look]
    · have hne : k ≠ p.1 := fun e => h.1 (by rw [e]; exact List.mem_map_of_mem hp)
      simp only [Eng.look]
      rw [if_neg hne]
      exact ih h.2 p hp
theorem Le.sameM {t t' : Slots} {m : Mem} {nx : Nat} (hs : slotsSame t t') (hd : (m.map fun p => p.1).Nodup) : ∃ l, Le 0 l (fun _ => true) t m nx t' m nx :=
  Le.sameT (Nat.zero_le _) hs (memSame_self hd) hd
theorem ApI_nodup {k : IntKind} {ty w : Nat} {X : List (BitVec w)} {x : AV × Mem × Nat} (h : ApI k ty X x) : (x.2.1.map fun p => p.1).Nodup := by
  rcases h with ⟨_, rfl⟩ | ⟨cap, sp, rfl, _⟩
  · simp
  · simp
theorem ApI_hd {k : IntKind} {ty w : Nat} {X : List (BitVec w)} {x : AV × Mem × Nat} (h : ApI k ty X x) {o q : AObj} (ho : Eng.look x.2.1 0 = some o) : Eng.look ((x.2.2, q) :: x.2.1) 0 = some o := by
  rcases h with ⟨_, rfl⟩ | ⟨cap, sp, rfl, _⟩
  · cases ho
  · exact ho
theorem vals_det (sp : List Value) : (sp.map AV.val).all det = true := by
  induction sp with
  | nil => rfl
  | cons x r ih => simp only [List.map_cons, List.all_cons, ih, Bool.and_true]; rfl
def idG (s : AV) : AV := s
set_option maxHeartbeats 1600000 in
theorem rspreadOk (b : List (BitVec 8)) (h64 : b.length = 64) : CallOk Try.prog 139 [.ro 64 (bvs .u8 b)] (fun _ => true) [] 0 (Rets idG .u32 (rl b 64) 108) := by
  refine fn_ok Try.func139 rfl (by show 1 ≤ _; decide) ?_
  simp (maxSteps := 1000000) -implicitDefEqProofs only [go_sem, Nat.reduceBEq, Nat.reduceLT, Nat.reduceLeDiff, Nat.reduceEqDiff, Nat.reduceAdd, Nat.reduceMul, Nat.reduceSub, reduceIte, reduceCtorEq, Int.reduceLT, Int.reduceLE, Int.reduceToNat, Int.reduceAdd, Int.reduceSub, Int.reduceNeg, Int.reduceEq, Int.reduceNe, Int.reduceBEq, Int.reduceBNe, BitVec.reduceBEq, BitVec.reduceBNe, BitVec.reduceOfInt, BitVec.reduceSetWidth, -List.reduceReplicate, Try.results139, Try.ntmps139]
  refine LoopOk.upX (fun n x => ApI .u32 108 (rl b n) x) 64 (fun n x => ((3, x.1) :: [(4, .int .i64 n), (0, .ro 64 (bvs .u8 b))], x.2.1, x.2.2)) (.nils, [], 0) (ApI.nil _ _) (Le.sameT (by decide) (by simp only [-List.reduceReplicate, slotsSame, Eng.look, Nat.reduceEqDiff, reduceIte, reduceCtorEq, if_true, if_false, eq_self, true_and, and_true, Option.some.injEq, AV.int.injEq]; (try simp (disch := omega) only [wrap_i64]); (try simp [-List.reduceReplicate]); (try omega)) (by simp only [-List.reduceReplicate, memSame, Eng.look, Nat.reduceEqDiff, reduceIte, reduceCtorEq, if_true, if_false, eq_self, true_and, and_true, Option.some.injEq, AObj.cells.injEq, bvs_rep8, bvs_rep16, bvs_rep32, bvs_rep64, bvs_flat_rep, Nat.reduceMul, bvs_append, List.replicate_append_replicate, Nat.reduceAdd, bvs_inj]; try simp [-List.reduceReplicate]) (by simp [-List.reduceReplicate])) ?_
  intro n x ⟨hn, hq⟩
  have hrl := rl_len b n
  have wn : IntKind.i64.wrap ((n : Int) + 1) = ((n + 1 : Nat) : Int) := by rw [wrap_i64] <;> omega
  rcases Nat.lt_or_ge n 64 with h' | h'
  · have f1 : decide ((n : Int) < 64) = true := by simp; omega
    rcases Nat.lt_or_ge n 16 with g | g
    · have f2 : decide ((n : Int) < 16) = true := by simp; omega
      simp (maxSteps := 1000000) -implicitDefEqProofs only [go_sem, Nat.reduceBEq, Nat.reduceLT, Nat.reduceLeDiff, Nat.reduceEqDiff, Nat.reduceAdd, Nat.reduceMul, Nat.reduceSub, reduceIte, reduceCtorEq, Int.reduceLT, Int.reduceLE, Int.reduceToNat, Int.reduceAdd, Int.reduceSub, Int.reduceNeg, Int.reduceEq, Int.reduceNe, Int.reduceBEq, Int.reduceBNe, BitVec.reduceBEq, BitVec.reduceBNe, BitVec.reduceOfInt, BitVec.reduceSetWidth, -List.reduceReplicate, f1, f2]
      refine LoopOk.up 4 (fun k => ([(6, .int .i64 k), (5, .int .u32 ((rwB b n k).toNat : Int)), (3, x.1), (4, .int .i64 n), (0, .ro 64 (bvs .u8 b))], x.2.1, x.2.2)) (Le.sameM ⟨rfl, rfl, rfl, rfl, rfl, trivial⟩ (ApI_nodup hq)) ?_
      intro k hk
      simp (maxSteps := 1000000) -implicitDefEqProofs only [go_sem, Nat.reduceBEq, Nat.reduceLT, Nat.reduceLeDiff, Nat.reduceEqDiff, Nat.reduceAdd, Nat.reduceMul, Nat.reduceSub, reduceIte, reduceCtorEq, Int.reduceLT, Int.reduceLE, Int.reduceToNat, Int.reduceAdd, Int.reduceSub, Int.reduceNeg, Int.reduceEq, Int.reduceNe, Int.reduceBEq, Int.reduceBNe, BitVec.reduceBEq, BitVec.reduceBNe, BitVec.reduceOfInt, BitVec.reduceSetWidth, -List.reduceReplicate]
      refine cndv_split (fun h => ?_) (fun h => ?_)
      · have h4 : k < 4 := by have := of_decide_eq_true h; omega
        have wk : IntKind.i64.wrap ((k : Int) + 1) = ((k + 1 : Nat) : Int) := by rw [wrap_i64] <;> omega
        have w4 : IntKind.i64.wrap (4 * (n : Int)) = ((4 * n : Nat) : Int) := by rw [wrap_i64] <;> omega
        have w5 : IntKind.i64.wrap (((4 * n : Nat) : Int) + (k : Int)) = ((4 * n + k : Nat) : Int) := by rw [wrap_i64] <;> omega
        simp (maxSteps := 1000000) -implicitDefEqProofs only [go_sem, Nat.reduceBEq, Nat.reduceLT, Nat.reduceLeDiff, Nat.reduceEqDiff, Nat.reduceAdd, Nat.reduceMul, Nat.reduceSub, reduceIte, reduceCtorEq, Int.reduceLT, Int.reduceLE, Int.reduceToNat, Int.reduceAdd, Int.reduceSub, Int.reduceNeg, Int.reduceEq, Int.reduceNe, Int.reduceBEq, Int.reduceBNe, BitVec.reduceBEq, BitVec.reduceBNe, BitVec.reduceOfInt, BitVec.reduceSetWidth, -List.reduceReplicate, wk, w4, w5, h64, List.length_drop]
        refine ⟨by omega, by omega, by omega, UpK_normal h4 (Le.sameM ⟨rfl, ?_, rfl, rfl, rfl, trivial⟩ (ApI_nodup hq))⟩
        simp only [Eng.look, Nat.reduceEqDiff, reduceIte, if_true, if_false, rwB, Option.some.injEq]
      · have h4 : k = 4 := by have := of_decide_eq_false h; omega
        subst h4
        simp (maxSteps := 1000000) -implicitDefEqProofs only [go_sem, Nat.reduceBEq, Nat.reduceLT, Nat.reduceLeDiff, Nat.reduceEqDiff, Nat.reduceAdd, Nat.reduceMul, Nat.reduceSub, reduceIte, reduceCtorEq, Int.reduceLT, Int.reduceLE, Int.reduceToNat, Int.reduceAdd, Int.reduceSub, Int.reduceNeg, Int.reduceEq, Int.reduceNe, Int.reduceBEq, Int.reduceBNe, BitVec.reduceBEq, BitVec.reduceBNe, BitVec.reduceOfInt, BitVec.reduceSetWidth, -List.reduceReplicate]
        refine ⟨.inr trivial, rfl, ?_⟩
        have hnx : rNext b (rl b n) n = rwB b n 4 := by rw [rNext, if_pos g]
        refine appk_ap (y := [rwB b n 4]) hq (fun o h => ?_) (fun _ => rfl) (by simp) (by decide) (by rw [hrl]; simp only [List.length_cons, List.length_nil]; omega) fun cap sp m3 c1 c2 => ?_
        · exact ApI_hd hq h
        simp (maxSteps := 1000000) -implicitDefEqProofs only [go_sem, Nat.reduceBEq, Nat.reduceLT, Nat.reduceLeDiff, Nat.reduceEqDiff, Nat.reduceAdd, Nat.reduceMul, Nat.reduceSub, reduceIte, reduceCtorEq, Int.reduceLT, Int.reduceLE, Int.reduceToNat, Int.reduceAdd, Int.reduceSub, Int.reduceNeg, Int.reduceEq, Int.reduceNe, Int.reduceBEq, Int.reduceBNe, BitVec.reduceBEq, BitVec.reduceBNe, BitVec.reduceOfInt, BitVec.reduceSetWidth, -List.reduceReplicate, wn]
        refine UpX_normal h' (_, _, _) (ApI.some (X := rl b (n + 1)) (by rw [rl, hnx]; exact c1) c2) ?_
        exact Le.ap (n := x.2.2 + 1) (by rw [rl, hnx, List.length_append]; rfl) (by rw [rl, hnx]; exact look_hd _ _ _) rfl ⟨rfl, rfl, trivial⟩ (by simp only [List.all_cons, List.all_nil, flatro, flatroL_bvs, Bool.and_self])
    · have f2 : decide ((n : Int) < 16) = false := by simp; omega
      rcases hq with ⟨hnil, rfl⟩ | ⟨cap, sp, rfl, hc1, hc2⟩
      · have := congrArg List.length hnil; rw [hrl] at this; simp at this; omega
      have hnx : rNext b (rl b n) n = (rl b n).getD (n - 16) 0 + s0R ((rl b n).getD (n - 15) 0) + (rl b n).getD (n - 7) 0 + s1R ((rl b n).getD (n - 2) 0) := by rw [rNext, if_neg (by omega)]
      have hrs : rl b (n + 1) = rl b n ++ [rNext b (rl b n) n] := rfl
      rw [hnx] at hrs
      have w15 : IntKind.i64.wrap ((n : Int) - 15) = ((n - 15 : Nat) : Int) := by rw [wrap_i64] <;> omega
      have w2 : IntKind.i64.wrap ((n : Int) - 2) = ((n - 2 : Nat) : Int) := by rw [wrap_i64] <;> omega
      have w16 : IntKind.i64.wrap ((n : Int) - 16) = ((n - 16 : Nat) : Int) := by rw [wrap_i64] <;> omega
      have w7 : IntKind.i64.wrap ((n : Int) - 7) = ((n - 7 : Nat) : Int) := by rw [wrap_i64] <;> omega
      have g15 := bvsS_getD .u32 (rl b n) (sp.map AV.val) (n - 15) (by omega)
      have g2 := bvsS_getD .u32 (rl b n) (sp.map AV.val) (n - 2) (by omega)
      have g16 := bvsS_getD .u32 (rl b n) (sp.map AV.val) (n - 16) (by omega)
      have g7 := bvsS_getD .u32 (rl b n) (sp.map AV.val) (n - 7) (by omega)
      simp (maxSteps := 1000000) -implicitDefEqProofs only [go_sem, Nat.reduceBEq, Nat.reduceLT, Nat.reduceLeDiff, Nat.reduceEqDiff, Nat.reduceAdd, Nat.reduceMul, Nat.reduceSub, reduceIte, reduceCtorEq, Int.reduceLT, Int.reduceLE, Int.reduceToNat, Int.reduceAdd, Int.reduceSub, Int.reduceNeg, Int.reduceEq, Int.reduceNe, Int.reduceBEq, Int.reduceBNe, BitVec.reduceBEq, BitVec.reduceBNe, BitVec.reduceOfInt, BitVec.reduceSetWidth, -List.reduceReplicate, f1, f2, w15, w2, g15, g2]
      refine ⟨by omega, by omega, by omega, by omega, ?_⟩
      refine (rrotOk ((rl b n).getD (n - 15) 0) 7 (by decide)).flatv (by simp only [argsx, argx_int, argx_bool, argx_fn, argx_ro, argx_nils, eq_self, true_and, and_true, and_self]; try trivial) (fun _ => rfl) rfl ?_
      simp (maxSteps := 1000000) -implicitDefEqProofs only [go_sem, Nat.reduceBEq, Nat.reduceLT, Nat.reduceLeDiff, Nat.reduceEqDiff, Nat.reduceAdd, Nat.reduceMul, Nat.reduceSub, reduceIte, reduceCtorEq, Int.reduceLT, Int.reduceLE, Int.reduceToNat, Int.reduceAdd, Int.reduceSub, Int.reduceNeg, Int.reduceEq, Int.reduceNe, Int.reduceBEq, Int.reduceBNe, BitVec.reduceBEq, BitVec.reduceBNe, BitVec.reduceOfInt, BitVec.reduceSetWidth, -List.reduceReplicate]
      refine (rrotOk ((rl b n).getD (n - 15) 0) 18 (by decide)).flatv (by simp only [argsx, argx_int, argx_bool, argx_fn, argx_ro, argx_nils, eq_self, true_and, and_true, and_self]; try trivial) (fun _ => rfl) rfl ?_
      simp (maxSteps := 1000000) -implicitDefEqProofs only [go_sem, Nat.reduceBEq, Nat.reduceLT, Nat.reduceLeDiff, Nat.reduceEqDiff, Nat.reduceAdd, Nat.reduceMul, Nat.reduceSub, reduceIte, reduceCtorEq, Int.reduceLT, Int.reduceLE, Int.reduceToNat, Int.reduceAdd, Int.reduceSub, Int.reduceNeg, Int.reduceEq, Int.reduceNe, Int.reduceBEq, Int.reduceBNe, BitVec.reduceBEq, BitVec.reduceBNe, BitVec.reduceOfInt, BitVec.reduceSetWidth, -List.reduceReplicate]
      refine (rrotOk ((rl b n).getD (n - 2) 0) 17 (by decide)).flatv (by simp only [argsx, argx_int, argx_bool, argx_fn, argx_ro, argx_nils, eq_self, true_and, and_true, and_self]; try trivial) (fun _ => rfl) rfl ?_
      simp (maxSteps := 1000000) -implicitDefEqProofs only [go_sem, Nat.reduceBEq, Nat.reduceLT, Nat.reduceLeDiff, Nat.reduceEqDiff, Nat.reduceAdd, Nat.reduceMul, Nat.reduceSub, reduceIte, reduceCtorEq, Int.reduceLT, Int.reduceLE, Int.reduceToNat, Int.reduceAdd, Int.reduceSub, Int.reduceNeg, Int.reduceEq, Int.reduceNe, Int.reduceBEq, Int.reduceBNe, BitVec.reduceBEq, BitVec.reduceBNe, BitVec.reduceOfInt, BitVec.reduceSetWidth, -List.reduceReplicate]
      refine (rrotOk ((rl b n).getD (n - 2) 0) 19 (by decide)).flatv (by simp only [argsx, argx_int, argx_bool, argx_fn, argx_ro, argx_nils, eq_self, true_and, and_true, and_self]; try trivial) (fun _ => rfl) rfl ?_
      simp (maxSteps := 1000000) -implicitDefEqProofs only [go_sem, Nat.reduceBEq, Nat.reduceLT, Nat.reduceLeDiff, Nat.reduceEqDiff, Nat.reduceAdd, Nat.reduceMul, Nat.reduceSub, reduceIte, reduceCtorEq, Int.reduceLT, Int.reduceLE, Int.reduceToNat, Int.reduceAdd, Int.reduceSub, Int.reduceNeg, Int.reduceEq, Int.reduceNe, Int.reduceBEq, Int.reduceBNe, BitVec.reduceBEq, BitVec.reduceBNe, BitVec.reduceOfInt, BitVec.reduceSetWidth, -List.reduceReplicate]
      refine ⟨Fx.mixed, .inr (.inl ⟨[(0, false), (1, false), (2, false), (3, false), (4, false), (5, false), (6, false), (7, false), (8, false), (9, false), (10, false), (11, false), (12, false), (13, false), (14, false), (15, false), (16, true), (17, true), (18, false)], [0], [17], [5, 12], by kernel_rfl, by kernel_rfl, (fun n hn => by cases List.mem_singleton.1 hn; exact ⟨rfl, rfl⟩), ?_⟩)⟩
      simp (maxSteps := 1000000) -implicitDefEqProofs only [go_sem, Nat.reduceBEq, Nat.reduceLT, Nat.reduceLeDiff, Nat.reduceEqDiff, Nat.reduceAdd, Nat.reduceMul, Nat.reduceSub, reduceIte, reduceCtorEq, Int.reduceLT, Int.reduceLE, Int.reduceToNat, Int.reduceAdd, Int.reduceSub, Int.reduceNeg, Int.reduceEq, Int.reduceNe, Int.reduceBEq, Int.reduceBNe, BitVec.reduceBEq, BitVec.reduceBNe, BitVec.reduceOfInt, BitVec.reduceSetWidth, -List.reduceReplicate, w16, w7, g16, g7]
      refine ⟨by omega, by omega, by omega, by omega, .inr trivial, rfl, ?_⟩
      obtain ⟨z, hz⟩ : ∃ z, z = (rl b n).getD (n - 16) 0 + s0R ((rl b n).getD (n - 15) 0) + (rl b n).getD (n - 7) 0 + s1R ((rl b n).getD (n - 2) 0) := ⟨_, rfl⟩
      rw [← hz] at hrs
      change appk _ _ _ _ _ _ _ (1, bvs .u32 (List.take 1 ((List.replicate 1 (0 : BitVec 32)).set 0 ((rl b n).getD (n - 16) 0 + s0R ((rl b n).getD (n - 15) 0) + (rl b n).getD (n - 7) 0 + s1R ((rl b n).getD (n - 2) 0))))) _
      rw [← hz]
      refine appk_bvs (x := rl b n) (y := [z]) (sp := sp) (n := 0) rfl rfl hc1 hc2 (by decide) (by simp only [List.length_cons, List.length_nil]; omega) fun cap2 sp2 c1 c2 => ?_
      rw [← hrs]
      rw [← hrs] at c1
      simp (maxSteps := 1000000) -implicitDefEqProofs only [go_sem, Nat.reduceBEq, Nat.reduceLT, Nat.reduceLeDiff, Nat.reduceEqDiff, Nat.reduceAdd, Nat.reduceMul, Nat.reduceSub, reduceIte, reduceCtorEq, Int.reduceLT, Int.reduceLE, Int.reduceToNat, Int.reduceAdd, Int.reduceSub, Int.reduceNeg, Int.reduceEq, Int.reduceNe, Int.reduceBEq, Int.reduceBNe, BitVec.reduceBEq, BitVec.reduceBNe, BitVec.reduceOfInt, BitVec.reduceSetWidth, -List.reduceReplicate, wn]
      refine UpX_normal h' (_, _, _) (ApI.some c1 c2) ?_
      exact Le.ap (n := 2) rfl (look_hd _ _ _) rfl ⟨rfl, rfl, trivial⟩ (by simp only [List.all_cons, List.all_nil, flatro, flatroL_bvs, Bool.and_self])
  · have hnn : n = 64 := by omega
    subst hnn
    have f1 : decide ((64 : Int) < 64) = false := rfl
    simp (maxSteps := 1000000) -implicitDefEqProofs only [go_sem, Nat.reduceBEq, Nat.reduceLT, Nat.reduceLeDiff, Nat.reduceEqDiff, Nat.reduceAdd, Nat.reduceMul, Nat.reduceSub, reduceIte, reduceCtorEq, Int.reduceLT, Int.reduceLE, Int.reduceToNat, Int.reduceAdd, Int.reduceSub, Int.reduceNeg, Int.reduceEq, Int.reduceNe, Int.reduceBEq, Int.reduceBNe, BitVec.reduceBEq, BitVec.reduceBNe, BitVec.reduceOfInt, BitVec.reduceSetWidth, -List.reduceReplicate, f1]
    exact Fin.ap hq idG (fun _ _ => rfl) (fun _ => rfl)
end Go.Proofs.Ytmdeoikpiiambaa
