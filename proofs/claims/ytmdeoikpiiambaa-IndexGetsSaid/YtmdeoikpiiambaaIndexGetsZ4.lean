/- Part 4 of the proof of the statement IndexGets: Eng22, Mb, Mc, Md, Fla, Flx, Ixa, Ixb. -/
import Derived.Test.YtmdeoikpiiambaaIndexGetsZ3
section
/- The engine, part 22: what is appended to, nil or not; and read only from then on. Own work. -/
set_option linter.unusedVariables false
set_option linter.unusedSimpArgs false
namespace Go.Eng
open Go

section
variable {P : Program} {wr : Nat → Bool} {k : IntKind} {w : Nat}
/-- a row of words somewhere in memory: nil, or a slice at its object's begin -/
def ApA (k : IntKind) (ty : TypeId) {w : Nat} (X : List (BitVec w)) (v : AV) (m : Mem) : Prop :=
  (X = [] ∧ v = .nils) ∨ ∃ (n cap : Nat) (sp : List Value), v = .sl n 0 X.length cap ∧ look m n = some (.cells (bvs k X ++ sp.map AV.val) ty) ∧ X.length + sp.length = cap ∧ cap ≤ maxI
theorem appk_gen {ty bt : Nat} {X y : List (BitVec w)} {v : AV} {m : Mem} {nx : Nat} {K : Kv} (h : ApA k ty X v m) (hlt : ∀ n off len cap, v = .sl n off len cap → n < nx) (hw : ∀ n, wr n = true) (hb : 0 < bt) (hl : (X.length + y.length) * bt ≤ 140737488355328)
    (hK : ∀ (v' : AV) (m' : Mem) (nx' : Nat), ApA k ty (X ++ y) v' m' → nx ≤ nx' → (∀ n off len cap, v' = .sl n off len cap → n = nx ∧ nx' = nx + 1) → (∀ j, j ≠ nx → (∀ off len cap, v ≠ .sl j off len cap) → look m' j = look m j) → K v' m' nx') :
    appk v m nx wr ty 1 bt (y.length, bvs k y) K := by
  rcases h with ⟨rfl, rfl⟩ | ⟨n, cap, sp, rfl, hn, h1, h2⟩
  · refine appk_nils hb (by simpa using hl) (fun e => ?_) fun hp cap' sp' c1 c2 => ?_
    · subst e
      exact hK .nils m nx (.inl ⟨rfl, rfl⟩) (Nat.le_refl _) (fun _ _ _ _ e => by cases e) (fun _ _ _ => rfl)
    · refine hK _ _ _ (.inr ⟨nx, cap', sp', by simp, by simp [look], by simpa using c1, c2⟩) (Nat.le_succ _) (fun _ _ _ _ e => by cases e; exact ⟨rfl, rfl⟩) (fun j hj _ => ?_)
      simp only [look]; rw [if_neg (Ne.symm hj)]
  · refine appk_bvs hn (hw n) h1 h2 hb hl fun cap' sp' c1 c2 => ?_
    refine hK _ _ _ (.inr ⟨nx, cap', sp', rfl, by simp [look], c1, c2⟩) (Nat.le_succ _) (fun _ _ _ _ e => by cases e; exact ⟨rfl, rfl⟩) (fun j hj hv => ?_)
    have hjn : n ≠ j := fun e => hv 0 X.length cap (by rw [e])
    simp only [look]; rw [if_neg (Ne.symm hj), look_del_other hjn]
/-- held fast, it is read-only -/
theorem ApA.fz {ty : Nat} {X : List (BitVec w)} {v : AV} {m : Mem} (h : ApA k ty X v m) : ∃ o : Option (Nat × List AV), (∀ n l, o = some (n, l) → look m n = some (.cells l ty) ∧ ∃ len cap, v = .sl n 0 len cap) ∧ fzA o v = .ro X.length (bvs k X) := by
  rcases h with ⟨rfl, rfl⟩ | ⟨n, cap, sp, rfl, hn, h1, h2⟩
  · exact ⟨none, (fun n l e => by cases e), rfl⟩
  · refine ⟨some (n, _), (fun n' l e => by cases e; exact ⟨hn, _, _, rfl⟩), ?_⟩
    simp only [fzA, if_true, List.drop_zero]
    rw [List.take_append_of_le_length (by rw [bvs_length]; exact Nat.le_refl _), bvs_take, List.take_length]
end
end Go.Eng
end
section
/- SHA-256: a block, bytes that come, the sum: the program. -/
set_option linter.unusedVariables false
set_option linter.unusedSimpArgs false
set_option maxRecDepth 100000
/-! Sha -/
namespace Go.Proofs.Ytmdeoikpiiambaa
open Go Go.Eng
def rotR (x : BitVec 32) (n : Nat) : BitVec 32 := (x <<< (32 - n)) ||| (x >>> n)
def r1 (x : BitVec 32) : BitVec 32 := x / 2#32 + (x % 2#32) * 2147483648#32
def rotN (x : BitVec 32) : Nat → BitVec 32
  | 0 => x
  | n + 1 => r1 (rotN x n)
theorem rotlOk (x : BitVec 32) (n : Nat) (h1 : 1 ≤ n) (h2 : n ≤ 31) : CallOk Try.prog 216 [.int .u32 (x.toNat : Int), .int .i64 (-(n : Int))] (fun _ => true) [] 0 fun v m nx => v = .int .u32 ((rotR x n).toNat : Int) ∧ m = [] ∧ nx = 0 := by
  refine fn_ok Try.func216 rfl (by show 2 ≤ _; decide) ?_
  have e : -BitVec.ofNat 64 n &&& 31#64 = BitVec.ofNat 64 (32 - n) := by
    have : ∀ k : Fin 32, 1 ≤ k.val → -BitVec.ofNat 64 k.val &&& 31#64 = BitVec.ofNat 64 (32 - k.val) := by decide
    exact this ⟨n, by omega⟩ h1
  have e1 : (BitVec.ofNat 64 (32 - n)).toNat = 32 - n := by rw [BitVec.toNat_ofNat]; omega
  have e2 : (32#64 - BitVec.ofNat 64 (32 - n)).toNat = n := by rw [BitVec.toNat_sub, e1, show (32#64).toNat = 32 from rfl]; omega
  simp (maxSteps := 1000000) -implicitDefEqProofs only [go_sem, Nat.reduceBEq, Nat.reduceLT, Nat.reduceLeDiff, Nat.reduceEqDiff, Nat.reduceAdd, Nat.reduceMul, Nat.reduceSub, reduceIte, reduceCtorEq, Int.reduceLT, Int.reduceLE, Int.reduceToNat, Int.reduceAdd, Int.reduceSub, Int.reduceNeg, Int.reduceEq, Int.reduceNe, Int.reduceBEq, Int.reduceBNe, BitVec.reduceBEq, BitVec.reduceBNe, BitVec.reduceOfInt, BitVec.reduceSetWidth, -List.reduceReplicate, Try.results216, Try.ntmps216]
  refine Fin.flatv (fun _ => rfl) (fun f => rfl) ⟨?_, rfl, rfl⟩
  rw [e, e1, e2]
  rfl
theorem rotOk (x : BitVec 32) (n : Nat) (h1 : 1 ≤ n) (h2 : n ≤ 31) : CallOk Try.prog 208 [.int .u32 (x.toNat : Int), .int .i64 (n : Int)] (fun _ => true) [] 0 fun v m nx => v = .int .u32 ((rotR x n).toNat : Int) ∧ m = [] ∧ nx = 0 := by
  refine fn_ok Try.func208 rfl (by show 2 ≤ _; decide) ?_
  have w1 : IntKind.i64.wrap (0 - (n : Int)) = -(n : Int) := by rw [wrap_i64] <;> omega
  simp (maxSteps := 1000000) -implicitDefEqProofs only [go_sem, Nat.reduceBEq, Nat.reduceLT, Nat.reduceLeDiff, Nat.reduceEqDiff, Nat.reduceAdd, Nat.reduceMul, Nat.reduceSub, reduceIte, reduceCtorEq, Int.reduceLT, Int.reduceLE, Int.reduceToNat, Int.reduceAdd, Int.reduceSub, Int.reduceNeg, Int.reduceEq, Int.reduceNe, Int.reduceBEq, Int.reduceBNe, BitVec.reduceBEq, BitVec.reduceBNe, BitVec.reduceOfInt, BitVec.reduceSetWidth, -List.reduceReplicate, Try.results208, Try.ntmps208, w1]
  refine (rotlOk x n h1 h2).flatv (by simp only [argsx, argx_int, argx_bool, argx_fn, argx_ro, argx_nils, eq_self, true_and, and_true, and_self]; try trivial) (fun _ => rfl) rfl ?_
  simp (maxSteps := 1000000) -implicitDefEqProofs only [go_sem, Nat.reduceBEq, Nat.reduceLT, Nat.reduceLeDiff, Nat.reduceEqDiff, Nat.reduceAdd, Nat.reduceMul, Nat.reduceSub, reduceIte, reduceCtorEq, Int.reduceLT, Int.reduceLE, Int.reduceToNat, Int.reduceAdd, Int.reduceSub, Int.reduceNeg, Int.reduceEq, Int.reduceNe, Int.reduceBEq, Int.reduceBNe, BitVec.reduceBEq, BitVec.reduceBNe, BitVec.reduceOfInt, BitVec.reduceSetWidth, -List.reduceReplicate]
  exact Fin.flatv (fun _ => rfl) (fun f => rfl) ⟨rfl, rfl, rfl⟩
theorem rrotOk (x : BitVec 32) (n : Nat) (h2 : n ≤ 31) : CallOk Try.prog 140 [.int .u32 (x.toNat : Int), .int .i64 (n : Int)] (fun _ => true) [] 0 fun v m nx => v = .int .u32 ((rotN x n).toNat : Int) ∧ m = [] ∧ nx = 0 := by
  refine fn_ok Try.func140 rfl (by show 2 ≤ _; decide) ?_
  simp (maxSteps := 1000000) -implicitDefEqProofs only [go_sem, Nat.reduceBEq, Nat.reduceLT, Nat.reduceLeDiff, Nat.reduceEqDiff, Nat.reduceAdd, Nat.reduceMul, Nat.reduceSub, reduceIte, reduceCtorEq, Int.reduceLT, Int.reduceLE, Int.reduceToNat, Int.reduceAdd, Int.reduceSub, Int.reduceNeg, Int.reduceEq, Int.reduceNe, Int.reduceBEq, Int.reduceBNe, BitVec.reduceBEq, BitVec.reduceBNe, BitVec.reduceOfInt, BitVec.reduceSetWidth, -List.reduceReplicate, Try.results140, Try.ntmps140]
  refine LoopOk.up n (fun i => ([(5, .int .i64 i), (0, .int .u32 ((rotN x i).toNat : Int)), (1, .int .i64 n)], [], 0)) (Le.sameT (by decide) (by simp only [-List.reduceReplicate, slotsSame, Eng.look, Nat.reduceEqDiff, rotN, reduceIte, reduceCtorEq, if_true, if_false, eq_self, true_and, and_true, Option.some.injEq, AV.int.injEq]; (try simp (disch := omega) only [wrap_i64]); (try simp [-List.reduceReplicate]); (try omega)) (by simp only [-List.reduceReplicate, memSame, Eng.look, Nat.reduceEqDiff, rotN, reduceIte, reduceCtorEq, if_true, if_false, eq_self, true_and, and_true, Option.some.injEq, AObj.cells.injEq, bvs_rep8, bvs_rep16, bvs_rep32, bvs_rep64, bvs_flat_rep, Nat.reduceMul, bvs_append, List.replicate_append_replicate, Nat.reduceAdd, bvs_inj]; try simp [-List.reduceReplicate]) (by simp [-List.reduceReplicate])) ?_
  intro i hi
  simp (maxSteps := 1000000) -implicitDefEqProofs only [go_sem, Nat.reduceBEq, Nat.reduceLT, Nat.reduceLeDiff, Nat.reduceEqDiff, Nat.reduceAdd, Nat.reduceMul, Nat.reduceSub, reduceIte, reduceCtorEq, Int.reduceLT, Int.reduceLE, Int.reduceToNat, Int.reduceAdd, Int.reduceSub, Int.reduceNeg, Int.reduceEq, Int.reduceNe, Int.reduceBEq, Int.reduceBNe, BitVec.reduceBEq, BitVec.reduceBNe, BitVec.reduceOfInt, BitVec.reduceSetWidth, -List.reduceReplicate]
  refine cndv_split (fun h => ?_) (fun h => ?_)
  · have h' : i < n := by have := of_decide_eq_true h; omega
    have wn : IntKind.i64.wrap ((i : Int) + 1) = ((i + 1 : Nat) : Int) := by rw [wrap_i64] <;> omega
    simp (maxSteps := 1000000) -implicitDefEqProofs only [go_sem, Nat.reduceBEq, Nat.reduceLT, Nat.reduceLeDiff, Nat.reduceEqDiff, Nat.reduceAdd, Nat.reduceMul, Nat.reduceSub, reduceIte, reduceCtorEq, Int.reduceLT, Int.reduceLE, Int.reduceToNat, Int.reduceAdd, Int.reduceSub, Int.reduceNeg, Int.reduceEq, Int.reduceNe, Int.reduceBEq, Int.reduceBNe, BitVec.reduceBEq, BitVec.reduceBNe, BitVec.reduceOfInt, BitVec.reduceSetWidth, -List.reduceReplicate, wn]
    refine UpK_normal h' (Le.sameT (by decide) (by simp only [-List.reduceReplicate, slotsSame, Eng.look, Nat.reduceEqDiff, rotN, r1, reduceIte, reduceCtorEq, if_true, if_false, eq_self, true_and, and_true, Option.some.injEq, AV.int.injEq]; (try simp (disch := omega) only [wrap_i64]); (try simp [-List.reduceReplicate]); (try omega)) (by simp only [-List.reduceReplicate, memSame, Eng.look, Nat.reduceEqDiff, rotN, r1, reduceIte, reduceCtorEq, if_true, if_false, eq_self, true_and, and_true, Option.some.injEq, AObj.cells.injEq, bvs_rep8, bvs_rep16, bvs_rep32, bvs_rep64, bvs_flat_rep, Nat.reduceMul, bvs_append, List.replicate_append_replicate, Nat.reduceAdd, bvs_inj]; try simp [-List.reduceReplicate]) (by simp [-List.reduceReplicate]))
  · have h' : i = n := by have := of_decide_eq_false h; omega
    subst h'
    simp (maxSteps := 1000000) -implicitDefEqProofs only [go_sem, Nat.reduceBEq, Nat.reduceLT, Nat.reduceLeDiff, Nat.reduceEqDiff, Nat.reduceAdd, Nat.reduceMul, Nat.reduceSub, reduceIte, reduceCtorEq, Int.reduceLT, Int.reduceLE, Int.reduceToNat, Int.reduceAdd, Int.reduceSub, Int.reduceNeg, Int.reduceEq, Int.reduceNe, Int.reduceBEq, Int.reduceBNe, BitVec.reduceBEq, BitVec.reduceBNe, BitVec.reduceOfInt, BitVec.reduceSetWidth, -List.reduceReplicate]
    exact Fin.flatv (fun _ => rfl) (fun f => rfl) ⟨rfl, rfl, rfl⟩
theorem or_field (a b lo : Nat) (h : b < 2 ^ lo) : (a * 2 ^ lo) ||| b = a * 2 ^ lo + b := by
  rw [Nat.mul_comm]
  exact (Nat.two_pow_add_eq_or_of_lt h a).symm
theorem rotR_nat (x : BitVec 32) (n : Nat) (h2 : n ≤ 32) : (rotR x n).toNat = x.toNat % 2 ^ n * 2 ^ (32 - n) + x.toNat / 2 ^ n := by
  have hx := x.isLt
  have hp : 2 ^ 32 = 2 ^ n * 2 ^ (32 - n) := by rw [← Nat.pow_add]; congr 1; omega
  rw [rotR, BitVec.toNat_or, BitVec.toNat_shiftLeft, BitVec.toNat_ushiftRight, Nat.shiftLeft_eq, Nat.shiftRight_eq_div_pow, hp, Nat.mul_mod_mul_right, or_field]
  rw [Nat.div_lt_iff_lt_mul (Nat.two_pow_pos n)]
  rw [Nat.mul_comm, ← hp]; exact hx
theorem r1_nat (x : BitVec 32) : (r1 x).toNat = x.toNat / 2 + x.toNat % 2 * 2147483648 := by
  have hx := x.isLt
  have e2 : (2#32).toNat = 2 := rfl
  have e3 : (2147483648#32).toNat = 2147483648 := rfl
  rw [r1, BitVec.toNat_add, BitVec.toNat_udiv, BitVec.toNat_mul, BitVec.toNat_umod, e2, e3]
  generalize x.toNat = y at *
  have h1 : y % 2 * 2147483648 % 2 ^ 32 = y % 2 * 2147483648 := Nat.mod_eq_of_lt (by omega)
  rw [h1]
  exact Nat.mod_eq_of_lt (by omega)
theorem step_nat (x n : Nat) (hn : n < 26) (hx : x < 4294967296) : (x % 2 ^ n * 2 ^ (32 - n) + x / 2 ^ n) / 2 + (x % 2 ^ n * 2 ^ (32 - n) + x / 2 ^ n) % 2 * 2147483648 = x % 2 ^ (n + 1) * 2 ^ (32 - (n + 1)) + x / 2 ^ (n + 1) := by
  have h : n = 0 ∨ n = 1 ∨ n = 2 ∨ n = 3 ∨ n = 4 ∨ n = 5 ∨ n = 6 ∨ n = 7 ∨ n = 8 ∨ n = 9 ∨ n = 10 ∨ n = 11 ∨ n = 12 ∨ n = 13 ∨ n = 14 ∨ n = 15 ∨ n = 16 ∨ n = 17 ∨ n = 18 ∨ n = 19 ∨ n = 20 ∨ n = 21 ∨ n = 22 ∨ n = 23 ∨ n = 24 ∨ n = 25 := by omega
  rcases h with rfl | rfl | rfl | rfl | rfl | rfl | rfl | rfl | rfl | rfl | rfl | rfl | rfl | rfl | rfl | rfl | rfl | rfl | rfl | rfl | rfl | rfl | rfl | rfl | rfl | rfl <;> omega
theorem rotN_eq (x : BitVec 32) : ∀ n, n ≤ 26 → rotN x n = rotR x n
  | 0, _ => by
    apply BitVec.eq_of_toNat_eq
    rw [rotR_nat x 0 (by decide)]
    simp only [rotN]; omega
  | n + 1, h => by
    apply BitVec.eq_of_toNat_eq
    rw [rotN, rotN_eq x n (by omega), r1_nat, rotR_nat x n (by omega), rotR_nat x (n + 1) (by omega)]
    exact step_nat x.toNat n (by omega) x.isLt
/-- a word of four bytes -/
def wordB (q : List (BitVec 8)) : BitVec 32 := ((q.getD 0 0).setWidth 32 <<< 24) ||| ((q.getD 1 0).setWidth 32 <<< 16) ||| ((q.getD 2 0).setWidth 32 <<< 8) ||| (q.getD 3 0).setWidth 32
theorem wordOk (n : Nat) (q : List (BitVec 8)) (hq : q.length = n) (h4 : 4 ≤ n) : CallOk Try.prog 215 [.ro n (bvs .u8 q)] (fun _ => true) [] 0 fun v m nx => v = .int .u32 ((wordB q).toNat : Int) ∧ m = [] ∧ nx = 0 := by
  refine fn_ok Try.func215 rfl (by show 1 ≤ _; decide) ?_
  simp (maxSteps := 1000000) -implicitDefEqProofs only [go_sem, Nat.reduceBEq, Nat.reduceLT, Nat.reduceLeDiff, Nat.reduceEqDiff, Nat.reduceAdd, Nat.reduceMul, Nat.reduceSub, reduceIte, reduceCtorEq, Int.reduceLT, Int.reduceLE, Int.reduceToNat, Int.reduceAdd, Int.reduceSub, Int.reduceNeg, Int.reduceEq, Int.reduceNe, Int.reduceBEq, Int.reduceBNe, BitVec.reduceBEq, BitVec.reduceBNe, BitVec.reduceOfInt, BitVec.reduceSetWidth, -List.reduceReplicate, Try.results215, Try.ntmps215]
  refine ⟨Fx.mixed, .inl ⟨[(0, false), (1, false), (2, false), (3, false), (4, false), (5, false), (6, false), (7, false), (8, false), (9, false), (10, false), (11, false), (12, false), (13, false), (14, false), (15, false), (16, false), (17, false), (18, false), (19, false), (20, false), (21, false), (22, false)], [], by kernel_rfl, (fun n hn => by cases hn), ?_⟩⟩
  simp (maxSteps := 1000000) -implicitDefEqProofs only [go_sem, Nat.reduceBEq, Nat.reduceLT, Nat.reduceLeDiff, Nat.reduceEqDiff, Nat.reduceAdd, Nat.reduceMul, Nat.reduceSub, reduceIte, reduceCtorEq, Int.reduceLT, Int.reduceLE, Int.reduceToNat, Int.reduceAdd, Int.reduceSub, Int.reduceNeg, Int.reduceEq, Int.reduceNe, Int.reduceBEq, Int.reduceBNe, BitVec.reduceBEq, BitVec.reduceBNe, BitVec.reduceOfInt, BitVec.reduceSetWidth, -List.reduceReplicate, hq]
  have d1 : ∀ k, k < 4 → 0 < (List.drop k q).length := fun k hk => by rw [List.length_drop]; omega
  exact ⟨by omega, by omega, by omega, by omega, by omega, d1 1 (by omega), by omega, by omega, d1 2 (by omega), by omega, by omega, d1 3 (by omega), Fin.flatv (fun _ => rfl) (fun f => rfl) ⟨rfl, rfl, rfl⟩⟩
end Go.Proofs.Ytmdeoikpiiambaa
/-! Shb -/
namespace Go.Proofs.Ytmdeoikpiiambaa
open Go Go.Eng
def s0W (x : BitVec 32) : BitVec 32 := rotR x 7 ^^^ rotR x 18 ^^^ x >>> 3
def s1W (y : BitVec 32) : BitVec 32 := rotR y 17 ^^^ rotR y 19 ^^^ y >>> 10
def wNext (b : List (BitVec 8)) (w : List (BitVec 32)) (n : Nat) : BitVec 32 := if n < 16 then wordB (b.drop (4 * n)) else w.getD (n - 16) 0 + s0W (w.getD (n - 15) 0) + w.getD (n - 7) 0 + s1W (w.getD (n - 2) 0)
def wl (b : List (BitVec 8)) : Nat → List (BitVec 32)
  | 0 => []
  | n + 1 => wl b n ++ [wNext b (wl b n) n]
theorem wl_len (b : List (BitVec 8)) (n : Nat) : (wl b n).length = n := by
  induction n with
  | zero => rfl
  | succ n ih => simp [wl, ih]
def wz (b : List (BitVec 8)) (n : Nat) : List (BitVec 32) := wl b n ++ List.replicate (64 - n) 0
theorem wz_len (b : List (BitVec 8)) (n : Nat) (h : n ≤ 64) : (wz b n).length = 64 := by
  rw [wz, List.length_append, wl_len, List.length_replicate]; omega
theorem wz_zero (b : List (BitVec 8)) : wz b 0 = List.replicate 64 0 := rfl
theorem wz_get (b : List (BitVec 8)) (n i : Nat) (h : i < n) : (wz b n).getD i 0 = (wl b n).getD i 0 := by
  simp only [wz, List.getD_eq_getElem?_getD]
  rw [List.getElem?_append_left (by rw [wl_len]; exact h)]
theorem wz_set (b : List (BitVec 8)) (n : Nat) (h : n < 64) : (wz b n).set n (wNext b (wl b n) n) = wz b (n + 1) := by
  have e : 64 - n = (64 - (n + 1)) + 1 := by omega
  rw [wz, e, List.replicate_succ, List.set_append_right _ _ (by rw [wl_len]; exact Nat.le_refl _), wl_len, Nat.sub_self, List.set_cons_zero, wz, wl, List.append_assoc]
  rfl
theorem wz_all (b : List (BitVec 8)) : wz b 64 = wl b 64 := by rw [wz]; simp
set_option maxHeartbeats 800000 in
theorem spreadOk (b : List (BitVec 8)) (h64 : 64 ≤ b.length) (hb : b.length ≤ 1000000) :
    CallOk Try.prog 206 [.ro b.length (bvs .u8 b)] (fun _ => true) [] 0 fun v m nx => v = .agg (bvs .u32 (wl b 64)) ∧ m = [] ∧ nx = 0 := by
  refine fn_ok Try.func206 rfl (by show 1 ≤ _; decide) ?_
  simp (maxSteps := 1000000) -implicitDefEqProofs only [go_sem, Nat.reduceBEq, Nat.reduceLT, Nat.reduceLeDiff, Nat.reduceEqDiff, Nat.reduceAdd, Nat.reduceMul, Nat.reduceSub, reduceIte, reduceCtorEq, Int.reduceLT, Int.reduceLE, Int.reduceToNat, Int.reduceAdd, Int.reduceSub, Int.reduceNeg, Int.reduceEq, Int.reduceNe, Int.reduceBEq, Int.reduceBNe, BitVec.reduceBEq, BitVec.reduceBNe, BitVec.reduceOfInt, BitVec.reduceSetWidth, -List.reduceReplicate, Try.results206, Try.ntmps206]
  refine LoopOk.up 16 (fun n => ([(8, .int .i64 n), (3, .ptr 1 0), (2, .ptr 0 0), (0, .ro b.length (bvs .u8 b))], [(1, .cells (bvs .u32 (wz b n)) 271), (0, .cells (bvs .u32 (List.replicate 64 (0 : BitVec 32))) 271)], 2)) (Le.sameT (by decide) (by simp only [-List.reduceReplicate, slotsSame, Eng.look, Nat.reduceEqDiff, wz_zero, reduceIte, reduceCtorEq, if_true, if_false, eq_self, true_and, and_true, Option.some.injEq, AV.int.injEq]; (try simp (disch := omega) only [wrap_i64]); (try simp [-List.reduceReplicate]); (try omega)) (by simp only [-List.reduceReplicate, memSame, Eng.look, Nat.reduceEqDiff, wz_zero, reduceIte, reduceCtorEq, if_true, if_false, eq_self, true_and, and_true, Option.some.injEq, AObj.cells.injEq, bvs_rep8, bvs_rep16, bvs_rep32, bvs_rep64, bvs_flat_rep, Nat.reduceMul, bvs_append, List.replicate_append_replicate, Nat.reduceAdd, bvs_inj]; try simp [-List.reduceReplicate]) (by simp [-List.reduceReplicate])) ?_
  intro n hn
  simp (maxSteps := 1000000) -implicitDefEqProofs only [go_sem, Nat.reduceBEq, Nat.reduceLT, Nat.reduceLeDiff, Nat.reduceEqDiff, Nat.reduceAdd, Nat.reduceMul, Nat.reduceSub, reduceIte, reduceCtorEq, Int.reduceLT, Int.reduceLE, Int.reduceToNat, Int.reduceAdd, Int.reduceSub, Int.reduceNeg, Int.reduceEq, Int.reduceNe, Int.reduceBEq, Int.reduceBNe, BitVec.reduceBEq, BitVec.reduceBNe, BitVec.reduceOfInt, BitVec.reduceSetWidth, -List.reduceReplicate]
  refine cndv_split (fun h => ?_) (fun h => ?_)
  · have h' : n < 16 := by have := of_decide_eq_true h; omega
    have wn : IntKind.i64.wrap ((n : Int) + 1) = ((n + 1 : Nat) : Int) := by rw [wrap_i64] <;> omega
    have w4 : IntKind.i64.wrap (4 * (n : Int)) = ((4 * n : Nat) : Int) := by rw [wrap_i64] <;> omega
    have hst : (wz b n).set n (wordB (b.drop (4 * n))) = wz b (n + 1) := by rw [← wz_set b n (by omega), wNext, if_pos h']
    have hl := wz_len b n (by omega)
    have hdl : (b.drop (4 * n)).length = b.length - 4 * n := List.length_drop
    have htk : (b.drop (4 * n)).take (b.length - 4 * n) = b.drop (4 * n) := by rw [← hdl]; exact List.take_length
    simp (maxSteps := 1000000) -implicitDefEqProofs only [go_sem, Nat.reduceBEq, Nat.reduceLT, Nat.reduceLeDiff, Nat.reduceEqDiff, Nat.reduceAdd, Nat.reduceMul, Nat.reduceSub, reduceIte, reduceCtorEq, Int.reduceLT, Int.reduceLE, Int.reduceToNat, Int.reduceAdd, Int.reduceSub, Int.reduceNeg, Int.reduceEq, Int.reduceNe, Int.reduceBEq, Int.reduceBNe, BitVec.reduceBEq, BitVec.reduceBNe, BitVec.reduceOfInt, BitVec.reduceSetWidth, -List.reduceReplicate, w4, htk]
    refine ⟨by omega, ?_⟩
    refine (wordOk (b.length - 4 * n) (b.drop (4 * n)) hdl (by omega)).flatv (by simp only [argsx, argx_int, argx_bool, argx_fn, argx_ro, argx_nils, eq_self, true_and, and_true, and_self]; try trivial) (fun _ => rfl) rfl ?_
    simp (maxSteps := 1000000) -implicitDefEqProofs only [go_sem, Nat.reduceBEq, Nat.reduceLT, Nat.reduceLeDiff, Nat.reduceEqDiff, Nat.reduceAdd, Nat.reduceMul, Nat.reduceSub, reduceIte, reduceCtorEq, Int.reduceLT, Int.reduceLE, Int.reduceToNat, Int.reduceAdd, Int.reduceSub, Int.reduceNeg, Int.reduceEq, Int.reduceNe, Int.reduceBEq, Int.reduceBNe, BitVec.reduceBEq, BitVec.reduceBNe, BitVec.reduceOfInt, BitVec.reduceSetWidth, -List.reduceReplicate, wn, hst, hl]
    refine ⟨by omega, by omega, UpK_normal h' (Le.sameT (by decide) (by simp only [-List.reduceReplicate, slotsSame, Eng.look, Nat.reduceEqDiff, reduceIte, reduceCtorEq, if_true, if_false, eq_self, true_and, and_true, Option.some.injEq, AV.int.injEq]; (try simp (disch := omega) only [wrap_i64]); (try simp [-List.reduceReplicate]); (try omega)) (by simp only [-List.reduceReplicate, memSame, Eng.look, Nat.reduceEqDiff, reduceIte, reduceCtorEq, if_true, if_false, eq_self, true_and, and_true, Option.some.injEq, AObj.cells.injEq, bvs_rep8, bvs_rep16, bvs_rep32, bvs_rep64, bvs_flat_rep, Nat.reduceMul, bvs_append, List.replicate_append_replicate, Nat.reduceAdd, bvs_inj]; try simp [-List.reduceReplicate]) (by simp [-List.reduceReplicate]))⟩
  · have h' : n = 16 := by have := of_decide_eq_false h; omega
    subst h'
    simp (maxSteps := 1000000) -implicitDefEqProofs only [go_sem, Nat.reduceBEq, Nat.reduceLT, Nat.reduceLeDiff, Nat.reduceEqDiff, Nat.reduceAdd, Nat.reduceMul, Nat.reduceSub, reduceIte, reduceCtorEq, Int.reduceLT, Int.reduceLE, Int.reduceToNat, Int.reduceAdd, Int.reduceSub, Int.reduceNeg, Int.reduceEq, Int.reduceNe, Int.reduceBEq, Int.reduceBNe, BitVec.reduceBEq, BitVec.reduceBNe, BitVec.reduceOfInt, BitVec.reduceSetWidth, -List.reduceReplicate]
    refine LoopOk.up 48 (fun n => ([(5, .int .i64 (16 + n : Nat)), (3, .ptr 1 0), (2, .ptr 0 0), (0, .ro b.length (bvs .u8 b))], [(1, .cells (bvs .u32 (wz b (16 + n))) 271), (0, .cells (bvs .u32 (List.replicate 64 (0 : BitVec 32))) 271)], 2)) (Le.sameT (by decide) (by simp only [-List.reduceReplicate, slotsSame, Eng.look, Nat.reduceEqDiff, reduceIte, reduceCtorEq, if_true, if_false, eq_self, true_and, and_true, Option.some.injEq, AV.int.injEq]; (try simp (disch := omega) only [wrap_i64]); (try simp [-List.reduceReplicate]); (try omega)) (by simp only [-List.reduceReplicate, memSame, Eng.look, Nat.reduceEqDiff, reduceIte, reduceCtorEq, if_true, if_false, eq_self, true_and, and_true, Option.some.injEq, AObj.cells.injEq, bvs_rep8, bvs_rep16, bvs_rep32, bvs_rep64, bvs_flat_rep, Nat.reduceMul, bvs_append, List.replicate_append_replicate, Nat.reduceAdd, bvs_inj]; try simp [-List.reduceReplicate]) (by simp [-List.reduceReplicate])) ?_
    intro k hk
    simp (maxSteps := 1000000) -implicitDefEqProofs only [go_sem, Nat.reduceBEq, Nat.reduceLT, Nat.reduceLeDiff, Nat.reduceEqDiff, Nat.reduceAdd, Nat.reduceMul, Nat.reduceSub, reduceIte, reduceCtorEq, Int.reduceLT, Int.reduceLE, Int.reduceToNat, Int.reduceAdd, Int.reduceSub, Int.reduceNeg, Int.reduceEq, Int.reduceNe, Int.reduceBEq, Int.reduceBNe, BitVec.reduceBEq, BitVec.reduceBNe, BitVec.reduceOfInt, BitVec.reduceSetWidth, -List.reduceReplicate]
    refine cndv_split (fun h => ?_) (fun h => ?_)
    · have h' : 16 + k < 64 := by have := of_decide_eq_true h; omega
      generalize hn : 16 + k = n at *
      have wn : IntKind.i64.wrap ((n : Int) + 1) = ((n + 1 : Nat) : Int) := by rw [wrap_i64] <;> omega
      have w15 : IntKind.i64.wrap ((n : Int) - 15) = ((n - 15 : Nat) : Int) := by rw [wrap_i64] <;> omega
      have w2 : IntKind.i64.wrap ((n : Int) - 2) = ((n - 2 : Nat) : Int) := by rw [wrap_i64] <;> omega
      have w16 : IntKind.i64.wrap ((n : Int) - 16) = ((n - 16 : Nat) : Int) := by rw [wrap_i64] <;> omega
      have w7 : IntKind.i64.wrap ((n : Int) - 7) = ((n - 7 : Nat) : Int) := by rw [wrap_i64] <;> omega
      have g15 := wz_get b n (n - 15) (by omega)
      have g2 := wz_get b n (n - 2) (by omega)
      have g16 := wz_get b n (n - 16) (by omega)
      have g7 := wz_get b n (n - 7) (by omega)
      have hl := wz_len b n (by omega)
      have hst := wz_set b n (by omega)
      rw [wNext, if_neg (by omega), s0W, s1W] at hst
      refine ⟨Fx.mixed, .inl ⟨[(0, false), (1, false), (2, false), (3, false), (4, false), (5, false), (6, false), (7, false), (8, false), (9, false)], [], by kernel_rfl, (fun n hn => by cases hn), ?_⟩⟩
      simp (maxSteps := 1000000) -implicitDefEqProofs only [go_sem, Nat.reduceBEq, Nat.reduceLT, Nat.reduceLeDiff, Nat.reduceEqDiff, Nat.reduceAdd, Nat.reduceMul, Nat.reduceSub, reduceIte, reduceCtorEq, Int.reduceLT, Int.reduceLE, Int.reduceToNat, Int.reduceAdd, Int.reduceSub, Int.reduceNeg, Int.reduceEq, Int.reduceNe, Int.reduceBEq, Int.reduceBNe, BitVec.reduceBEq, BitVec.reduceBNe, BitVec.reduceOfInt, BitVec.reduceSetWidth, -List.reduceReplicate, w15, w2, g15, g2, hl]
      refine ⟨by omega, by omega, by omega, by omega, ?_⟩
      refine ⟨Fx.mixed, .inr (.inl ⟨[(0, false), (1, false), (2, false), (3, false), (4, false), (5, false), (7, false), (10, false), (11, false), (14, false), (15, false), (16, false), (17, false), (19, false), (21, false), (24, false), (25, false), (6, true), (8, true), (9, false), (12, false), (13, false), (18, false), (20, true), (22, true), (23, false), (26, false), (27, false), (28, false), (29, true)], [1], [29], [4, 17], by kernel_rfl, by kernel_rfl, (fun n hn => by cases List.mem_singleton.1 hn; exact ⟨rfl, rfl⟩), ?_⟩)⟩
      simp (maxSteps := 1000000) -implicitDefEqProofs only [go_sem, Nat.reduceBEq, Nat.reduceLT, Nat.reduceLeDiff, Nat.reduceEqDiff, Nat.reduceAdd, Nat.reduceMul, Nat.reduceSub, reduceIte, reduceCtorEq, Int.reduceLT, Int.reduceLE, Int.reduceToNat, Int.reduceAdd, Int.reduceSub, Int.reduceNeg, Int.reduceEq, Int.reduceNe, Int.reduceBEq, Int.reduceBNe, BitVec.reduceBEq, BitVec.reduceBNe, BitVec.reduceOfInt, BitVec.reduceSetWidth, -List.reduceReplicate, w16, w7, g16, g7, hl]
      refine ⟨by omega, by omega, by omega, by omega, ?_⟩
      refine (rotOk _ 7 (by decide) (by decide)).flatv (by simp only [argsx, argx_int, argx_bool, argx_fn, argx_ro, argx_nils, eq_self, true_and, and_true, and_self]; try trivial) (fun _ => rfl) rfl ?_
      simp (maxSteps := 1000000) -implicitDefEqProofs only [go_sem, Nat.reduceBEq, Nat.reduceLT, Nat.reduceLeDiff, Nat.reduceEqDiff, Nat.reduceAdd, Nat.reduceMul, Nat.reduceSub, reduceIte, reduceCtorEq, Int.reduceLT, Int.reduceLE, Int.reduceToNat, Int.reduceAdd, Int.reduceSub, Int.reduceNeg, Int.reduceEq, Int.reduceNe, Int.reduceBEq, Int.reduceBNe, BitVec.reduceBEq, BitVec.reduceBNe, BitVec.reduceOfInt, BitVec.reduceSetWidth, -List.reduceReplicate]
      refine (rotOk _ 18 (by decide) (by decide)).flatv (by simp only [argsx, argx_int, argx_bool, argx_fn, argx_ro, argx_nils, eq_self, true_and, and_true, and_self]; try trivial) (fun _ => rfl) rfl ?_
      simp (maxSteps := 1000000) -implicitDefEqProofs only [go_sem, Nat.reduceBEq, Nat.reduceLT, Nat.reduceLeDiff, Nat.reduceEqDiff, Nat.reduceAdd, Nat.reduceMul, Nat.reduceSub, reduceIte, reduceCtorEq, Int.reduceLT, Int.reduceLE, Int.reduceToNat, Int.reduceAdd, Int.reduceSub, Int.reduceNeg, Int.reduceEq, Int.reduceNe, Int.reduceBEq, Int.reduceBNe, BitVec.reduceBEq, BitVec.reduceBNe, BitVec.reduceOfInt, BitVec.reduceSetWidth, -List.reduceReplicate]
      refine (rotOk _ 17 (by decide) (by decide)).flatv (by simp only [argsx, argx_int, argx_bool, argx_fn, argx_ro, argx_nils, eq_self, true_and, and_true, and_self]; try trivial) (fun _ => rfl) rfl ?_
      simp (maxSteps := 1000000) -implicitDefEqProofs only [go_sem, Nat.reduceBEq, Nat.reduceLT, Nat.reduceLeDiff, Nat.reduceEqDiff, Nat.reduceAdd, Nat.reduceMul, Nat.reduceSub, reduceIte, reduceCtorEq, Int.reduceLT, Int.reduceLE, Int.reduceToNat, Int.reduceAdd, Int.reduceSub, Int.reduceNeg, Int.reduceEq, Int.reduceNe, Int.reduceBEq, Int.reduceBNe, BitVec.reduceBEq, BitVec.reduceBNe, BitVec.reduceOfInt, BitVec.reduceSetWidth, -List.reduceReplicate]
      refine (rotOk _ 19 (by decide) (by decide)).flatv (by simp only [argsx, argx_int, argx_bool, argx_fn, argx_ro, argx_nils, eq_self, true_and, and_true, and_self]; try trivial) (fun _ => rfl) rfl ?_
      simp (maxSteps := 1000000) -implicitDefEqProofs only [go_sem, Nat.reduceBEq, Nat.reduceLT, Nat.reduceLeDiff, Nat.reduceEqDiff, Nat.reduceAdd, Nat.reduceMul, Nat.reduceSub, reduceIte, reduceCtorEq, Int.reduceLT, Int.reduceLE, Int.reduceToNat, Int.reduceAdd, Int.reduceSub, Int.reduceNeg, Int.reduceEq, Int.reduceNe, Int.reduceBEq, Int.reduceBNe, BitVec.reduceBEq, BitVec.reduceBNe, BitVec.reduceOfInt, BitVec.reduceSetWidth, -List.reduceReplicate, wn, hst, hl]
      refine ⟨by omega, by omega, ?_⟩
      refine UpK_normal (by omega) ?_
      rw [show 16 + (k + 1) = n + 1 by omega]
      exact (Le.sameT (by decide) (by simp only [-List.reduceReplicate, slotsSame, Eng.look, Nat.reduceEqDiff, reduceIte, reduceCtorEq, if_true, if_false, eq_self, true_and, and_true, Option.some.injEq, AV.int.injEq]; (try simp (disch := omega) only [wrap_i64]); (try simp [-List.reduceReplicate]); (try omega)) (by simp only [-List.reduceReplicate, memSame, Eng.look, Nat.reduceEqDiff, reduceIte, reduceCtorEq, if_true, if_false, eq_self, true_and, and_true, Option.some.injEq, AObj.cells.injEq, bvs_rep8, bvs_rep16, bvs_rep32, bvs_rep64, bvs_flat_rep, Nat.reduceMul, bvs_append, List.replicate_append_replicate, Nat.reduceAdd, bvs_inj]; try simp [-List.reduceReplicate]) (by simp [-List.reduceReplicate]))
    · have h' : k = 48 := by have := of_decide_eq_false h; omega
      subst h'
      have hl := wl_len b 64
      have htk : List.take 64 (wl b 64) = wl b 64 := List.take_of_length_le (by rw [hl]; exact Nat.le_refl _)
      simp (maxSteps := 1000000) -implicitDefEqProofs only [go_sem, Nat.reduceBEq, Nat.reduceLT, Nat.reduceLeDiff, Nat.reduceEqDiff, Nat.reduceAdd, Nat.reduceMul, Nat.reduceSub, reduceIte, reduceCtorEq, Int.reduceLT, Int.reduceLE, Int.reduceToNat, Int.reduceAdd, Int.reduceSub, Int.reduceNeg, Int.reduceEq, Int.reduceNe, Int.reduceBEq, Int.reduceBNe, BitVec.reduceBEq, BitVec.reduceBNe, BitVec.reduceOfInt, BitVec.reduceSetWidth, -List.reduceReplicate, wz_all, htk, hl]
      exact Fin.flatv (fun _ => rfl) (fun f => by simp only [renA, bvs_ren]) ⟨rfl, rfl, rfl⟩
end Go.Proofs.Ytmdeoikpiiambaa
/-! Shc -/
namespace Go.Proofs.Ytmdeoikpiiambaa
open Go Go.Eng
def beginL : List (BitVec 32) := [1779033703#32, 3144134277#32, 1013904242#32, 2773480762#32, 1359893119#32, 2600822924#32, 528734635#32, 1541459225#32]
def rootsL : List (BitVec 32) := [1116352408#32, 1899447441#32, 3049323471#32, 3921009573#32, 961987163#32, 1508970993#32, 2453635748#32, 2870763221#32, 3624381080#32, 310598401#32, 607225278#32, 1426881987#32, 1925078388#32, 2162078206#32, 2614888103#32, 3248222580#32, 3835390401#32, 4022224774#32, 264347078#32, 604807628#32, 770255983#32, 1249150122#32, 1555081692#32, 1996064986#32, 2554220882#32, 2821834349#32, 2952996808#32, 3210313671#32, 3336571891#32, 3584528711#32, 113926993#32, 338241895#32, 666307205#32, 773529912#32, 1294757372#32, 1396182291#32, 1695183700#32, 1986661051#32, 2177026350#32, 2456956037#32, 2730485921#32, 2820302411#32, 3259730800#32, 3345764771#32, 3516065817#32, 3600352804#32, 4094571909#32, 275423344#32, 430227734#32, 506948616#32, 659060556#32, 883997877#32, 958139571#32, 1322822218#32, 1537002063#32, 1747873779#32, 1955562222#32, 2024104815#32, 2227730452#32, 2361852424#32, 2428436474#32, 2756734187#32, 3204031479#32, 3329325298#32]
theorem beginSet : (((((((((bvs .u32 (List.replicate 8 (0 : BitVec 32))).set 0 (.int .u32 1779033703)).set 1 (.int .u32 3144134277)).set 2 (.int .u32 1013904242)).set 3 (.int .u32 2773480762)).set 4 (.int .u32 1359893119)).set 5 (.int .u32 2600822924)).set 6 (.int .u32 528734635)).set 7 (.int .u32 1541459225)) = bvs .u32 beginL := rfl
theorem beginOk : CallOk Try.prog 199 [] (fun _ => true) [] 0 fun v m nx => v = .agg (bvs .u32 beginL) ∧ m = [] ∧ nx = 0 := by
  refine fn_ok Try.func199 rfl (Nat.zero_le _) ?_
  have hl : beginL.length = 8 := rfl
  have ht : List.take 8 beginL = beginL := rfl
  simp (maxSteps := 1000000) -implicitDefEqProofs only [go_sem, Nat.reduceBEq, Nat.reduceLT, Nat.reduceLeDiff, Nat.reduceEqDiff, Nat.reduceAdd, Nat.reduceMul, Nat.reduceSub, reduceIte, reduceCtorEq, Int.reduceLT, Int.reduceLE, Int.reduceToNat, Int.reduceAdd, Int.reduceSub, Int.reduceNeg, Int.reduceEq, Int.reduceNe, Int.reduceBEq, Int.reduceBNe, BitVec.reduceBEq, BitVec.reduceBNe, BitVec.reduceOfInt, BitVec.reduceSetWidth, -List.reduceReplicate, Try.results199, Try.ntmps199, beginSet, hl, ht]
  exact Fin.flatv (fun _ => rfl) (fun f => by simp only [renA, bvs_ren]) ⟨rfl, rfl, rfl⟩
theorem rootsSet : (((((((((((((((((((((((((((((((((((((((((((((((((((((((((((((((((bvs .u32 (List.replicate 64 (0 : BitVec 32))).set 0 (.int .u32 1116352408)).set 1 (.int .u32 1899447441)).set 2 (.int .u32 3049323471)).set 3 (.int .u32 3921009573)).set 4 (.int .u32 961987163)).set 5 (.int .u32 1508970993)).set 6 (.int .u32 2453635748)).set 7 (.int .u32 2870763221)).set 8 (.int .u32 3624381080)).set 9 (.int .u32 310598401)).set 10 (.int .u32 607225278)).set 11 (.int .u32 1426881987)).set 12 (.int .u32 1925078388)).set 13 (.int .u32 2162078206)).set 14 (.int .u32 2614888103)).set 15 (.int .u32 3248222580)).set 16 (.int .u32 3835390401)).set 17 (.int .u32 4022224774)).set 18 (.int .u32 264347078)).set 19 (.int .u32 604807628)).set 20 (.int .u32 770255983)).set 21 (.int .u32 1249150122)).set 22 (.int .u32 1555081692)).set 23 (.int .u32 1996064986)).set 24 (.int .u32 2554220882)).set 25 (.int .u32 2821834349)).set 26 (.int .u32 2952996808)).set 27 (.int .u32 3210313671)).set 28 (.int .u32 3336571891)).set 29 (.int .u32 3584528711)).set 30 (.int .u32 113926993)).set 31 (.int .u32 338241895)).set 32 (.int .u32 666307205)).set 33 (.int .u32 773529912)).set 34 (.int .u32 1294757372)).set 35 (.int .u32 1396182291)).set 36 (.int .u32 1695183700)).set 37 (.int .u32 1986661051)).set 38 (.int .u32 2177026350)).set 39 (.int .u32 2456956037)).set 40 (.int .u32 2730485921)).set 41 (.int .u32 2820302411)).set 42 (.int .u32 3259730800)).set 43 (.int .u32 3345764771)).set 44 (.int .u32 3516065817)).set 45 (.int .u32 3600352804)).set 46 (.int .u32 4094571909)).set 47 (.int .u32 275423344)).set 48 (.int .u32 430227734)).set 49 (.int .u32 506948616)).set 50 (.int .u32 659060556)).set 51 (.int .u32 883997877)).set 52 (.int .u32 958139571)).set 53 (.int .u32 1322822218)).set 54 (.int .u32 1537002063)).set 55 (.int .u32 1747873779)).set 56 (.int .u32 1955562222)).set 57 (.int .u32 2024104815)).set 58 (.int .u32 2227730452)).set 59 (.int .u32 2361852424)).set 60 (.int .u32 2428436474)).set 61 (.int .u32 2756734187)).set 62 (.int .u32 3204031479)).set 63 (.int .u32 3329325298)) = bvs .u32 rootsL := rfl
theorem rootsOk : CallOk Try.prog 207 [] (fun _ => true) [] 0 fun v m nx => v = .agg (bvs .u32 rootsL) ∧ m = [] ∧ nx = 0 := by
  refine fn_ok Try.func207 rfl (Nat.zero_le _) ?_
  have hl : rootsL.length = 64 := rfl
  have ht : List.take 64 rootsL = rootsL := rfl
  simp (maxSteps := 1000000) -implicitDefEqProofs only [go_sem, Nat.reduceBEq, Nat.reduceLT, Nat.reduceLeDiff, Nat.reduceEqDiff, Nat.reduceAdd, Nat.reduceMul, Nat.reduceSub, reduceIte, reduceCtorEq, Int.reduceLT, Int.reduceLE, Int.reduceToNat, Int.reduceAdd, Int.reduceSub, Int.reduceNeg, Int.reduceEq, Int.reduceNe, Int.reduceBEq, Int.reduceBNe, BitVec.reduceBEq, BitVec.reduceBNe, BitVec.reduceOfInt, BitVec.reduceSetWidth, -List.reduceReplicate, Try.results207, Try.ntmps207, rootsSet, hl, ht]
  exact Fin.flatv (fun _ => rfl) (fun f => by simp only [renA, bvs_ren]) ⟨rfl, rfl, rfl⟩
def tW (v : List (BitVec 32)) (k w : BitVec 32) : BitVec 32 := v.getD 7 0 + (rotR (v.getD 4 0) 6 ^^^ rotR (v.getD 4 0) 11 ^^^ rotR (v.getD 4 0) 25) + (v.getD 4 0 &&& v.getD 5 0 ^^^ ~~~ v.getD 4 0 &&& v.getD 6 0) + k + w
def uW (v : List (BitVec 32)) : BitVec 32 := (rotR (v.getD 0 0) 2 ^^^ rotR (v.getD 0 0) 13 ^^^ rotR (v.getD 0 0) 22) + (v.getD 0 0 &&& v.getD 1 0 ^^^ v.getD 0 0 &&& v.getD 2 0 ^^^ v.getD 1 0 &&& v.getD 2 0)
def roundW (v : List (BitVec 32)) (k w : BitVec 32) : List (BitVec 32) := [tW v k w + uW v, v.getD 0 0, v.getD 1 0, v.getD 2 0, v.getD 3 0 + tW v k w, v.getD 4 0, v.getD 5 0, v.getD 6 0]
def rds (w v : List (BitVec 32)) : Nat → List (BitVec 32)
  | 0 => v
  | n + 1 => roundW (rds w v n) (rootsL.getD n 0) (w.getD n 0)
theorem rds_len (w v : List (BitVec 32)) (hv : v.length = 8) (n : Nat) : (rds w v n).length = 8 := by
  cases n with
  | zero => exact hv
  | succ n => rfl
def addN (W v : List (BitVec 32)) : Nat → List (BitVec 32)
  | 0 => W
  | n + 1 => (addN W v n).set n ((addN W v n).getD n 0 + v.getD n 0)
theorem addN_len (W v : List (BitVec 32)) (n : Nat) : (addN W v n).length = W.length := by
  induction n with
  | zero => rfl
  | succ n ih => simp [addN, ih]
def blockW (W : List (BitVec 32)) (b : List (BitVec 8)) : List (BitVec 32) := addN W (rds (wl b 64) W 64) 8
theorem blockW_len (W : List (BitVec 32)) (b : List (BitVec 8)) : (blockW W b).length = W.length := addN_len _ _ _
theorem takeB (k : IntKind) {w : Nat} (n : Nat) (x : List (BitVec w)) (hx : x.length = n) (y : List AV) : List.take n (bvs k x ++ y) = bvs k x := by
  rw [← hx, List.take_append_of_le_length (by rw [bvs_length]; exact Nat.le_refl _), bvs_take, List.take_length]
theorem bvsS_getD (k : IntKind) {w : Nat} (L : List (BitVec w)) (S : List AV) (i : Nat) (hi : i < L.length) : (bvs k L ++ S).getD i (.int k 0) = .int k ((L.getD i 0).toNat : Int) := by
  rw [← bvs_getD]
  simp only [List.getD_eq_getElem?_getD]
  rw [List.getElem?_append_left (by rw [bvs_length]; exact hi)]
theorem bvsS_set (k : IntKind) {w : Nat} (L : List (BitVec w)) (S : List AV) (i : Nat) (hi : i < L.length) (x : BitVec w) : (bvs k L ++ S).set i (.int k (x.toNat : Int)) = bvs k (L.set i x) ++ S := by
  rw [List.set_append_left _ _ (by rw [bvs_length]; exact hi), bvs_set]
theorem set8 (a b c d e f g h : BitVec 32) : ((((((((List.replicate 8 (0 : BitVec 32)).set 0 a).set 1 b).set 2 c).set 3 d).set 4 e).set 5 f).set 6 g).set 7 h = [a, b, c, d, e, f, g, h] := rfl
set_option maxHeartbeats 400000 in
theorem blockOk (W : List (BitVec 32)) (hW : W.length = 8) (us : List Value) (hus : us.length = 2) (b : List (BitVec 8)) (h64 : 64 ≤ b.length) (hb : b.length ≤ 1000000) :
    CallOk Try.prog 200 [.ptr 0 0, .ro b.length (bvs .u8 b)] (fun _ => true) [(0, .cells (bvs .u32 W ++ us.map AV.val) 262)] 1
      fun v m nx => v = .tup [] ∧ m = [(0, .cells (bvs .u32 (blockW W b) ++ us.map AV.val) 262)] ∧ nx = 1 := by
  refine fn_ok Try.func200 rfl (by show 2 ≤ _; decide) ?_
  simp (maxSteps := 1000000) -implicitDefEqProofs only [go_sem, Nat.reduceBEq, Nat.reduceLT, Nat.reduceLeDiff, Nat.reduceEqDiff, Nat.reduceAdd, Nat.reduceMul, Nat.reduceSub, reduceIte, reduceCtorEq, Int.reduceLT, Int.reduceLE, Int.reduceToNat, Int.reduceAdd, Int.reduceSub, Int.reduceNeg, Int.reduceEq, Int.reduceNe, Int.reduceBEq, Int.reduceBNe, BitVec.reduceBEq, BitVec.reduceBNe, BitVec.reduceOfInt, BitVec.reduceSetWidth, -List.reduceReplicate, Try.results200, Try.ntmps200]
  refine (spreadOk b h64 hb).flatv (by simp only [argsx, argx_int, argx_bool, argx_fn, argx_ro, argx_nils, eq_self, true_and, and_true, and_self]; try trivial) (fun f => by simp only [renA, bvs_ren]) (by simp only [noRo, bvs_noRo]) ?_
  simp (maxSteps := 1000000) -implicitDefEqProofs only [go_sem, Nat.reduceBEq, Nat.reduceLT, Nat.reduceLeDiff, Nat.reduceEqDiff, Nat.reduceAdd, Nat.reduceMul, Nat.reduceSub, reduceIte, reduceCtorEq, Int.reduceLT, Int.reduceLE, Int.reduceToNat, Int.reduceAdd, Int.reduceSub, Int.reduceNeg, Int.reduceEq, Int.reduceNe, Int.reduceBEq, Int.reduceBNe, BitVec.reduceBEq, BitVec.reduceBNe, BitVec.reduceOfInt, BitVec.reduceSetWidth, -List.reduceReplicate]
  refine rootsOk.flatv (by simp only [argsx, argx_int, argx_bool, argx_fn, argx_ro, argx_nils, eq_self, true_and, and_true, and_self]; try trivial) (fun f => by simp only [renA, bvs_ren]) (by simp only [noRo, bvs_noRo]) ?_
  have hwl := wl_len b 64
  have hrl : rootsL.length = 64 := rfl
  have ht := takeB .u32 8 W hW (us.map AV.val)
  simp (maxSteps := 1000000) -implicitDefEqProofs only [go_sem, Nat.reduceBEq, Nat.reduceLT, Nat.reduceLeDiff, Nat.reduceEqDiff, Nat.reduceAdd, Nat.reduceMul, Nat.reduceSub, reduceIte, reduceCtorEq, Int.reduceLT, Int.reduceLE, Int.reduceToNat, Int.reduceAdd, Int.reduceSub, Int.reduceNeg, Int.reduceEq, Int.reduceNe, Int.reduceBEq, Int.reduceBNe, BitVec.reduceBEq, BitVec.reduceBNe, BitVec.reduceOfInt, BitVec.reduceSetWidth, -List.reduceReplicate, hwl, hrl, ht, hW]
  refine ⟨by omega, ?_⟩
  have hbw0 : blockW W b = addN W (rds (wl b 64) W 64) 8 := rfl
  generalize wl b 64 = Wd at *
  refine LoopOk.up 64 (fun n => ([(21, .int .i64 n), (0, .ptr 0 0), (6, .ptr 3 0), (5, .ptr 2 0), (4, .ptr 1 0)], [(3, .cells (bvs .u32 (rds Wd W n)) 259), (2, .cells (bvs .u32 rootsL) 271), (1, .cells (bvs .u32 Wd) 271), (0, .cells (bvs .u32 W ++ us.map AV.val) 262)], 4)) (Le.sameT (by decide) (by simp only [-List.reduceReplicate, slotsSame, Eng.look, Nat.reduceEqDiff, rds, reduceIte, reduceCtorEq, if_true, if_false, eq_self, true_and, and_true, Option.some.injEq, AV.int.injEq]; (try simp (disch := omega) only [wrap_i64]); (try simp [-List.reduceReplicate]); (try omega)) (by simp only [-List.reduceReplicate, memSame, Eng.look, Nat.reduceEqDiff, rds, reduceIte, reduceCtorEq, if_true, if_false, eq_self, true_and, and_true, Option.some.injEq, AObj.cells.injEq, bvs_rep8, bvs_rep16, bvs_rep32, bvs_rep64, bvs_flat_rep, Nat.reduceMul, bvs_append, List.replicate_append_replicate, Nat.reduceAdd, bvs_inj]; try simp [-List.reduceReplicate]) (by simp [-List.reduceReplicate])) ?_
  intro n hn
  simp (maxSteps := 1000000) -implicitDefEqProofs only [go_sem, Nat.reduceBEq, Nat.reduceLT, Nat.reduceLeDiff, Nat.reduceEqDiff, Nat.reduceAdd, Nat.reduceMul, Nat.reduceSub, reduceIte, reduceCtorEq, Int.reduceLT, Int.reduceLE, Int.reduceToNat, Int.reduceAdd, Int.reduceSub, Int.reduceNeg, Int.reduceEq, Int.reduceNe, Int.reduceBEq, Int.reduceBNe, BitVec.reduceBEq, BitVec.reduceBNe, BitVec.reduceOfInt, BitVec.reduceSetWidth, -List.reduceReplicate]
  refine cndv_split (fun h => ?_) (fun h => ?_)
  · have h' : n < 64 := by have := of_decide_eq_true h; omega
    have wn : IntKind.i64.wrap ((n : Int) + 1) = ((n + 1 : Nat) : Int) := by rw [wrap_i64] <;> omega
    have hV := rds_len Wd W hW n
    have hnext : rds Wd W (n + 1) = roundW (rds Wd W n) (rootsL.getD n 0) (Wd.getD n 0) := rfl
    generalize rds Wd W n = V at *
    simp (maxSteps := 1000000) -implicitDefEqProofs only [go_sem, Nat.reduceBEq, Nat.reduceLT, Nat.reduceLeDiff, Nat.reduceEqDiff, Nat.reduceAdd, Nat.reduceMul, Nat.reduceSub, reduceIte, reduceCtorEq, Int.reduceLT, Int.reduceLE, Int.reduceToNat, Int.reduceAdd, Int.reduceSub, Int.reduceNeg, Int.reduceEq, Int.reduceNe, Int.reduceBEq, Int.reduceBNe, BitVec.reduceBEq, BitVec.reduceBNe, BitVec.reduceOfInt, BitVec.reduceSetWidth, -List.reduceReplicate]
    refine ⟨Fx.mixed, .inl ⟨[(0, false), (1, false), (2, false), (3, false), (4, false), (5, false)], [], by kernel_rfl, (fun n hn => by cases hn), ?_⟩⟩
    simp (maxSteps := 1000000) -implicitDefEqProofs only [go_sem, Nat.reduceBEq, Nat.reduceLT, Nat.reduceLeDiff, Nat.reduceEqDiff, Nat.reduceAdd, Nat.reduceMul, Nat.reduceSub, reduceIte, reduceCtorEq, Int.reduceLT, Int.reduceLE, Int.reduceToNat, Int.reduceAdd, Int.reduceSub, Int.reduceNeg, Int.reduceEq, Int.reduceNe, Int.reduceBEq, Int.reduceBNe, BitVec.reduceBEq, BitVec.reduceBNe, BitVec.reduceOfInt, BitVec.reduceSetWidth, -List.reduceReplicate, hV]
    refine ⟨Fx.mixed, .inl ⟨[(0, false), (1, false), (2, false), (4, false), (7, false), (11, false), (12, false), (13, false), (14, false), (15, false), (16, false), (17, false), (18, false), (19, false), (20, false), (22, false), (23, false), (24, false), (26, false), (27, false), (28, false), (3, true), (5, true), (6, false), (8, true), (9, false), (10, false), (21, false), (25, false), (29, false), (30, false)], [], by kernel_rfl, (fun n hn => by cases hn), ?_⟩⟩
    simp (maxSteps := 1000000) -implicitDefEqProofs only [go_sem, Nat.reduceBEq, Nat.reduceLT, Nat.reduceLeDiff, Nat.reduceEqDiff, Nat.reduceAdd, Nat.reduceMul, Nat.reduceSub, reduceIte, reduceCtorEq, Int.reduceLT, Int.reduceLE, Int.reduceToNat, Int.reduceAdd, Int.reduceSub, Int.reduceNeg, Int.reduceEq, Int.reduceNe, Int.reduceBEq, Int.reduceBNe, BitVec.reduceBEq, BitVec.reduceBNe, BitVec.reduceOfInt, BitVec.reduceSetWidth, -List.reduceReplicate, hV, hrl, hwl]
    refine ⟨by omega, h', by omega, h', ?_⟩
    refine (rotOk (V.getD 4 0) 6 (by decide) (by decide)).flatv (by simp only [argsx, argx_int, argx_bool, argx_fn, argx_ro, argx_nils, eq_self, true_and, and_true, and_self]; try trivial) (fun _ => rfl) rfl ?_
    simp (maxSteps := 1000000) -implicitDefEqProofs only [go_sem, Nat.reduceBEq, Nat.reduceLT, Nat.reduceLeDiff, Nat.reduceEqDiff, Nat.reduceAdd, Nat.reduceMul, Nat.reduceSub, reduceIte, reduceCtorEq, Int.reduceLT, Int.reduceLE, Int.reduceToNat, Int.reduceAdd, Int.reduceSub, Int.reduceNeg, Int.reduceEq, Int.reduceNe, Int.reduceBEq, Int.reduceBNe, BitVec.reduceBEq, BitVec.reduceBNe, BitVec.reduceOfInt, BitVec.reduceSetWidth, -List.reduceReplicate]
    refine (rotOk (V.getD 4 0) 11 (by decide) (by decide)).flatv (by simp only [argsx, argx_int, argx_bool, argx_fn, argx_ro, argx_nils, eq_self, true_and, and_true, and_self]; try trivial) (fun _ => rfl) rfl ?_
    simp (maxSteps := 1000000) -implicitDefEqProofs only [go_sem, Nat.reduceBEq, Nat.reduceLT, Nat.reduceLeDiff, Nat.reduceEqDiff, Nat.reduceAdd, Nat.reduceMul, Nat.reduceSub, reduceIte, reduceCtorEq, Int.reduceLT, Int.reduceLE, Int.reduceToNat, Int.reduceAdd, Int.reduceSub, Int.reduceNeg, Int.reduceEq, Int.reduceNe, Int.reduceBEq, Int.reduceBNe, BitVec.reduceBEq, BitVec.reduceBNe, BitVec.reduceOfInt, BitVec.reduceSetWidth, -List.reduceReplicate]
    refine (rotOk (V.getD 4 0) 25 (by decide) (by decide)).flatv (by simp only [argsx, argx_int, argx_bool, argx_fn, argx_ro, argx_nils, eq_self, true_and, and_true, and_self]; try trivial) (fun _ => rfl) rfl ?_
    simp (maxSteps := 1000000) -implicitDefEqProofs only [go_sem, Nat.reduceBEq, Nat.reduceLT, Nat.reduceLeDiff, Nat.reduceEqDiff, Nat.reduceAdd, Nat.reduceMul, Nat.reduceSub, reduceIte, reduceCtorEq, Int.reduceLT, Int.reduceLE, Int.reduceToNat, Int.reduceAdd, Int.reduceSub, Int.reduceNeg, Int.reduceEq, Int.reduceNe, Int.reduceBEq, Int.reduceBNe, BitVec.reduceBEq, BitVec.reduceBNe, BitVec.reduceOfInt, BitVec.reduceSetWidth, -List.reduceReplicate]
    refine ⟨Fx.mixed, .inl ⟨[(0, false), (2, false), (5, false), (8, false), (9, false), (10, false), (11, false), (12, false), (13, false), (14, false), (15, false), (16, false), (17, false), (18, false), (19, false), (20, false), (21, false), (22, false), (1, true), (3, true), (4, false), (6, true), (7, false), (23, false), (24, false)], [], by kernel_rfl, (fun n hn => by cases hn), ?_⟩⟩
    simp (maxSteps := 1000000) -implicitDefEqProofs only [go_sem, Nat.reduceBEq, Nat.reduceLT, Nat.reduceLeDiff, Nat.reduceEqDiff, Nat.reduceAdd, Nat.reduceMul, Nat.reduceSub, reduceIte, reduceCtorEq, Int.reduceLT, Int.reduceLE, Int.reduceToNat, Int.reduceAdd, Int.reduceSub, Int.reduceNeg, Int.reduceEq, Int.reduceNe, Int.reduceBEq, Int.reduceBNe, BitVec.reduceBEq, BitVec.reduceBNe, BitVec.reduceOfInt, BitVec.reduceSetWidth, -List.reduceReplicate, hV]
    refine (rotOk (V.getD 0 0) 2 (by decide) (by decide)).flatv (by simp only [argsx, argx_int, argx_bool, argx_fn, argx_ro, argx_nils, eq_self, true_and, and_true, and_self]; try trivial) (fun _ => rfl) rfl ?_
    simp (maxSteps := 1000000) -implicitDefEqProofs only [go_sem, Nat.reduceBEq, Nat.reduceLT, Nat.reduceLeDiff, Nat.reduceEqDiff, Nat.reduceAdd, Nat.reduceMul, Nat.reduceSub, reduceIte, reduceCtorEq, Int.reduceLT, Int.reduceLE, Int.reduceToNat, Int.reduceAdd, Int.reduceSub, Int.reduceNeg, Int.reduceEq, Int.reduceNe, Int.reduceBEq, Int.reduceBNe, BitVec.reduceBEq, BitVec.reduceBNe, BitVec.reduceOfInt, BitVec.reduceSetWidth, -List.reduceReplicate]
    refine (rotOk (V.getD 0 0) 13 (by decide) (by decide)).flatv (by simp only [argsx, argx_int, argx_bool, argx_fn, argx_ro, argx_nils, eq_self, true_and, and_true, and_self]; try trivial) (fun _ => rfl) rfl ?_
    simp (maxSteps := 1000000) -implicitDefEqProofs only [go_sem, Nat.reduceBEq, Nat.reduceLT, Nat.reduceLeDiff, Nat.reduceEqDiff, Nat.reduceAdd, Nat.reduceMul, Nat.reduceSub, reduceIte, reduceCtorEq, Int.reduceLT, Int.reduceLE, Int.reduceToNat, Int.reduceAdd, Int.reduceSub, Int.reduceNeg, Int.reduceEq, Int.reduceNe, Int.reduceBEq, Int.reduceBNe, BitVec.reduceBEq, BitVec.reduceBNe, BitVec.reduceOfInt, BitVec.reduceSetWidth, -List.reduceReplicate]
    refine (rotOk (V.getD 0 0) 22 (by decide) (by decide)).flatv (by simp only [argsx, argx_int, argx_bool, argx_fn, argx_ro, argx_nils, eq_self, true_and, and_true, and_self]; try trivial) (fun _ => rfl) rfl ?_
    simp (maxSteps := 1000000) -implicitDefEqProofs only [go_sem, Nat.reduceBEq, Nat.reduceLT, Nat.reduceLeDiff, Nat.reduceEqDiff, Nat.reduceAdd, Nat.reduceMul, Nat.reduceSub, reduceIte, reduceCtorEq, Int.reduceLT, Int.reduceLE, Int.reduceToNat, Int.reduceAdd, Int.reduceSub, Int.reduceNeg, Int.reduceEq, Int.reduceNe, Int.reduceBEq, Int.reduceBNe, BitVec.reduceBEq, BitVec.reduceBNe, BitVec.reduceOfInt, BitVec.reduceSetWidth, -List.reduceReplicate, hV, wn]
    refine UpK_normal h' ?_
    rw [hnext]
    have hdr : List.drop 8 V = [] := List.drop_eq_nil_of_le (by rw [hV]; exact Nat.le_refl _)
    exact (Le.sameT (by decide) (by simp only [-List.reduceReplicate, slotsSame, Eng.look, Nat.reduceEqDiff, set8, hdr, List.append_nil, roundW, tW, uW, reduceIte, reduceCtorEq, if_true, if_false, eq_self, true_and, and_true, Option.some.injEq, AV.int.injEq]; (try simp (disch := omega) only [wrap_i64]); (try simp [-List.reduceReplicate]); (try omega)) (by simp only [-List.reduceReplicate, memSame, Eng.look, Nat.reduceEqDiff, set8, hdr, List.append_nil, roundW, tW, uW, reduceIte, reduceCtorEq, if_true, if_false, eq_self, true_and, and_true, Option.some.injEq, AObj.cells.injEq, bvs_rep8, bvs_rep16, bvs_rep32, bvs_rep64, bvs_flat_rep, Nat.reduceMul, bvs_append, List.replicate_append_replicate, Nat.reduceAdd, bvs_inj]; try simp [-List.reduceReplicate]) (by simp [-List.reduceReplicate]))
  · have h' : n = 64 := by have := of_decide_eq_false h; omega
    subst h'
    have hV := rds_len Wd W hW 64
    generalize rds Wd W 64 = V at *
    have htV : List.take 8 V = V := List.take_of_length_le (by rw [hV]; exact Nat.le_refl _)
    simp (maxSteps := 1000000) -implicitDefEqProofs only [go_sem, Nat.reduceBEq, Nat.reduceLT, Nat.reduceLeDiff, Nat.reduceEqDiff, Nat.reduceAdd, Nat.reduceMul, Nat.reduceSub, reduceIte, reduceCtorEq, Int.reduceLT, Int.reduceLE, Int.reduceToNat, Int.reduceAdd, Int.reduceSub, Int.reduceNeg, Int.reduceEq, Int.reduceNe, Int.reduceBEq, Int.reduceBNe, BitVec.reduceBEq, BitVec.reduceBNe, BitVec.reduceOfInt, BitVec.reduceSetWidth, -List.reduceReplicate, hV, htV]
    refine LoopOk.up 8 (fun n => ([(102, .int .i64 n), (101, .agg (bvs .u32 V)), (0, .ptr 0 0)], [(0, .cells (bvs .u32 (addN W V n) ++ us.map AV.val) 262)], 4)) (Le.sameT (by decide) (by simp only [-List.reduceReplicate, slotsSame, Eng.look, Nat.reduceEqDiff, addN, reduceIte, reduceCtorEq, if_true, if_false, eq_self, true_and, and_true, Option.some.injEq, AV.int.injEq]; (try simp (disch := omega) only [wrap_i64]); (try simp [-List.reduceReplicate]); (try omega)) (by simp only [-List.reduceReplicate, memSame, Eng.look, Nat.reduceEqDiff, addN, reduceIte, reduceCtorEq, if_true, if_false, eq_self, true_and, and_true, Option.some.injEq, AObj.cells.injEq, bvs_rep8, bvs_rep16, bvs_rep32, bvs_rep64, bvs_flat_rep, Nat.reduceMul, bvs_append, List.replicate_append_replicate, Nat.reduceAdd, bvs_inj]; try simp [-List.reduceReplicate]) (by simp [-List.reduceReplicate])) ?_
    intro n hn
    simp (maxSteps := 1000000) -implicitDefEqProofs only [go_sem, Nat.reduceBEq, Nat.reduceLT, Nat.reduceLeDiff, Nat.reduceEqDiff, Nat.reduceAdd, Nat.reduceMul, Nat.reduceSub, reduceIte, reduceCtorEq, Int.reduceLT, Int.reduceLE, Int.reduceToNat, Int.reduceAdd, Int.reduceSub, Int.reduceNeg, Int.reduceEq, Int.reduceNe, Int.reduceBEq, Int.reduceBNe, BitVec.reduceBEq, BitVec.reduceBNe, BitVec.reduceOfInt, BitVec.reduceSetWidth, -List.reduceReplicate]
    refine cndv_split (fun h => ?_) (fun h => ?_)
    · have h' : n < 8 := by have := of_decide_eq_true h; omega
      have wn : IntKind.i64.wrap ((n : Int) + 1) = ((n + 1 : Nat) : Int) := by rw [wrap_i64] <;> omega
      have hal := addN_len W V n
      have hgd := bvsS_getD .u32 (addN W V n) (us.map AV.val) n (by omega)
      have hst := bvsS_set .u32 (addN W V n) (us.map AV.val) n (by omega) ((addN W V n).getD n 0 + V.getD n 0)
      simp (maxSteps := 1000000) -implicitDefEqProofs only [go_sem, Nat.reduceBEq, Nat.reduceLT, Nat.reduceLeDiff, Nat.reduceEqDiff, Nat.reduceAdd, Nat.reduceMul, Nat.reduceSub, reduceIte, reduceCtorEq, Int.reduceLT, Int.reduceLE, Int.reduceToNat, Int.reduceAdd, Int.reduceSub, Int.reduceNeg, Int.reduceEq, Int.reduceNe, Int.reduceBEq, Int.reduceBNe, BitVec.reduceBEq, BitVec.reduceBNe, BitVec.reduceOfInt, BitVec.reduceSetWidth, -List.reduceReplicate, hV]
      refine ⟨by omega, by omega, ?_⟩
      refine ⟨Fx.mixed, .inl ⟨[(0, false), (1, false), (2, false), (3, false), (4, false), (6, false), (8, false), (9, false), (5, true), (7, false), (10, false), (11, true)], [0], by kernel_rfl, (fun n hn => by cases List.mem_singleton.1 hn; exact ⟨rfl, rfl⟩), ?_⟩⟩
      simp (maxSteps := 1000000) -implicitDefEqProofs only [go_sem, Nat.reduceBEq, Nat.reduceLT, Nat.reduceLeDiff, Nat.reduceEqDiff, Nat.reduceAdd, Nat.reduceMul, Nat.reduceSub, reduceIte, reduceCtorEq, Int.reduceLT, Int.reduceLE, Int.reduceToNat, Int.reduceAdd, Int.reduceSub, Int.reduceNeg, Int.reduceEq, Int.reduceNe, Int.reduceBEq, Int.reduceBNe, BitVec.reduceBEq, BitVec.reduceBNe, BitVec.reduceOfInt, BitVec.reduceSetWidth, -List.reduceReplicate, hgd, hst, wn, hal, hus, hW, List.length_append]
      exact ⟨by omega, by omega, by omega, by omega, UpK_normal h' (Le.sameT (by decide) (by simp only [-List.reduceReplicate, slotsSame, Eng.look, Nat.reduceEqDiff, addN, reduceIte, reduceCtorEq, if_true, if_false, eq_self, true_and, and_true, Option.some.injEq, AV.int.injEq]; (try simp (disch := omega) only [wrap_i64]); (try simp [-List.reduceReplicate]); (try omega)) (by simp only [-List.reduceReplicate, memSame, Eng.look, Nat.reduceEqDiff, addN, reduceIte, reduceCtorEq, if_true, if_false, eq_self, true_and, and_true, Option.some.injEq, AObj.cells.injEq, bvs_rep8, bvs_rep16, bvs_rep32, bvs_rep64, bvs_flat_rep, Nat.reduceMul, bvs_append, List.replicate_append_replicate, Nat.reduceAdd, bvs_inj]; try simp [-List.reduceReplicate]) (by simp [-List.reduceReplicate]))⟩
    · have h' : n = 8 := by have := of_decide_eq_false h; omega
      subst h'
      simp (maxSteps := 1000000) -implicitDefEqProofs only [go_sem, Nat.reduceBEq, Nat.reduceLT, Nat.reduceLeDiff, Nat.reduceEqDiff, Nat.reduceAdd, Nat.reduceMul, Nat.reduceSub, reduceIte, reduceCtorEq, Int.reduceLT, Int.reduceLE, Int.reduceToNat, Int.reduceAdd, Int.reduceSub, Int.reduceNeg, Int.reduceEq, Int.reduceNe, Int.reduceBEq, Int.reduceBNe, BitVec.reduceBEq, BitVec.reduceBNe, BitVec.reduceOfInt, BitVec.reduceSetWidth, -List.reduceReplicate]
      rw [hbw0]
      refine ⟨[], .tup [], [(0, .cells (bvs .u32 (addN W V 8) ++ us.map AV.val) 262)], 1, ⟨rfl, by decide⟩, rfl, ⟨by simp only [renO, renL_append, bvs_ren, renL_vals]; rfl, rfl, trivial⟩, by simp [injOn], (fun n e => by cases e), rfl, rfl, rfl⟩
end Go.Proofs.Ytmdeoikpiiambaa
/-! Shd -/
namespace Go.Proofs.Ytmdeoikpiiambaa
open Go Go.Eng
theorem tail8 (W : List (BitVec 32)) (hW : W.length = 8) (x y : AV) : (bvs .u32 W ++ [x, y]).getD 8 .nils = x := by
  simp only [List.getD_eq_getElem?_getD]
  rw [List.getElem?_append_right (by rw [bvs_length, hW]; exact Nat.le_refl _), bvs_length, hW]
  rfl
theorem tail9 (W : List (BitVec 32)) (hW : W.length = 8) (x y : AV) : (bvs .u32 W ++ [x, y]).getD 9 (.int .u64 0) = y := by
  simp only [List.getD_eq_getElem?_getD]
  rw [List.getElem?_append_right (by rw [bvs_length, hW]; decide), bvs_length, hW]
  rfl
theorem set8' (W : List (BitVec 32)) (hW : W.length = 8) (x y z : AV) : (bvs .u32 W ++ [x, y]).set 8 z = bvs .u32 W ++ [z, y] := by
  rw [List.set_append_right _ _ (by rw [bvs_length, hW]; exact Nat.le_refl _), bvs_length, hW]
  rfl
theorem set9 (W : List (BitVec 32)) (hW : W.length = 8) (x y z : AV) : (bvs .u32 W ++ [x, y]).set 9 z = bvs .u32 W ++ [x, z] := by
  rw [List.set_append_right _ _ (by rw [bvs_length, hW]; decide), bvs_length, hW]
  rfl
def bl (W : List (BitVec 32)) (b : List (BitVec 8)) : Nat → List (BitVec 32)
  | 0 => W
  | n + 1 => blockW (bl W b n) (b.drop (64 * n))
theorem bl_len (W : List (BitVec 32)) (b : List (BitVec 8)) (n : Nat) : (bl W b n).length = W.length := by
  induction n with
  | zero => rfl
  | succ n ih => rw [bl, blockW_len, ih]
theorem newOk : CallOk Try.prog 176 [] (fun _ => true) [] 0 fun v m nx => v = .ptr 0 0 ∧ m = [(0, .cells (bvs .u32 beginL ++ [.nils, .int .u64 (((0 : BitVec 64).toNat : Nat) : Int)]) 262)] ∧ nx = 1 := by
  refine fn_ok Try.func176 rfl (Nat.zero_le _) ?_
  simp (maxSteps := 1000000) -implicitDefEqProofs only [go_sem, Nat.reduceBEq, Nat.reduceLT, Nat.reduceLeDiff, Nat.reduceEqDiff, Nat.reduceAdd, Nat.reduceMul, Nat.reduceSub, reduceIte, reduceCtorEq, Int.reduceLT, Int.reduceLE, Int.reduceToNat, Int.reduceAdd, Int.reduceSub, Int.reduceNeg, Int.reduceEq, Int.reduceNe, Int.reduceBEq, Int.reduceBNe, BitVec.reduceBEq, BitVec.reduceBNe, BitVec.reduceOfInt, BitVec.reduceSetWidth, -List.reduceReplicate, Try.results176, Try.ntmps176]
  refine beginOk.flatv trivial (fun f => by simp only [renA, bvs_ren]) (by simp only [noRo, bvs_noRo]) ?_
  have hl : beginL.length = 8 := rfl
  simp (maxSteps := 1000000) -implicitDefEqProofs only [go_sem, Nat.reduceBEq, Nat.reduceLT, Nat.reduceLeDiff, Nat.reduceEqDiff, Nat.reduceAdd, Nat.reduceMul, Nat.reduceSub, reduceIte, reduceCtorEq, Int.reduceLT, Int.reduceLE, Int.reduceToNat, Int.reduceAdd, Int.reduceSub, Int.reduceNeg, Int.reduceEq, Int.reduceNe, Int.reduceBEq, Int.reduceBNe, BitVec.reduceBEq, BitVec.reduceBNe, BitVec.reduceOfInt, BitVec.reduceSetWidth, -List.reduceReplicate, hl]
  exact ⟨[(0, 0)], .ptr 0 0, [(0, .cells (bvs .u32 beginL ++ [.nils, .int .u64 (((0 : BitVec 64).toNat : Nat) : Int)]) 262)], 1, ⟨rfl, by decide⟩, rfl, ⟨rfl, rfl, trivial⟩, by simp [injOn], (fun n e => by cases e), rfl, rfl, rfl⟩
set_option maxHeartbeats 800000 in
theorem writeNil (W : List (BitVec 32)) (hW : W.length = 8) (many : BitVec 64) (b : List (BitVec 8)) (hb : b.length ≤ 100000) :
    CallOk Try.prog 177 [.ptr 0 0, .ro b.length (bvs .u8 b)] (fun _ => true) [(0, .cells (bvs .u32 W ++ [.nils, .int .u64 (many.toNat : Int)]) 262)] 1
      fun v m nx => v = .tup [] ∧ ∃ (cap : Nat) (sp : List Value), m = [(0, .cells (bvs .u32 (bl W ([] ++ b) (([] ++ b).length / 64)) ++ [.sl 1 0 (([] ++ b).drop (64 * (([] ++ b).length / 64))).length cap, .int .u64 ((many + BitVec.ofNat 64 b.length).toNat : Int)]) 262), (1, .cells (bvs .u8 (([] ++ b).drop (64 * (([] ++ b).length / 64))) ++ sp.map AV.val) 5)] ∧ nx = 1 + 1 ∧ (([] ++ b).drop (64 * (([] ++ b).length / 64))).length + sp.length = cap ∧ cap ≤ maxI := by
  refine fn_ok Try.func177 rfl (by show 2 ≤ _; decide) ?_
  generalize hX : ([] ++ b) = X
  have hg8 : ∀ (x y : AV), (bvs .u32 W ++ [x, y]).getD 8 .nils = x := fun x y => tail8 W hW x y
  have hg9 : ∀ (x y : AV), (bvs .u32 W ++ [x, y]).getD 9 (.int .u64 0) = y := fun x y => tail9 W hW x y
  have hs9 : ∀ (x y z : AV), (bvs .u32 W ++ [x, y]).set 9 z = bvs .u32 W ++ [x, z] := fun x y z => set9 W hW x y z
  simp (maxSteps := 1000000) -implicitDefEqProofs only [go_sem, Nat.reduceBEq, Nat.reduceLT, Nat.reduceLeDiff, Nat.reduceEqDiff, Nat.reduceAdd, Nat.reduceMul, Nat.reduceSub, reduceIte, reduceCtorEq, Int.reduceLT, Int.reduceLE, Int.reduceToNat, Int.reduceAdd, Int.reduceSub, Int.reduceNeg, Int.reduceEq, Int.reduceNe, Int.reduceBEq, Int.reduceBNe, BitVec.reduceBEq, BitVec.reduceBNe, BitVec.reduceOfInt, BitVec.reduceSetWidth, -List.reduceReplicate, Try.results177, Try.ntmps177, hg8, hg9, hs9, hW, List.length_append, List.take_length]
  refine appk_gen (X := ([] : List (BitVec 8))) (.inl ⟨rfl, rfl⟩) (fun n off len cap e => by first | (cases e; done) | (cases e; decide)) (fun _ => rfl) (by decide) (by (try simp only [List.length_nil]); omega) fun v' m' nx' hap hnx hsl hoth => ?_
  have hm0 : Eng.look m' 0 = some (.cells (bvs .u32 W ++ [.nils, .int .u64 ((many + BitVec.ofNat 64 b.length).toNat : Int)]) 262) := by
    rw [hoth 0 (by decide) (fun _ _ _ e => by cases e)]
    rfl
  rw [hX] at hap
  have hXl : X.length ≤ 200000 := by rw [← hX, List.length_append]; (try simp only [List.length_nil]); omega
  generalize hmany : (many + BitVec.ofNat 64 b.length) = many' at *
  simp (maxSteps := 1000000) -implicitDefEqProofs only [go_sem, Nat.reduceBEq, Nat.reduceLT, Nat.reduceLeDiff, Nat.reduceEqDiff, Nat.reduceAdd, Nat.reduceMul, Nat.reduceSub, reduceIte, reduceCtorEq, Int.reduceLT, Int.reduceLE, Int.reduceToNat, Int.reduceAdd, Int.reduceSub, Int.reduceNeg, Int.reduceEq, Int.reduceNe, Int.reduceBEq, Int.reduceBNe, BitVec.reduceBEq, BitVec.reduceBNe, BitVec.reduceOfInt, BitVec.reduceSetWidth, -List.reduceReplicate]
  refine LoopOk.upF (X.length / 64) (fun n => ([(4, .ro (X.length - 64 * n) (bvs .u8 (X.drop (64 * n)))), (0, .ptr 0 0)], [(0, .cells (bvs .u32 (bl W X n) ++ [.nils, .int .u64 (many'.toNat : Int)]) 262)], 1)) ?_ ?_
  · obtain ⟨o, ho, hfz⟩ := hap.fz
    refine .inr ⟨o, fun n l e => ⟨rfl, 5, (ho n l e).1⟩, [], ⟨rfl, Nat.le_refl _, ⟨?_, ?_, trivial⟩, ⟨?_, rfl, trivial⟩, by simp [injOn], (fun n e => by cases e), fun _ _ => rfl⟩⟩
    · rw [fzS_look]
      simp only [Eng.look, Nat.reduceEqDiff, reduceIte, if_true, if_false, Option.map_some, hfz, renA, bvs_ren, Nat.mul_zero, Nat.sub_zero, List.drop_zero]
    · rw [fzS_look]
      simp only [Eng.look, Nat.reduceEqDiff, reduceIte, if_true, if_false, Option.map_some, fzA]
      rfl
    · have hd0 : Eng.look (delO m' o) 0 = Eng.look m' 0 := by
        cases o with
        | none => rfl
        | some p =>
          obtain ⟨n, l⟩ := p
          obtain ⟨len, cap, e⟩ := (ho n l rfl).2
          exact look_del_other (by rw [(hsl n 0 len cap e).1]; decide)
      change Eng.look (delO m' o) 0 = _
      rw [hd0, hm0]
      simp only [renO, renL_append, bvs_ren, bl]
      rfl
  intro n hn
  have hbl := bl_len W X n
  have hdl : (X.drop (64 * n)).length = X.length - 64 * n := List.length_drop
  rcases Nat.lt_or_ge n (X.length / 64) with h' | h'
  · have f1 : decide (((X.length - 64 * n : Nat) : Int) ≥ 64) = true := by simp; omega
    simp (maxSteps := 1000000) -implicitDefEqProofs only [go_sem, Nat.reduceBEq, Nat.reduceLT, Nat.reduceLeDiff, Nat.reduceEqDiff, Nat.reduceAdd, Nat.reduceMul, Nat.reduceSub, reduceIte, reduceCtorEq, Int.reduceLT, Int.reduceLE, Int.reduceToNat, Int.reduceAdd, Int.reduceSub, Int.reduceNeg, Int.reduceEq, Int.reduceNe, Int.reduceBEq, Int.reduceBNe, BitVec.reduceBEq, BitVec.reduceBNe, BitVec.reduceOfInt, BitVec.reduceSetWidth, -List.reduceReplicate, f1]
    refine CallG.hide (n := 0) (ty := 262) (A := bvs .u32 (bl W X n)) (T := [.nils, .int .u64 (many'.toNat : Int)]) rfl fun us hus => ?_
    rw [← hdl]
    refine (blockOk (bl W X n) (by rw [hbl]; exact hW) us hus (X.drop (64 * n)) (by omega) (by omega)).use [] rfl ⟨by simp only [renO, renL_append, bvs_ren, renL_vals]; rfl, fun _ => rfl, trivial⟩ (by simp [injOn]) rfl (fun _ _ => rfl) (fun _ e => by cases e) ⟨rfl, by simp only [argx, renA, bvs_ren], trivial⟩ ?_
    rintro v m1 nx1 ⟨rfl, rfl, rfl⟩
    refine ⟨rfl, by simp only [noRoM, noRoO, noRoL_vals', Bool.and_self], Nat.le_refl _, bvs .u32 (bl W X (n + 1)), by simp only [renM, renO, renL_append, bvs_ren, renL_vals, bl]; rfl, ?_⟩
    change After _ _ _ _ [(0, .cells (bvs .u32 (bl W X (n + 1)) ++ [.nils, .int .u64 (many'.toNat : Int)]) 262)] 1
    have e1 : X.length - 64 * n - 64 = X.length - 64 * (n + 1) := by omega
    have e2 : List.take (X.length - 64 * (n + 1)) (List.drop (64 * n + 64) X) = X.drop (64 * (n + 1)) := by
      rw [show 64 * n + 64 = 64 * (n + 1) by omega]
      exact List.take_of_length_le (by rw [List.length_drop]; exact Nat.le_refl _)
    simp (maxSteps := 1000000) -implicitDefEqProofs only [go_sem, Nat.reduceBEq, Nat.reduceLT, Nat.reduceLeDiff, Nat.reduceEqDiff, Nat.reduceAdd, Nat.reduceMul, Nat.reduceSub, reduceIte, reduceCtorEq, Int.reduceLT, Int.reduceLE, Int.reduceToNat, Int.reduceAdd, Int.reduceSub, Int.reduceNeg, Int.reduceEq, Int.reduceNe, Int.reduceBEq, Int.reduceBNe, BitVec.reduceBEq, BitVec.reduceBNe, BitVec.reduceOfInt, BitVec.reduceSetWidth, -List.reduceReplicate, hdl, e1, e2, List.drop_drop]
    refine ⟨by omega, UpK_normal h' (Le.sameT (by decide) (by simp only [-List.reduceReplicate, slotsSame, Eng.look, Nat.reduceEqDiff, reduceIte, reduceCtorEq, if_true, if_false, eq_self, true_and, and_true, Option.some.injEq, AV.int.injEq]; (try simp (disch := omega) only [wrap_i64]); (try simp [-List.reduceReplicate]); (try omega)) (by simp only [-List.reduceReplicate, memSame, Eng.look, Nat.reduceEqDiff, reduceIte, reduceCtorEq, if_true, if_false, eq_self, true_and, and_true, Option.some.injEq, AObj.cells.injEq, bvs_rep8, bvs_rep16, bvs_rep32, bvs_rep64, bvs_flat_rep, Nat.reduceMul, bvs_append, List.replicate_append_replicate, Nat.reduceAdd, bvs_inj]; try simp [-List.reduceReplicate]) (by simp [-List.reduceReplicate]))⟩
  · have f1 : decide (((X.length - 64 * n : Nat) : Int) ≥ 64) = false := by simp; omega
    have hnn : n = X.length / 64 := by omega
    subst hnn
    have htl : List.take (X.length - 64 * (X.length / 64)) (X.drop (64 * (X.length / 64))) = X.drop (64 * (X.length / 64)) := by rw [← hdl, List.take_length]
    have hgs : ∀ (x y z : AV), (bvs .u32 (bl W X (X.length / 64)) ++ [x, y]).set 8 z = bvs .u32 (bl W X (X.length / 64)) ++ [z, y] := fun x y z => set8' _ (by rw [hbl]; exact hW) x y z
    simp (maxSteps := 1000000) -implicitDefEqProofs only [go_sem, Nat.reduceBEq, Nat.reduceLT, Nat.reduceLeDiff, Nat.reduceEqDiff, Nat.reduceAdd, Nat.reduceMul, Nat.reduceSub, reduceIte, reduceCtorEq, Int.reduceLT, Int.reduceLE, Int.reduceToNat, Int.reduceAdd, Int.reduceSub, Int.reduceNeg, Int.reduceEq, Int.reduceNe, Int.reduceBEq, Int.reduceBNe, BitVec.reduceBEq, BitVec.reduceBNe, BitVec.reduceOfInt, BitVec.reduceSetWidth, -List.reduceReplicate, f1, htl]
    refine ⟨.inl trivial, hdl, ?_⟩
    rw [← hdl]
    refine appk_bvs (x := ([] : List (BitVec 8))) (sp := []) rfl rfl rfl (by decide) (by decide) (by rw [hdl, List.length_nil]; omega) fun cap sp g1 g2 => ?_
    simp (maxSteps := 1000000) -implicitDefEqProofs only [go_sem, Nat.reduceBEq, Nat.reduceLT, Nat.reduceLeDiff, Nat.reduceEqDiff, Nat.reduceAdd, Nat.reduceMul, Nat.reduceSub, reduceIte, reduceCtorEq, Int.reduceLT, Int.reduceLE, Int.reduceToNat, Int.reduceAdd, Int.reduceSub, Int.reduceNeg, Int.reduceEq, Int.reduceNe, Int.reduceBEq, Int.reduceBNe, BitVec.reduceBEq, BitVec.reduceBNe, BitVec.reduceOfInt, BitVec.reduceSetWidth, -List.reduceReplicate, hgs, hbl, hW, List.length_append]
    refine ⟨[(1, 2)], .tup [], [(0, .cells (bvs .u32 (bl W X (X.length / 64)) ++ [.sl 1 0 (X.drop (64 * (X.length / 64))).length cap, .int .u64 (many'.toNat : Int)]) 262), (1, .cells (bvs .u8 (X.drop (64 * (X.length / 64))) ++ sp.map AV.val) 5)], 1 + 1, ⟨rfl, Nat.le_succ _⟩, rfl, ⟨?_, rfl, ?_, rfl, trivial⟩, ?_, (fun n e => by cases e), rfl, cap, sp, rfl, rfl, by rw [List.nil_append] at g1; exact g1, g2⟩
    · simp only [renO, renL_append, bvs_ren]; rfl
    · simp only [renO, renL_vals']; rfl
    · simp [injOn]; decide
set_option maxHeartbeats 800000 in
theorem writeOk (W : List (BitVec 32)) (hW : W.length = 8) (many : BitVec 64) (rest : List (BitVec 8)) (hr : rest.length ≤ 100) (cap0 : Nat) (sp0 : List Value) (hc0 : rest.length + sp0.length = cap0) (hm0 : cap0 ≤ maxI) (b : List (BitVec 8)) (hb : b.length ≤ 100000) :
    CallOk Try.prog 177 [.ptr 0 0, .ro b.length (bvs .u8 b)] (fun _ => true) [(0, .cells (bvs .u32 W ++ [.sl 1 0 rest.length cap0, .int .u64 (many.toNat : Int)]) 262), (1, .cells (bvs .u8 rest ++ sp0.map AV.val) 5)] 2
      fun v m nx => v = .tup [] ∧ ∃ (cap : Nat) (sp : List Value), m = [(0, .cells (bvs .u32 (bl W (rest ++ b) ((rest ++ b).length / 64)) ++ [.sl 2 0 ((rest ++ b).drop (64 * ((rest ++ b).length / 64))).length cap, .int .u64 ((many + BitVec.ofNat 64 b.length).toNat : Int)]) 262), (2, .cells (bvs .u8 ((rest ++ b).drop (64 * ((rest ++ b).length / 64))) ++ sp.map AV.val) 5)] ∧ nx = 2 + 1 ∧ ((rest ++ b).drop (64 * ((rest ++ b).length / 64))).length + sp.length = cap ∧ cap ≤ maxI := by
  refine fn_ok Try.func177 rfl (by show 2 ≤ _; decide) ?_
  generalize hX : (rest ++ b) = X
  have hg8 : ∀ (x y : AV), (bvs .u32 W ++ [x, y]).getD 8 .nils = x := fun x y => tail8 W hW x y
  have hg9 : ∀ (x y : AV), (bvs .u32 W ++ [x, y]).getD 9 (.int .u64 0) = y := fun x y => tail9 W hW x y
  have hs9 : ∀ (x y z : AV), (bvs .u32 W ++ [x, y]).set 9 z = bvs .u32 W ++ [x, z] := fun x y z => set9 W hW x y z
  simp (maxSteps := 1000000) -implicitDefEqProofs only [go_sem, Nat.reduceBEq, Nat.reduceLT, Nat.reduceLeDiff, Nat.reduceEqDiff, Nat.reduceAdd, Nat.reduceMul, Nat.reduceSub, reduceIte, reduceCtorEq, Int.reduceLT, Int.reduceLE, Int.reduceToNat, Int.reduceAdd, Int.reduceSub, Int.reduceNeg, Int.reduceEq, Int.reduceNe, Int.reduceBEq, Int.reduceBNe, BitVec.reduceBEq, BitVec.reduceBNe, BitVec.reduceOfInt, BitVec.reduceSetWidth, -List.reduceReplicate, Try.results177, Try.ntmps177, hg8, hg9, hs9, hW, List.length_append, List.take_length]
  refine appk_gen (X := rest) (.inr ⟨1, cap0, sp0, rfl, rfl, hc0, hm0⟩) (fun n off len cap e => by first | (cases e; done) | (cases e; decide)) (fun _ => rfl) (by decide) (by (try simp only [List.length_nil]); omega) fun v' m' nx' hap hnx hsl hoth => ?_
  have hm0 : Eng.look m' 0 = some (.cells (bvs .u32 W ++ [.sl 1 0 rest.length cap0, .int .u64 ((many + BitVec.ofNat 64 b.length).toNat : Int)]) 262) := by
    rw [hoth 0 (by decide) (fun _ _ _ e => by cases e)]
    rfl
  rw [hX] at hap
  have hXl : X.length ≤ 200000 := by rw [← hX, List.length_append]; (try simp only [List.length_nil]); omega
  generalize hmany : (many + BitVec.ofNat 64 b.length) = many' at *
  simp (maxSteps := 1000000) -implicitDefEqProofs only [go_sem, Nat.reduceBEq, Nat.reduceLT, Nat.reduceLeDiff, Nat.reduceEqDiff, Nat.reduceAdd, Nat.reduceMul, Nat.reduceSub, reduceIte, reduceCtorEq, Int.reduceLT, Int.reduceLE, Int.reduceToNat, Int.reduceAdd, Int.reduceSub, Int.reduceNeg, Int.reduceEq, Int.reduceNe, Int.reduceBEq, Int.reduceBNe, BitVec.reduceBEq, BitVec.reduceBNe, BitVec.reduceOfInt, BitVec.reduceSetWidth, -List.reduceReplicate]
  refine LoopOk.upF (X.length / 64) (fun n => ([(4, .ro (X.length - 64 * n) (bvs .u8 (X.drop (64 * n)))), (0, .ptr 0 0)], [(0, .cells (bvs .u32 (bl W X n) ++ [.sl 1 0 rest.length cap0, .int .u64 (many'.toNat : Int)]) 262)], 2)) ?_ ?_
  · obtain ⟨o, ho, hfz⟩ := hap.fz
    refine .inr ⟨o, fun n l e => ⟨rfl, 5, (ho n l e).1⟩, [], ⟨rfl, Nat.le_refl _, ⟨?_, ?_, trivial⟩, ⟨?_, rfl, trivial⟩, by simp [injOn], (fun n e => by cases e), fun _ _ => rfl⟩⟩
    · rw [fzS_look]
      simp only [Eng.look, Nat.reduceEqDiff, reduceIte, if_true, if_false, Option.map_some, hfz, renA, bvs_ren, Nat.mul_zero, Nat.sub_zero, List.drop_zero]
    · rw [fzS_look]
      simp only [Eng.look, Nat.reduceEqDiff, reduceIte, if_true, if_false, Option.map_some, fzA]
      rfl
    · have hd0 : Eng.look (delO m' o) 0 = Eng.look m' 0 := by
        cases o with
        | none => rfl
        | some p =>
          obtain ⟨n, l⟩ := p
          obtain ⟨len, cap, e⟩ := (ho n l rfl).2
          exact look_del_other (by rw [(hsl n 0 len cap e).1]; decide)
      change Eng.look (delO m' o) 0 = _
      rw [hd0, hm0]
      simp only [renO, renL_append, bvs_ren, bl]
      rfl
  intro n hn
  have hbl := bl_len W X n
  have hdl : (X.drop (64 * n)).length = X.length - 64 * n := List.length_drop
  rcases Nat.lt_or_ge n (X.length / 64) with h' | h'
  · have f1 : decide (((X.length - 64 * n : Nat) : Int) ≥ 64) = true := by simp; omega
    simp (maxSteps := 1000000) -implicitDefEqProofs only [go_sem, Nat.reduceBEq, Nat.reduceLT, Nat.reduceLeDiff, Nat.reduceEqDiff, Nat.reduceAdd, Nat.reduceMul, Nat.reduceSub, reduceIte, reduceCtorEq, Int.reduceLT, Int.reduceLE, Int.reduceToNat, Int.reduceAdd, Int.reduceSub, Int.reduceNeg, Int.reduceEq, Int.reduceNe, Int.reduceBEq, Int.reduceBNe, BitVec.reduceBEq, BitVec.reduceBNe, BitVec.reduceOfInt, BitVec.reduceSetWidth, -List.reduceReplicate, f1]
    refine CallG.hide (n := 0) (ty := 262) (A := bvs .u32 (bl W X n)) (T := [.sl 1 0 rest.length cap0, .int .u64 (many'.toNat : Int)]) rfl fun us hus => ?_
    rw [← hdl]
    refine (blockOk (bl W X n) (by rw [hbl]; exact hW) us hus (X.drop (64 * n)) (by omega) (by omega)).use [] rfl ⟨by simp only [renO, renL_append, bvs_ren, renL_vals]; rfl, fun _ => rfl, trivial⟩ (by simp [injOn]) rfl (fun _ _ => rfl) (fun _ e => by cases e) ⟨rfl, by simp only [argx, renA, bvs_ren], trivial⟩ ?_
    rintro v m1 nx1 ⟨rfl, rfl, rfl⟩
    refine ⟨rfl, by simp only [noRoM, noRoO, noRoL_vals', Bool.and_self], Nat.le_refl _, bvs .u32 (bl W X (n + 1)), by simp only [renM, renO, renL_append, bvs_ren, renL_vals, bl]; rfl, ?_⟩
    change After _ _ _ _ [(0, .cells (bvs .u32 (bl W X (n + 1)) ++ [.sl 1 0 rest.length cap0, .int .u64 (many'.toNat : Int)]) 262)] 2
    have e1 : X.length - 64 * n - 64 = X.length - 64 * (n + 1) := by omega
    have e2 : List.take (X.length - 64 * (n + 1)) (List.drop (64 * n + 64) X) = X.drop (64 * (n + 1)) := by
      rw [show 64 * n + 64 = 64 * (n + 1) by omega]
      exact List.take_of_length_le (by rw [List.length_drop]; exact Nat.le_refl _)
    simp (maxSteps := 1000000) -implicitDefEqProofs only [go_sem, Nat.reduceBEq, Nat.reduceLT, Nat.reduceLeDiff, Nat.reduceEqDiff, Nat.reduceAdd, Nat.reduceMul, Nat.reduceSub, reduceIte, reduceCtorEq, Int.reduceLT, Int.reduceLE, Int.reduceToNat, Int.reduceAdd, Int.reduceSub, Int.reduceNeg, Int.reduceEq, Int.reduceNe, Int.reduceBEq, Int.reduceBNe, BitVec.reduceBEq, BitVec.reduceBNe, BitVec.reduceOfInt, BitVec.reduceSetWidth, -List.reduceReplicate, hdl, e1, e2, List.drop_drop]
    refine ⟨by omega, UpK_normal h' (Le.sameT (by decide) (by simp only [-List.reduceReplicate, slotsSame, Eng.look, Nat.reduceEqDiff, reduceIte, reduceCtorEq, if_true, if_false, eq_self, true_and, and_true, Option.some.injEq, AV.int.injEq]; (try simp (disch := omega) only [wrap_i64]); (try simp [-List.reduceReplicate]); (try omega)) (by simp only [-List.reduceReplicate, memSame, Eng.look, Nat.reduceEqDiff, reduceIte, reduceCtorEq, if_true, if_false, eq_self, true_and, and_true, Option.some.injEq, AObj.cells.injEq, bvs_rep8, bvs_rep16, bvs_rep32, bvs_rep64, bvs_flat_rep, Nat.reduceMul, bvs_append, List.replicate_append_replicate, Nat.reduceAdd, bvs_inj]; try simp [-List.reduceReplicate]) (by simp [-List.reduceReplicate]))⟩
  · have f1 : decide (((X.length - 64 * n : Nat) : Int) ≥ 64) = false := by simp; omega
    have hnn : n = X.length / 64 := by omega
    subst hnn
    have htl : List.take (X.length - 64 * (X.length / 64)) (X.drop (64 * (X.length / 64))) = X.drop (64 * (X.length / 64)) := by rw [← hdl, List.take_length]
    have hgs : ∀ (x y z : AV), (bvs .u32 (bl W X (X.length / 64)) ++ [x, y]).set 8 z = bvs .u32 (bl W X (X.length / 64)) ++ [z, y] := fun x y z => set8' _ (by rw [hbl]; exact hW) x y z
    simp (maxSteps := 1000000) -implicitDefEqProofs only [go_sem, Nat.reduceBEq, Nat.reduceLT, Nat.reduceLeDiff, Nat.reduceEqDiff, Nat.reduceAdd, Nat.reduceMul, Nat.reduceSub, reduceIte, reduceCtorEq, Int.reduceLT, Int.reduceLE, Int.reduceToNat, Int.reduceAdd, Int.reduceSub, Int.reduceNeg, Int.reduceEq, Int.reduceNe, Int.reduceBEq, Int.reduceBNe, BitVec.reduceBEq, BitVec.reduceBNe, BitVec.reduceOfInt, BitVec.reduceSetWidth, -List.reduceReplicate, f1, htl]
    refine ⟨.inl trivial, hdl, ?_⟩
    rw [← hdl]
    refine appk_bvs (x := ([] : List (BitVec 8))) (sp := []) rfl rfl rfl (by decide) (by decide) (by rw [hdl, List.length_nil]; omega) fun cap sp g1 g2 => ?_
    simp (maxSteps := 1000000) -implicitDefEqProofs only [go_sem, Nat.reduceBEq, Nat.reduceLT, Nat.reduceLeDiff, Nat.reduceEqDiff, Nat.reduceAdd, Nat.reduceMul, Nat.reduceSub, reduceIte, reduceCtorEq, Int.reduceLT, Int.reduceLE, Int.reduceToNat, Int.reduceAdd, Int.reduceSub, Int.reduceNeg, Int.reduceEq, Int.reduceNe, Int.reduceBEq, Int.reduceBNe, BitVec.reduceBEq, BitVec.reduceBNe, BitVec.reduceOfInt, BitVec.reduceSetWidth, -List.reduceReplicate, hgs, hbl, hW, List.length_append]
    refine ⟨[(2, 3)], .tup [], [(0, .cells (bvs .u32 (bl W X (X.length / 64)) ++ [.sl 2 0 (X.drop (64 * (X.length / 64))).length cap, .int .u64 (many'.toNat : Int)]) 262), (2, .cells (bvs .u8 (X.drop (64 * (X.length / 64))) ++ sp.map AV.val) 5)], 2 + 1, ⟨rfl, Nat.le_succ _⟩, rfl, ⟨?_, rfl, ?_, rfl, trivial⟩, ?_, (fun n e => by cases e), rfl, cap, sp, rfl, rfl, by rw [List.nil_append] at g1; exact g1, g2⟩
    · simp only [renO, renL_append, bvs_ren]; rfl
    · simp only [renO, renL_vals']; rfl
    · simp [injOn]; decide
end Go.Proofs.Ytmdeoikpiiambaa
/-! She -/
namespace Go.Proofs.Ytmdeoikpiiambaa
open Go Go.Eng
def padZ (rest : List (BitVec 8)) (n : Nat) : List (BitVec 8) := rest ++ [128#8] ++ List.replicate n 0#8
theorem padZ_len (rest : List (BitVec 8)) (n : Nat) : (padZ rest n).length = rest.length + 1 + n := by simp [padZ]; omega
theorem padZ_succ (rest : List (BitVec 8)) (n : Nat) : padZ rest n ++ [0#8] = padZ rest (n + 1) := by simp [padZ, List.replicate_succ']
def zN (len : Nat) : Nat := (119 - len % 64) % 64
def by8 (m : BitVec 64) : Nat → List (BitVec 8)
  | 0 => []
  | n + 1 => by8 m n ++ [(m >>> (8 * (7 - n))).setWidth 8]
theorem by8_len (m : BitVec 64) (n : Nat) : (by8 m n).length = n := by
  induction n with
  | zero => rfl
  | succ n ih => simp [by8, ih]
def padE (rest : List (BitVec 8)) (m : BitVec 64) (n : Nat) : List (BitVec 8) := padZ rest (zN rest.length) ++ by8 m n
def padL (rest : List (BitVec 8)) (m : BitVec 64) : List (BitVec 8) := padE rest m 8
theorem padE_len (rest : List (BitVec 8)) (m : BitVec 64) (n : Nat) : (padE rest m n).length = rest.length + 1 + zN rest.length + n := by simp [padE, padZ_len, by8_len]
theorem padE_succ (rest : List (BitVec 8)) (m : BitVec 64) (n : Nat) : padE rest m n ++ [(m >>> (8 * (7 - n))).setWidth 8] = padE rest m (n + 1) := by simp [padE, by8]
theorem padL_mod (rest : List (BitVec 8)) (m : BitVec 64) : (padL rest m).length % 64 = 0 := by
  rw [padL, padE_len, zN]; omega
theorem padL_le (rest : List (BitVec 8)) (m : BitVec 64) : (padL rest m).length ≤ rest.length + 72 := by
  rw [padL, padE_len, zN]; omega
def outB (W : List (BitVec 32)) (i : Nat) : BitVec 8 := (W.getD (i / 4) 0 >>> (24 - 8 * (i % 4))).setWidth 8
def outN (W : List (BitVec 32)) : Nat → List (BitVec 8)
  | 0 => List.replicate 32 0#8
  | n + 1 => (outN W n).set n (outB W n)
theorem outN_len (W : List (BitVec 32)) (n : Nat) : (outN W n).length = 32 := by
  induction n with
  | zero => rfl
  | succ n ih => simp [outN, ih]
def sumW (W : List (BitVec 32)) (rest : List (BitVec 8)) (m : BitVec 64) : List (BitVec 32) := bl W (padL rest (m * 8#64)) ((padL rest (m * 8#64)).length / 64)
theorem take10 (W : List (BitVec 32)) (hW : W.length = 8) (x y : AV) : List.take 10 (bvs .u32 W ++ [x, y]) = bvs .u32 W ++ [x, y] := List.take_of_length_le (by simp [bvs_length, hW])
theorem spl10 (W V : List (BitVec 32)) (hW : W.length = 8) (hV : V.length = 8) (a b x y : AV) : spl (bvs .u32 V ++ [a, b]) 0 (bvs .u32 W ++ [x, y]) = bvs .u32 W ++ [x, y] := by
  have : List.drop 10 (bvs .u32 V ++ [a, b]) = [] := List.drop_eq_nil_of_le (by simp [bvs_length, hV])
  simp only [spl, List.take_zero, List.nil_append, Nat.zero_add, List.length_append, bvs_length, hW, List.length_cons, List.length_nil]
  rw [this, List.append_nil]
set_option maxHeartbeats 1600000 in
theorem sumMOk (W : List (BitVec 32)) (hW : W.length = 8) (rest : List (BitVec 8)) (hr : rest.length ≤ 100) (cap0 : Nat) (sp0 : List Value) (many : BitVec 64) :
    CallOk Try.prog 178 [.ptr 0 0] (fun _ => true) [(0, .cells (bvs .u32 W ++ [.sl 1 0 rest.length cap0, .int .u64 (many.toNat : Int)]) 262), (1, .cells (bvs .u8 rest ++ sp0.map AV.val) 5)] 2
      fun v m nx => v = .agg (bvs .u8 (outN (sumW W rest many) 32)) ∧ m = [(0, .cells (bvs .u32 W ++ [.sl 1 0 rest.length cap0, .int .u64 (many.toNat : Int)]) 262), (1, .cells (bvs .u8 rest ++ sp0.map AV.val) 5)] ∧ nx = 2 := by
  refine fn_ok Try.func178 rfl (by show 1 ≤ _; decide) ?_
  simp (maxSteps := 1000000) -implicitDefEqProofs only [go_sem, Nat.reduceBEq, Nat.reduceLT, Nat.reduceLeDiff, Nat.reduceEqDiff, Nat.reduceAdd, Nat.reduceMul, Nat.reduceSub, reduceIte, reduceCtorEq, Int.reduceLT, Int.reduceLE, Int.reduceToNat, Int.reduceAdd, Int.reduceSub, Int.reduceNeg, Int.reduceEq, Int.reduceNe, Int.reduceBEq, Int.reduceBNe, BitVec.reduceBEq, BitVec.reduceBNe, BitVec.reduceOfInt, BitVec.reduceSetWidth, -List.reduceReplicate, Try.results178, Try.ntmps178]
  refine newOk.more trivial ?_
  rintro v m' nx' ⟨rfl, rfl, rfl⟩
  refine ⟨rfl, by simp only [noRoM, noRoO, noRoL_append, bvs_noRo]; rfl, ?_⟩
  have hbg : beginL.length = 8 := rfl
  have hg8 : ∀ (x y : AV), (bvs .u32 W ++ [x, y]).getD 8 .nils = x := fun x y => tail8 W hW x y
  have hg9 : ∀ (x y : AV), (bvs .u32 W ++ [x, y]).getD 9 (.int .u64 0) = y := fun x y => tail9 W hW x y
  have ht10 := take10 W hW
  have hs10 := spl10 W beginL hW hbg
  have htr := takeB .u8 rest.length rest rfl (sp0.map AV.val)
  have hz := padZ_len rest
  simp (maxSteps := 1000000) -implicitDefEqProofs only [go_sem, Nat.reduceBEq, Nat.reduceLT, Nat.reduceLeDiff, Nat.reduceEqDiff, Nat.reduceAdd, Nat.reduceMul, Nat.reduceSub, reduceIte, reduceCtorEq, Int.reduceLT, Int.reduceLE, Int.reduceToNat, Int.reduceAdd, Int.reduceSub, Int.reduceNeg, Int.reduceEq, Int.reduceNe, Int.reduceBEq, Int.reduceBNe, BitVec.reduceBEq, BitVec.reduceBNe, BitVec.reduceOfInt, BitVec.reduceSetWidth, -List.reduceReplicate, hg8, hg9, hbg, hW, ht10, hs10, renL_append, List.length_append, List.take_length, htr]
  refine ⟨by simp only [List.all_append, bvs_one]; rfl, .inl trivial, ?_⟩
  refine appk_bvs (x := ([] : List (BitVec 8))) (sp := []) rfl rfl rfl (by decide) (by decide) (by rw [List.length_nil]; omega) fun cap1 sp1 g1 g2 => ?_
  simp only [List.nil_append] at g1
  simp (maxSteps := 1000000) -implicitDefEqProofs only [go_sem, Nat.reduceBEq, Nat.reduceLT, Nat.reduceLeDiff, Nat.reduceEqDiff, Nat.reduceAdd, Nat.reduceMul, Nat.reduceSub, reduceIte, reduceCtorEq, Int.reduceLT, Int.reduceLE, Int.reduceToNat, Int.reduceAdd, Int.reduceSub, Int.reduceNeg, Int.reduceEq, Int.reduceNe, Int.reduceBEq, Int.reduceBNe, BitVec.reduceBEq, BitVec.reduceBNe, BitVec.reduceOfInt, BitVec.reduceSetWidth, -List.reduceReplicate]
  refine ⟨.inr trivial, rfl, rfl, ?_⟩
  refine appk_bvs (x := rest) (y := [128#8]) (sp := sp1) (n := 5) rfl rfl g1 g2 (by decide) (by simp only [List.length_cons, List.length_nil]; omega) fun cap2 sp2 g3 g4 => ?_
  have hp0 : rest ++ [128#8] = padZ rest 0 := by simp [padZ]
  rw [hp0]
  rw [hp0] at g3
  simp (maxSteps := 1000000) -implicitDefEqProofs only [go_sem, Nat.reduceBEq, Nat.reduceLT, Nat.reduceLeDiff, Nat.reduceEqDiff, Nat.reduceAdd, Nat.reduceMul, Nat.reduceSub, reduceIte, reduceCtorEq, Int.reduceLT, Int.reduceLE, Int.reduceToNat, Int.reduceAdd, Int.reduceSub, Int.reduceNeg, Int.reduceEq, Int.reduceNe, Int.reduceBEq, Int.reduceBNe, BitVec.reduceBEq, BitVec.reduceBNe, BitVec.reduceOfInt, BitVec.reduceSetWidth, -List.reduceReplicate]
  refine LoopOk.upX (fun n x => (padZ rest n).length + x.2.length = x.1 ∧ x.1 ≤ maxI) (zN rest.length) (fun n x => ([(4, .sl 4 0 (padZ rest n).length x.1), (3, .ptr 3 0), (2, .ptr 2 0), (0, .ptr 0 0)], [(4, .cells (bvs .u8 (padZ rest n) ++ x.2.map AV.val) 5), (3, (.cells (bvs .u32 (W) ++ [.sl 1 0 rest.length cap0, .int .u64 (many.toNat : Int)]) 262)), (2, (.cells (bvs .u8 (List.replicate 32 (0 : BitVec 8))) 199)), (0, (.cells (bvs .u32 (W) ++ [.sl 1 0 rest.length cap0, .int .u64 (many.toNat : Int)]) 262)), (1, (.cells (bvs .u8 rest ++ sp0.map AV.val) 5))], 5)) (cap2, sp2) ⟨g3, g4⟩ ⟨[(4, 7)], rfl, (show 2 ≤ 5 by decide), (by exact ⟨rfl, rfl, rfl, rfl, trivial⟩), ⟨by simp only [renO, renL_vals']; rfl, rfl, by simp only [renO, renL_append, bvs_ren]; rfl, rfl, by simp only [renO, bvs_ren]; rfl, rfl, by simp only [renO, renL_append, bvs_ren]; rfl, rfl, by simp only [renO, renL_vals']; rfl, rfl, trivial⟩, (by simp [injOn]; decide), (fun n e => by cases e), fun _ _ => rfl⟩ ?_
  have hzN : zN rest.length < 64 := Nat.mod_lt _ (by decide)
  intro n x ⟨hn, hq1, hq2⟩
  have hzl := padZ_len rest n
  have hzm : ((padZ rest n).length : Int).tmod 64 = (((rest.length + 1 + n) % 64 : Nat) : Int) := by rw [hzl, Int.tmod_eq_emod_of_nonneg (by omega)]; omega
  rcases Nat.lt_or_ge n (zN rest.length) with h' | h'
  · have f1 : ((((rest.length + 1 + n) % 64 : Nat) : Int) != 56) = true := by
      rw [bne_iff_ne]; unfold zN at h'; omega
    simp (maxSteps := 1000000) -implicitDefEqProofs only [go_sem, Nat.reduceBEq, Nat.reduceLT, Nat.reduceLeDiff, Nat.reduceEqDiff, Nat.reduceAdd, Nat.reduceMul, Nat.reduceSub, reduceIte, reduceCtorEq, Int.reduceLT, Int.reduceLE, Int.reduceToNat, Int.reduceAdd, Int.reduceSub, Int.reduceNeg, Int.reduceEq, Int.reduceNe, Int.reduceBEq, Int.reduceBNe, BitVec.reduceBEq, BitVec.reduceBNe, BitVec.reduceOfInt, BitVec.reduceSetWidth, -List.reduceReplicate, hzm, f1]
    refine ⟨.inr trivial, rfl, rfl, ?_⟩
    refine appk_bvs (x := padZ rest n) (y := [0#8]) (sp := x.2) (n := 4) rfl rfl hq1 hq2 (by decide) (by simp only [List.length_cons, List.length_nil]; omega) fun cap3 sp3 g5 g6 => ?_
    rw [padZ_succ]
    rw [padZ_succ] at g5
    simp (maxSteps := 1000000) -implicitDefEqProofs only [go_sem, Nat.reduceBEq, Nat.reduceLT, Nat.reduceLeDiff, Nat.reduceEqDiff, Nat.reduceAdd, Nat.reduceMul, Nat.reduceSub, reduceIte, reduceCtorEq, Int.reduceLT, Int.reduceLE, Int.reduceToNat, Int.reduceAdd, Int.reduceSub, Int.reduceNeg, Int.reduceEq, Int.reduceNe, Int.reduceBEq, Int.reduceBNe, BitVec.reduceBEq, BitVec.reduceBNe, BitVec.reduceOfInt, BitVec.reduceSetWidth, -List.reduceReplicate]
    refine UpX_normal h' (cap3, sp3) ⟨g5, g6⟩ ⟨[(4, 6)], rfl, (show 2 ≤ 5 by decide), (by exact ⟨rfl, rfl, rfl, rfl, trivial⟩), ⟨by simp only [renO, renL_vals']; rfl, rfl, by simp only [renO, renL_append, bvs_ren]; rfl, rfl, by simp only [renO, bvs_ren]; rfl, rfl, by simp only [renO, renL_append, bvs_ren]; rfl, rfl, by simp only [renO, renL_vals']; rfl, rfl, trivial⟩, (by simp [injOn]; decide), (fun n e => by cases e), fun _ _ => rfl⟩
  · have hnz : n = zN rest.length := by omega
    subst hnz
    have f1 : ((((rest.length + 1 + zN rest.length) % 64 : Nat) : Int) != 56) = false := by
      have : (rest.length + 1 + zN rest.length) % 64 = 56 := by unfold zN; omega
      rw [this]; rfl
    have he0 : padZ rest (zN rest.length) = padE rest (many * 8#64) 0 := by simp [padE, by8]
    simp (maxSteps := 1000000) -implicitDefEqProofs only [go_sem, Nat.reduceBEq, Nat.reduceLT, Nat.reduceLeDiff, Nat.reduceEqDiff, Nat.reduceAdd, Nat.reduceMul, Nat.reduceSub, reduceIte, reduceCtorEq, Int.reduceLT, Int.reduceLE, Int.reduceToNat, Int.reduceAdd, Int.reduceSub, Int.reduceNeg, Int.reduceEq, Int.reduceNe, Int.reduceBEq, Int.reduceBNe, BitVec.reduceBEq, BitVec.reduceBNe, BitVec.reduceOfInt, BitVec.reduceSetWidth, -List.reduceReplicate, hzm, f1, hg9]
    rw [he0]
    rw [he0] at hq1
    generalize hM8 : many * 8#64 = m8 at *
    refine ⟨by omega, ?_⟩
    refine LoopOk.upX (fun n x => (padE rest m8 n).length + x.2.length = x.1 ∧ x.1 ≤ maxI) 8 (fun n x => ([(6, .int .i64 (7 - (n : Int))), (5, .int .u64 (m8.toNat : Int)), (4, .sl 4 0 (padE rest m8 n).length x.1), (3, .ptr 3 0), (2, .ptr 2 0), (0, .ptr 0 0)], [(4, .cells (bvs .u8 (padE rest m8 n) ++ x.2.map AV.val) 5), (3, (.cells (bvs .u32 (W) ++ [.sl 1 0 rest.length cap0, .int .u64 (many.toNat : Int)]) 262)), (2, (.cells (bvs .u8 (List.replicate 32 (0 : BitVec 8))) 199)), (0, (.cells (bvs .u32 (W) ++ [.sl 1 0 rest.length cap0, .int .u64 (many.toNat : Int)]) 262)), (1, (.cells (bvs .u8 rest ++ sp0.map AV.val) 5))], 5)) x ⟨hq1, hq2⟩ ⟨[(4, 4)], rfl, (show 2 ≤ 5 by decide), (by exact ⟨rfl, rfl, rfl, rfl, rfl, rfl, trivial⟩), ⟨by simp only [renO, renL_vals']; rfl, rfl, by simp only [renO, renL_append, bvs_ren]; rfl, rfl, by simp only [renO, bvs_ren]; rfl, rfl, by simp only [renO, renL_append, bvs_ren]; rfl, rfl, by simp only [renO, renL_vals']; rfl, rfl, trivial⟩, (by simp [injOn]; decide), (fun n e => by cases e), fun _ _ => rfl⟩ ?_
    clear hzl hzm hq1 hq2 he0 f1
    intro n x ⟨hn, hq1, hq2⟩
    have hel := padE_len rest m8 n
    rcases Nat.lt_or_ge n 8 with h8 | h8
    · have f1 : decide (7 - (n : Int) ≥ 0) = true := by simp; omega
      have w1 : IntKind.i64.wrap (8 * (7 - (n : Int))) = ((8 * (7 - n) : Nat) : Int) := by rw [wrap_i64] <;> omega
      have w2 : IntKind.i64.wrap (7 - (n : Int) - 1) = 7 - ((n + 1 : Nat) : Int) := by rw [wrap_i64] <;> omega
      simp (maxSteps := 1000000) -implicitDefEqProofs only [go_sem, Nat.reduceBEq, Nat.reduceLT, Nat.reduceLeDiff, Nat.reduceEqDiff, Nat.reduceAdd, Nat.reduceMul, Nat.reduceSub, reduceIte, reduceCtorEq, Int.reduceLT, Int.reduceLE, Int.reduceToNat, Int.reduceAdd, Int.reduceSub, Int.reduceNeg, Int.reduceEq, Int.reduceNe, Int.reduceBEq, Int.reduceBNe, BitVec.reduceBEq, BitVec.reduceBNe, BitVec.reduceOfInt, BitVec.reduceSetWidth, -List.reduceReplicate, f1, w1]
      refine ⟨.inr trivial, rfl, ?_⟩
      refine appk_bvs (x := padE rest m8 n) (y := [(m8 >>> (8 * (7 - n))).setWidth 8]) (sp := x.2) (n := 4) rfl rfl hq1 hq2 (by decide) (by simp only [List.length_cons, List.length_nil]; omega) fun cap3 sp3 g5 g6 => ?_
      rw [padE_succ]
      rw [padE_succ] at g5
      simp (maxSteps := 1000000) -implicitDefEqProofs only [go_sem, Nat.reduceBEq, Nat.reduceLT, Nat.reduceLeDiff, Nat.reduceEqDiff, Nat.reduceAdd, Nat.reduceMul, Nat.reduceSub, reduceIte, reduceCtorEq, Int.reduceLT, Int.reduceLE, Int.reduceToNat, Int.reduceAdd, Int.reduceSub, Int.reduceNeg, Int.reduceEq, Int.reduceNe, Int.reduceBEq, Int.reduceBNe, BitVec.reduceBEq, BitVec.reduceBNe, BitVec.reduceOfInt, BitVec.reduceSetWidth, -List.reduceReplicate, w2]
      refine UpX_normal h8 (cap3, sp3) ⟨g5, g6⟩ ⟨[(4, 6)], rfl, (show 2 ≤ 5 by decide), (by exact ⟨rfl, rfl, rfl, rfl, rfl, rfl, trivial⟩), ⟨by simp only [renO, renL_vals']; rfl, rfl, by simp only [renO, renL_append, bvs_ren]; rfl, rfl, by simp only [renO, bvs_ren]; rfl, rfl, by simp only [renO, renL_append, bvs_ren]; rfl, rfl, by simp only [renO, renL_vals']; rfl, rfl, trivial⟩, (by simp [injOn]; decide), (fun n e => by cases e), fun _ _ => rfl⟩
    · have hn8 : n = 8 := by omega
      subst hn8
      have f0 : decide ((-1 : Int) ≥ 0) = false := rfl
      simp (maxSteps := 1000000) -implicitDefEqProofs only [go_sem, Nat.reduceBEq, Nat.reduceLT, Nat.reduceLeDiff, Nat.reduceEqDiff, Nat.reduceAdd, Nat.reduceMul, Nat.reduceSub, reduceIte, reduceCtorEq, Int.reduceLT, Int.reduceLE, Int.reduceToNat, Int.reduceAdd, Int.reduceSub, Int.reduceNeg, Int.reduceEq, Int.reduceNe, Int.reduceBEq, Int.reduceBNe, BitVec.reduceBEq, BitVec.reduceBNe, BitVec.reduceOfInt, BitVec.reduceSetWidth, -List.reduceReplicate, f0]
      have hmod := padL_mod rest m8
      have hle := padL_le rest m8
      have hsum : sumW W rest many = bl W (padL rest m8) ((padL rest m8).length / 64) := by rw [sumW, hM8]
      have hPLd : padL rest m8 = padE rest m8 8 := rfl
      rw [hPLd] at hmod hle hsum
      clear hPLd
      generalize padE rest m8 8 = PL at *
      refine LoopOk.upF (PL.length / 64) (fun n => ([(4, .ro (PL.length - 64 * n) (bvs .u8 (PL.drop (64 * n)))), (3, .ptr 3 0), (2, .ptr 2 0)], [(3, (.cells (bvs .u32 (bl W PL n) ++ [.sl 1 0 rest.length cap0, .int .u64 (many.toNat : Int)]) 262)), (2, (.cells (bvs .u8 (List.replicate 32 (0 : BitVec 8))) 199)), (0, (.cells (bvs .u32 (W) ++ [.sl 1 0 rest.length cap0, .int .u64 (many.toNat : Int)]) 262)), (1, (.cells (bvs .u8 rest ++ sp0.map AV.val) 5))], 4)) ?_ ?_
      · refine .inr ⟨some (4, _), fun n l e => by cases e; exact ⟨rfl, 5, rfl⟩, [], ⟨rfl, (show 2 ≤ 4 by decide), ⟨?_, rfl, rfl, trivial⟩, ⟨by simp only [renO, renL_append, bvs_ren]; rfl, rfl, by simp only [renO, bvs_ren]; rfl, rfl, by simp only [renO, renL_append, bvs_ren]; rfl, rfl, by simp only [renO, renL_vals']; rfl, rfl, trivial⟩, (by simp [injOn]; decide), (fun n e => by cases e), fun _ _ => rfl⟩⟩
        simp only [fzS, Eng.look, Nat.reduceEqDiff, reduceIte, if_true, if_false, fzA, renA, bvs_ren, Nat.mul_zero, Nat.sub_zero, List.drop_zero]
        rw [List.take_append_of_le_length (by rw [bvs_length]; exact Nat.le_refl _), bvs_take, List.take_length]
      intro n hn
      have hbl := bl_len W PL n
      have hdl : (PL.drop (64 * n)).length = PL.length - 64 * n := List.length_drop
      rcases Nat.lt_or_ge n (PL.length / 64) with h' | h'
      · have f1 : decide (((PL.length - 64 * n : Nat) : Int) > 0) = true := by simp; omega
        simp (maxSteps := 1000000) -implicitDefEqProofs only [go_sem, Nat.reduceBEq, Nat.reduceLT, Nat.reduceLeDiff, Nat.reduceEqDiff, Nat.reduceAdd, Nat.reduceMul, Nat.reduceSub, reduceIte, reduceCtorEq, Int.reduceLT, Int.reduceLE, Int.reduceToNat, Int.reduceAdd, Int.reduceSub, Int.reduceNeg, Int.reduceEq, Int.reduceNe, Int.reduceBEq, Int.reduceBNe, BitVec.reduceBEq, BitVec.reduceBNe, BitVec.reduceOfInt, BitVec.reduceSetWidth, -List.reduceReplicate, f1]
        refine CallG.hide (n := 3) (ty := 262) (A := bvs .u32 (bl W PL n)) (T := [.sl 1 0 rest.length cap0, .int .u64 (many.toNat : Int)]) rfl fun us hus => ?_
        rw [← hdl]
        refine (blockOk (bl W PL n) (by rw [hbl]; exact hW) us hus (PL.drop (64 * n)) (by omega) (by omega)).use [(0, 3)] rfl ⟨by simp only [renO, renL_append, bvs_ren, renL_vals]; rfl, fun _ => rfl, trivial⟩ (by simp [injOn]) rfl (fun _ _ => rfl) (fun _ e => by cases e) ⟨rfl, by simp only [argx, renA, bvs_ren], trivial⟩ ?_
        rintro v m1 nx1 ⟨rfl, rfl, rfl⟩
        refine ⟨rfl, by simp only [noRoM, noRoO, noRoL_vals', Bool.and_self], Nat.le_refl _, bvs .u32 (bl W PL (n + 1)), by simp only [renM, renO, renL_append, bvs_ren, renL_vals, bl]; rfl, ?_⟩
        change After _ _ _ _ [(3, .cells (bvs .u32 (bl W PL (n + 1)) ++ [.sl 1 0 rest.length cap0, .int .u64 (many.toNat : Int)]) 262), (2, (.cells (bvs .u8 (List.replicate 32 (0 : BitVec 8))) 199)), (0, (.cells (bvs .u32 (W) ++ [.sl 1 0 rest.length cap0, .int .u64 (many.toNat : Int)]) 262)), (1, (.cells (bvs .u8 rest ++ sp0.map AV.val) 5))] 4
        have e1 : PL.length - 64 * n - 64 = PL.length - 64 * (n + 1) := by omega
        have e2 : List.take (PL.length - 64 * (n + 1)) (List.drop (64 * n + 64) PL) = PL.drop (64 * (n + 1)) := by
          rw [show 64 * n + 64 = 64 * (n + 1) by omega]
          exact List.take_of_length_le (by rw [List.length_drop]; exact Nat.le_refl _)
        simp (maxSteps := 1000000) -implicitDefEqProofs only [go_sem, Nat.reduceBEq, Nat.reduceLT, Nat.reduceLeDiff, Nat.reduceEqDiff, Nat.reduceAdd, Nat.reduceMul, Nat.reduceSub, reduceIte, reduceCtorEq, Int.reduceLT, Int.reduceLE, Int.reduceToNat, Int.reduceAdd, Int.reduceSub, Int.reduceNeg, Int.reduceEq, Int.reduceNe, Int.reduceBEq, Int.reduceBNe, BitVec.reduceBEq, BitVec.reduceBNe, BitVec.reduceOfInt, BitVec.reduceSetWidth, -List.reduceReplicate, hdl, e1, e2, List.drop_drop]
        refine ⟨by omega, UpK_normal h' (Le.sameT (by decide) (by simp only [-List.reduceReplicate, slotsSame, Eng.look, Nat.reduceEqDiff, reduceIte, reduceCtorEq, if_true, if_false, eq_self, true_and, and_true, Option.some.injEq, AV.int.injEq]; (try simp (disch := omega) only [wrap_i64]); (try simp [-List.reduceReplicate]); (try omega)) (by simp only [-List.reduceReplicate, memSame, Eng.look, Nat.reduceEqDiff, reduceIte, reduceCtorEq, if_true, if_false, eq_self, true_and, and_true, Option.some.injEq, AObj.cells.injEq, bvs_rep8, bvs_rep16, bvs_rep32, bvs_rep64, bvs_flat_rep, Nat.reduceMul, bvs_append, List.replicate_append_replicate, Nat.reduceAdd, bvs_inj]; try simp [-List.reduceReplicate]) (by simp [-List.reduceReplicate]))⟩
      · have f1 : decide (((PL.length - 64 * n : Nat) : Int) > 0) = false := by simp; omega
        have hnn : n = PL.length / 64 := by omega
        subst hnn
        rw [← hsum]
        rw [← hsum] at hbl
        generalize sumW W rest many = V at *
        simp (maxSteps := 1000000) -implicitDefEqProofs only [go_sem, Nat.reduceBEq, Nat.reduceLT, Nat.reduceLeDiff, Nat.reduceEqDiff, Nat.reduceAdd, Nat.reduceMul, Nat.reduceSub, reduceIte, reduceCtorEq, Int.reduceLT, Int.reduceLE, Int.reduceToNat, Int.reduceAdd, Int.reduceSub, Int.reduceNeg, Int.reduceEq, Int.reduceNe, Int.reduceBEq, Int.reduceBNe, BitVec.reduceBEq, BitVec.reduceBNe, BitVec.reduceOfInt, BitVec.reduceSetWidth, -List.reduceReplicate, f1]
        refine LoopOk.up 32 (fun n => ([(58, .int .i64 n), (7, .ptr 4 0), (3, .ptr 3 0), (2, .ptr 2 0)], [(4, .cells (bvs .u8 (outN V n)) 199), (3, (.cells (bvs .u32 (V) ++ [.sl 1 0 rest.length cap0, .int .u64 (many.toNat : Int)]) 262)), (2, (.cells (bvs .u8 (List.replicate 32 (0 : BitVec 8))) 199)), (0, (.cells (bvs .u32 (W) ++ [.sl 1 0 rest.length cap0, .int .u64 (many.toNat : Int)]) 262)), (1, (.cells (bvs .u8 rest ++ sp0.map AV.val) 5))], 5)) (Le.sameT (by decide) (by simp only [-List.reduceReplicate, slotsSame, Eng.look, Nat.reduceEqDiff, outN, reduceIte, reduceCtorEq, if_true, if_false, eq_self, true_and, and_true, Option.some.injEq, AV.int.injEq]; (try simp (disch := omega) only [wrap_i64]); (try simp [-List.reduceReplicate]); (try omega)) (by simp only [-List.reduceReplicate, memSame, Eng.look, Nat.reduceEqDiff, outN, reduceIte, reduceCtorEq, if_true, if_false, eq_self, true_and, and_true, Option.some.injEq, AObj.cells.injEq, bvs_rep8, bvs_rep16, bvs_rep32, bvs_rep64, bvs_flat_rep, Nat.reduceMul, bvs_append, List.replicate_append_replicate, Nat.reduceAdd, bvs_inj]; try simp [-List.reduceReplicate]) (by simp [-List.reduceReplicate])) ?_
        intro n hn
        have hol := outN_len V n
        rcases Nat.lt_or_ge n 32 with h3 | h3
        · have f1 : decide ((n : Int) < 32) = true := by simp; omega
          have w1 : IntKind.i64.wrap ((n : Int).tdiv 4) = ((n / 4 : Nat) : Int) := by rw [Int.tdiv_eq_ediv_of_nonneg (by omega), wrap_i64] <;> omega
          have w2 : (n : Int).tmod 4 = ((n % 4 : Nat) : Int) := by rw [Int.tmod_eq_emod_of_nonneg (by omega)]; omega
          have w3 : IntKind.i64.wrap (8 * ((n % 4 : Nat) : Int)) = ((8 * (n % 4) : Nat) : Int) := by rw [wrap_i64] <;> omega
          have w4 : IntKind.i64.wrap (24 - ((8 * (n % 4) : Nat) : Int)) = ((24 - 8 * (n % 4) : Nat) : Int) := by rw [wrap_i64] <;> omega
          have wn : IntKind.i64.wrap ((n : Int) + 1) = ((n + 1 : Nat) : Int) := by rw [wrap_i64] <;> omega
          have hgd := bvsS_getD .u32 V [.sl 1 0 rest.length cap0, .int .u64 (many.toNat : Int)] (n / 4) (by rw [hbl, hW]; omega)
          simp (maxSteps := 1000000) -implicitDefEqProofs only [go_sem, Nat.reduceBEq, Nat.reduceLT, Nat.reduceLeDiff, Nat.reduceEqDiff, Nat.reduceAdd, Nat.reduceMul, Nat.reduceSub, reduceIte, reduceCtorEq, Int.reduceLT, Int.reduceLE, Int.reduceToNat, Int.reduceAdd, Int.reduceSub, Int.reduceNeg, Int.reduceEq, Int.reduceNe, Int.reduceBEq, Int.reduceBNe, BitVec.reduceBEq, BitVec.reduceBNe, BitVec.reduceOfInt, BitVec.reduceSetWidth, -List.reduceReplicate, f1, w1, w2, w3, w4, wn, hgd]
          exact ⟨by omega, by omega, by omega, by omega, UpK_normal h3 (Le.sameT (by decide) (by simp only [-List.reduceReplicate, slotsSame, Eng.look, Nat.reduceEqDiff, outN, outB, reduceIte, reduceCtorEq, if_true, if_false, eq_self, true_and, and_true, Option.some.injEq, AV.int.injEq]; (try simp (disch := omega) only [wrap_i64]); (try simp [-List.reduceReplicate]); (try omega)) (by simp only [-List.reduceReplicate, memSame, Eng.look, Nat.reduceEqDiff, outN, outB, reduceIte, reduceCtorEq, if_true, if_false, eq_self, true_and, and_true, Option.some.injEq, AObj.cells.injEq, bvs_rep8, bvs_rep16, bvs_rep32, bvs_rep64, bvs_flat_rep, Nat.reduceMul, bvs_append, List.replicate_append_replicate, Nat.reduceAdd, bvs_inj]; try simp [-List.reduceReplicate]) (by simp [-List.reduceReplicate]))⟩
        · have hn3 : n = 32 := by omega
          subst hn3
          have f1 : decide ((32 : Int) < 32) = false := rfl
          have htk : List.take 32 (outN V 32) = outN V 32 := List.take_of_length_le (by rw [hol]; exact Nat.le_refl _)
          simp (maxSteps := 1000000) -implicitDefEqProofs only [go_sem, Nat.reduceBEq, Nat.reduceLT, Nat.reduceLeDiff, Nat.reduceEqDiff, Nat.reduceAdd, Nat.reduceMul, Nat.reduceSub, reduceIte, reduceCtorEq, Int.reduceLT, Int.reduceLE, Int.reduceToNat, Int.reduceAdd, Int.reduceSub, Int.reduceNeg, Int.reduceEq, Int.reduceNe, Int.reduceBEq, Int.reduceBNe, BitVec.reduceBEq, BitVec.reduceBNe, BitVec.reduceOfInt, BitVec.reduceSetWidth, -List.reduceReplicate, f1, htk, hol]
          exact ⟨[], .agg (bvs .u8 (outN V 32)), [(0, (.cells (bvs .u32 (W) ++ [.sl 1 0 rest.length cap0, .int .u64 (many.toNat : Int)]) 262)), (1, (.cells (bvs .u8 rest ++ sp0.map AV.val) 5))], 2, ⟨rfl, Nat.le_refl _⟩, by simp only [renA, bvs_ren], ⟨by simp only [renO, renL_append, bvs_ren]; rfl, rfl, by simp only [renO, renL_vals']; rfl, rfl, trivial⟩, (by simp [injOn]; decide), (fun n e => by cases e), rfl, rfl, rfl⟩
end Go.Proofs.Ytmdeoikpiiambaa
/-! Shf -/
namespace Go.Proofs.Ytmdeoikpiiambaa
open Go Go.Eng
def shaP (b : List (BitVec 8)) : List (BitVec 8) := outN (sumW (bl beginL b (b.length / 64)) (b.drop (64 * (b.length / 64))) (0 + BitVec.ofNat 64 b.length)) 32
theorem shaP_len (b : List (BitVec 8)) : (shaP b).length = 32 := outN_len _ _
set_option maxHeartbeats 800000 in
theorem shaSumOk (b : List (BitVec 8)) (hb : b.length ≤ 100000) : CallOk Try.prog 134 [.ro b.length (bvs .u8 b)] (fun _ => true) [] 0 fun v m nx => v = .agg (bvs .u8 (shaP b)) ∧ m = [] ∧ nx = 0 := by
  refine fn_ok Try.func134 rfl (by show 1 ≤ _; decide) ?_
  simp (maxSteps := 1000000) -implicitDefEqProofs only [go_sem, Nat.reduceBEq, Nat.reduceLT, Nat.reduceLeDiff, Nat.reduceEqDiff, Nat.reduceAdd, Nat.reduceMul, Nat.reduceSub, reduceIte, reduceCtorEq, Int.reduceLT, Int.reduceLE, Int.reduceToNat, Int.reduceAdd, Int.reduceSub, Int.reduceNeg, Int.reduceEq, Int.reduceNe, Int.reduceBEq, Int.reduceBNe, BitVec.reduceBEq, BitVec.reduceBNe, BitVec.reduceOfInt, BitVec.reduceSetWidth, -List.reduceReplicate, Try.results134, Try.ntmps134]
  refine newOk.more trivial ?_
  rintro v m' nx' ⟨rfl, rfl, rfl⟩
  refine ⟨rfl, by simp only [noRoM, noRoO, noRoL_append, bvs_noRo]; rfl, ?_⟩
  simp (maxSteps := 1000000) -implicitDefEqProofs only [go_sem, Nat.reduceBEq, Nat.reduceLT, Nat.reduceLeDiff, Nat.reduceEqDiff, Nat.reduceAdd, Nat.reduceMul, Nat.reduceSub, reduceIte, reduceCtorEq, Int.reduceLT, Int.reduceLE, Int.reduceToNat, Int.reduceAdd, Int.reduceSub, Int.reduceNeg, Int.reduceEq, Int.reduceNe, Int.reduceBEq, Int.reduceBNe, BitVec.reduceBEq, BitVec.reduceBNe, BitVec.reduceOfInt, BitVec.reduceSetWidth, -List.reduceReplicate, renL_append]
  refine (writeNil beginL rfl 0 b hb).use [(0, 1)] rfl ⟨by simp only [renO, renL_append, bvs_ren]; rfl, fun _ => rfl, trivial⟩ (by simp [injOn]) rfl (fun _ _ => rfl) (fun _ e => by cases e) ⟨rfl, by simp only [argx, renA, bvs_ren], trivial⟩ ?_
  rintro v m' nx' ⟨rfl, cap, sp, rfl, rfl, h1, h2⟩
  simp only [List.nil_append] at h1 ⊢
  refine ⟨rfl, by simp only [noRoM, noRoO, noRoL_append, bvs_noRo, noRoL_vals]; rfl, by decide, ?_⟩
  have hrl : (b.drop (64 * (b.length / 64))).length ≤ 100 := by rw [List.length_drop]; omega
  have hS : shaP b = outN (sumW (bl beginL b (b.length / 64)) (b.drop (64 * (b.length / 64))) (0 + BitVec.ofNat 64 b.length)) 32 := rfl
  have hWl : (bl beginL b (b.length / 64)).length = 8 := by rw [bl_len]; rfl
  generalize bl beginL b (b.length / 64) = W at *
  generalize b.drop (64 * (b.length / 64)) = rest at *
  generalize 0 + BitVec.ofNat 64 b.length = many at *
  simp only [renM, renO, renL_append, bvs_ren, renL_vals]
  change After _ _ _ _ [(1, .cells (bvs .u32 W ++ [.sl 2 0 rest.length cap, .int .u64 (many.toNat : Int)]) 262), (2, .cells (bvs .u8 rest ++ sp.map AV.val) 5), (0, .cells (bvs .u8 (List.replicate 32 (0 : BitVec 8))) 199)] 3
  simp (maxSteps := 1000000) -implicitDefEqProofs only [go_sem, Nat.reduceBEq, Nat.reduceLT, Nat.reduceLeDiff, Nat.reduceEqDiff, Nat.reduceAdd, Nat.reduceMul, Nat.reduceSub, reduceIte, reduceCtorEq, Int.reduceLT, Int.reduceLE, Int.reduceToNat, Int.reduceAdd, Int.reduceSub, Int.reduceNeg, Int.reduceEq, Int.reduceNe, Int.reduceBEq, Int.reduceBNe, BitVec.reduceBEq, BitVec.reduceBNe, BitVec.reduceOfInt, BitVec.reduceSetWidth, -List.reduceReplicate]
  refine (sumMOk W hWl rest hrl cap sp many).use [(0, 1), (1, 2)] rfl ⟨by simp only [renO, renL_append, bvs_ren]; rfl, fun _ => rfl, by simp only [renO, renL_append, bvs_ren, renL_vals]; rfl, fun _ => rfl, trivial⟩ (by simp [injOn]; decide) rfl (fun _ _ => rfl) (fun _ e => by cases e) ⟨rfl, trivial⟩ ?_
  rintro v m' nx' ⟨rfl, rfl, rfl⟩
  refine ⟨by simp only [noRo, bvs_noRo], by simp only [noRoM, noRoO, noRoL_append, bvs_noRo, noRoL_vals]; rfl, by decide, ?_⟩
  rw [← hS]
  have hl := shaP_len b
  have htk : List.take 32 (shaP b) = shaP b := List.take_of_length_le (by rw [hl]; exact Nat.le_refl _)
  simp only [renM, renO, renL_append, bvs_ren, renL_vals, renA]
  change After _ _ _ _ [(1, .cells (bvs .u32 W ++ [.sl 2 0 rest.length cap, .int .u64 (many.toNat : Int)]) 262), (2, .cells (bvs .u8 rest ++ sp.map AV.val) 5), (0, .cells (bvs .u8 (List.replicate 32 (0 : BitVec 8))) 199)] 3
  simp (maxSteps := 1000000) -implicitDefEqProofs only [go_sem, Nat.reduceBEq, Nat.reduceLT, Nat.reduceLeDiff, Nat.reduceEqDiff, Nat.reduceAdd, Nat.reduceMul, Nat.reduceSub, reduceIte, reduceCtorEq, Int.reduceLT, Int.reduceLE, Int.reduceToNat, Int.reduceAdd, Int.reduceSub, Int.reduceNeg, Int.reduceEq, Int.reduceNe, Int.reduceBEq, Int.reduceBNe, BitVec.reduceBEq, BitVec.reduceBNe, BitVec.reduceOfInt, BitVec.reduceSetWidth, -List.reduceReplicate, hl, htk]
  exact Fin.flatv (fun _ => rfl) (fun f => by simp only [renA, bvs_ren]) ⟨rfl, rfl, rfl⟩
/-- the document's words of a block -/
def rwB (b : List (BitVec 8)) (i : Nat) : Nat → BitVec 32
  | 0 => 0#32
  | k + 1 => 256#32 * rwB b i k + (b.getD (4 * i + k) 0).setWidth 32
def s0R (x : BitVec 32) : BitVec 32 := rotN x 7 ^^^ rotN x 18 ^^^ x / 8#32
def s1R (y : BitVec 32) : BitVec 32 := rotN y 17 ^^^ rotN y 19 ^^^ y / 1024#32
def rNext (b : List (BitVec 8)) (w : List (BitVec 32)) (n : Nat) : BitVec 32 := if n < 16 then rwB b n 4 else w.getD (n - 16) 0 + s0R (w.getD (n - 15) 0) + w.getD (n - 7) 0 + s1R (w.getD (n - 2) 0)
def rl (b : List (BitVec 8)) : Nat → List (BitVec 32)
  | 0 => []
  | n + 1 => rl b n ++ [rNext b (rl b n) n]
theorem rl_len (b : List (BitVec 8)) (n : Nat) : (rl b n).length = n := by
  induction n with
  | zero => rfl
  | succ n ih => simp [rl, ih]
theorem memSame_self : ∀ {m : Mem}, (m.map fun p => p.1).Nodup → memSame m m := by
  have key : ∀ (m0 m : Mem), (∀ p ∈ m, Eng.look m0 p.1 = some p.2) → memSame m0 m := by
    intro m0 m
    induction m with
    | nil => intro _; trivial
    | cons p r ih => intro h; exact ⟨h p (List.mem_cons_self ..), ih fun q hq => h q (List.mem_cons_of_mem _ hq)⟩
  intro m h
  refine key m m ?_
  induction m with
  | nil => intro p hp; cases hp
  | cons q r ih =>
    obtain ⟨k, o⟩ := q
    simp only [List.map_cons, List.nodup_cons] at h
    intro p hp
    rcases List.mem_cons.1 hp with rfl | hp
    · simp [Eng.look]
    · have hne : k ≠ p.1 := fun e => h.1 (by rw [e]; exact List.mem_map_of_mem hp)
      simp only [Eng.look]
      rw [if_neg hne]
      exact ih h.2 p hp
theorem Le.sameM {t t' : Slots} {m : Mem} {nx : Nat} (hs : slotsSame t t') (hd : (m.map fun p => p.1).Nodup) : ∃ l, Le 0 l (fun _ => true) t m nx t' m nx :=
  Le.sameT (Nat.zero_le _) hs (memSame_self hd) hd
theorem ApI_nodup {k : IntKind} {ty w : Nat} {X : List (BitVec w)} {x : AV × Mem × Nat} (h : ApI k ty X x) : (x.2.1.map fun p => p.1).Nodup := by
  rcases h with ⟨_, rfl⟩ | ⟨cap, sp, rfl, _⟩
  · simp
  · simp
theorem ApI_hd {k : IntKind} {ty w : Nat} {X : List (BitVec w)} {x : AV × Mem × Nat} (h : ApI k ty X x) {o q : AObj} (ho : Eng.look x.2.1 0 = some o) : Eng.look ((x.2.2, q) :: x.2.1) 0 = some o := by
  rcases h with ⟨_, rfl⟩ | ⟨cap, sp, rfl, _⟩
  · cases ho
  · exact ho
theorem vals_det (sp : List Value) : (sp.map AV.val).all det = true := by
  induction sp with
  | nil => rfl
  | cons x r ih => simp only [List.map_cons, List.all_cons, ih, Bool.and_true]; rfl
def idG (s : AV) : AV := s
set_option maxHeartbeats 1600000 in
theorem rspreadOk (b : List (BitVec 8)) (h64 : b.length = 64) : CallOk Try.prog 139 [.ro 64 (bvs .u8 b)] (fun _ => true) [] 0 (Rets idG .u32 (rl b 64) 108) := by
  refine fn_ok Try.func139 rfl (by show 1 ≤ _; decide) ?_
  simp (maxSteps := 1000000) -implicitDefEqProofs only [go_sem, Nat.reduceBEq, Nat.reduceLT, Nat.reduceLeDiff, Nat.reduceEqDiff, Nat.reduceAdd, Nat.reduceMul, Nat.reduceSub, reduceIte, reduceCtorEq, Int.reduceLT, Int.reduceLE, Int.reduceToNat, Int.reduceAdd, Int.reduceSub, Int.reduceNeg, Int.reduceEq, Int.reduceNe, Int.reduceBEq, Int.reduceBNe, BitVec.reduceBEq, BitVec.reduceBNe, BitVec.reduceOfInt, BitVec.reduceSetWidth, -List.reduceReplicate, Try.results139, Try.ntmps139]
  refine LoopOk.upX (fun n x => ApI .u32 108 (rl b n) x) 64 (fun n x => ((3, x.1) :: [(4, .int .i64 n), (0, .ro 64 (bvs .u8 b))], x.2.1, x.2.2)) (.nils, [], 0) (ApI.nil _ _) (Le.sameT (by decide) (by simp only [-List.reduceReplicate, slotsSame, Eng.look, Nat.reduceEqDiff, reduceIte, reduceCtorEq, if_true, if_false, eq_self, true_and, and_true, Option.some.injEq, AV.int.injEq]; (try simp (disch := omega) only [wrap_i64]); (try simp [-List.reduceReplicate]); (try omega)) (by simp only [-List.reduceReplicate, memSame, Eng.look, Nat.reduceEqDiff, reduceIte, reduceCtorEq, if_true, if_false, eq_self, true_and, and_true, Option.some.injEq, AObj.cells.injEq, bvs_rep8, bvs_rep16, bvs_rep32, bvs_rep64, bvs_flat_rep, Nat.reduceMul, bvs_append, List.replicate_append_replicate, Nat.reduceAdd, bvs_inj]; try simp [-List.reduceReplicate]) (by simp [-List.reduceReplicate])) ?_
  intro n x ⟨hn, hq⟩
  have hrl := rl_len b n
  have wn : IntKind.i64.wrap ((n : Int) + 1) = ((n + 1 : Nat) : Int) := by rw [wrap_i64] <;> omega
  rcases Nat.lt_or_ge n 64 with h' | h'
  · have f1 : decide ((n : Int) < 64) = true := by simp; omega
    rcases Nat.lt_or_ge n 16 with g | g
    · have f2 : decide ((n : Int) < 16) = true := by simp; omega
      simp (maxSteps := 1000000) -implicitDefEqProofs only [go_sem, Nat.reduceBEq, Nat.reduceLT, Nat.reduceLeDiff, Nat.reduceEqDiff, Nat.reduceAdd, Nat.reduceMul, Nat.reduceSub, reduceIte, reduceCtorEq, Int.reduceLT, Int.reduceLE, Int.reduceToNat, Int.reduceAdd, Int.reduceSub, Int.reduceNeg, Int.reduceEq, Int.reduceNe, Int.reduceBEq, Int.reduceBNe, BitVec.reduceBEq, BitVec.reduceBNe, BitVec.reduceOfInt, BitVec.reduceSetWidth, -List.reduceReplicate, f1, f2]
      refine LoopOk.up 4 (fun k => ([(6, .int .i64 k), (5, .int .u32 ((rwB b n k).toNat : Int)), (3, x.1), (4, .int .i64 n), (0, .ro 64 (bvs .u8 b))], x.2.1, x.2.2)) (Le.sameM ⟨rfl, rfl, rfl, rfl, rfl, trivial⟩ (ApI_nodup hq)) ?_
      intro k hk
      simp (maxSteps := 1000000) -implicitDefEqProofs only [go_sem, Nat.reduceBEq, Nat.reduceLT, Nat.reduceLeDiff, Nat.reduceEqDiff, Nat.reduceAdd, Nat.reduceMul, Nat.reduceSub, reduceIte, reduceCtorEq, Int.reduceLT, Int.reduceLE, Int.reduceToNat, Int.reduceAdd, Int.reduceSub, Int.reduceNeg, Int.reduceEq, Int.reduceNe, Int.reduceBEq, Int.reduceBNe, BitVec.reduceBEq, BitVec.reduceBNe, BitVec.reduceOfInt, BitVec.reduceSetWidth, -List.reduceReplicate]
      refine cndv_split (fun h => ?_) (fun h => ?_)
      · have h4 : k < 4 := by have := of_decide_eq_true h; omega
        have wk : IntKind.i64.wrap ((k : Int) + 1) = ((k + 1 : Nat) : Int) := by rw [wrap_i64] <;> omega
        have w4 : IntKind.i64.wrap (4 * (n : Int)) = ((4 * n : Nat) : Int) := by rw [wrap_i64] <;> omega
        have w5 : IntKind.i64.wrap (((4 * n : Nat) : Int) + (k : Int)) = ((4 * n + k : Nat) : Int) := by rw [wrap_i64] <;> omega
        simp (maxSteps := 1000000) -implicitDefEqProofs only [go_sem, Nat.reduceBEq, Nat.reduceLT, Nat.reduceLeDiff, Nat.reduceEqDiff, Nat.reduceAdd, Nat.reduceMul, Nat.reduceSub, reduceIte, reduceCtorEq, Int.reduceLT, Int.reduceLE, Int.reduceToNat, Int.reduceAdd, Int.reduceSub, Int.reduceNeg, Int.reduceEq, Int.reduceNe, Int.reduceBEq, Int.reduceBNe, BitVec.reduceBEq, BitVec.reduceBNe, BitVec.reduceOfInt, BitVec.reduceSetWidth, -List.reduceReplicate, wk, w4, w5, h64, List.length_drop]
        refine ⟨by omega, by omega, by omega, UpK_normal h4 (Le.sameM ⟨rfl, ?_, rfl, rfl, rfl, trivial⟩ (ApI_nodup hq))⟩
        simp only [Eng.look, Nat.reduceEqDiff, reduceIte, if_true, if_false, rwB, Option.some.injEq]
      · have h4 : k = 4 := by have := of_decide_eq_false h; omega
        subst h4
        simp (maxSteps := 1000000) -implicitDefEqProofs only [go_sem, Nat.reduceBEq, Nat.reduceLT, Nat.reduceLeDiff, Nat.reduceEqDiff, Nat.reduceAdd, Nat.reduceMul, Nat.reduceSub, reduceIte, reduceCtorEq, Int.reduceLT, Int.reduceLE, Int.reduceToNat, Int.reduceAdd, Int.reduceSub, Int.reduceNeg, Int.reduceEq, Int.reduceNe, Int.reduceBEq, Int.reduceBNe, BitVec.reduceBEq, BitVec.reduceBNe, BitVec.reduceOfInt, BitVec.reduceSetWidth, -List.reduceReplicate]
        refine ⟨.inr trivial, rfl, ?_⟩
        have hnx : rNext b (rl b n) n = rwB b n 4 := by rw [rNext, if_pos g]
        refine appk_ap (y := [rwB b n 4]) hq (fun o h => ?_) (fun _ => rfl) (by simp) (by decide) (by rw [hrl]; simp only [List.length_cons, List.length_nil]; omega) fun cap sp m3 c1 c2 => ?_
        · exact ApI_hd hq h
        simp (maxSteps := 1000000) -implicitDefEqProofs only [go_sem, Nat.reduceBEq, Nat.reduceLT, Nat.reduceLeDiff, Nat.reduceEqDiff, Nat.reduceAdd, Nat.reduceMul, Nat.reduceSub, reduceIte, reduceCtorEq, Int.reduceLT, Int.reduceLE, Int.reduceToNat, Int.reduceAdd, Int.reduceSub, Int.reduceNeg, Int.reduceEq, Int.reduceNe, Int.reduceBEq, Int.reduceBNe, BitVec.reduceBEq, BitVec.reduceBNe, BitVec.reduceOfInt, BitVec.reduceSetWidth, -List.reduceReplicate, wn]
        refine UpX_normal h' (_, _, _) (ApI.some (X := rl b (n + 1)) (by rw [rl, hnx]; exact c1) c2) ?_
        exact Le.ap (n := x.2.2 + 1) (by rw [rl, hnx, List.length_append]; rfl) (by rw [rl, hnx]; exact look_hd _ _ _) rfl ⟨rfl, rfl, trivial⟩ (by simp only [List.all_cons, List.all_nil, flatro, flatroL_bvs, Bool.and_self])
    · have f2 : decide ((n : Int) < 16) = false := by simp; omega
      rcases hq with ⟨hnil, rfl⟩ | ⟨cap, sp, rfl, hc1, hc2⟩
      · have := congrArg List.length hnil; rw [hrl] at this; simp at this; omega
      have hnx : rNext b (rl b n) n = (rl b n).getD (n - 16) 0 + s0R ((rl b n).getD (n - 15) 0) + (rl b n).getD (n - 7) 0 + s1R ((rl b n).getD (n - 2) 0) := by rw [rNext, if_neg (by omega)]
      have hrs : rl b (n + 1) = rl b n ++ [rNext b (rl b n) n] := rfl
      rw [hnx] at hrs
      have w15 : IntKind.i64.wrap ((n : Int) - 15) = ((n - 15 : Nat) : Int) := by rw [wrap_i64] <;> omega
      have w2 : IntKind.i64.wrap ((n : Int) - 2) = ((n - 2 : Nat) : Int) := by rw [wrap_i64] <;> omega
      have w16 : IntKind.i64.wrap ((n : Int) - 16) = ((n - 16 : Nat) : Int) := by rw [wrap_i64] <;> omega
      have w7 : IntKind.i64.wrap ((n : Int) - 7) = ((n - 7 : Nat) : Int) := by rw [wrap_i64] <;> omega
      have g15 := bvsS_getD .u32 (rl b n) (sp.map AV.val) (n - 15) (by omega)
      have g2 := bvsS_getD .u32 (rl b n) (sp.map AV.val) (n - 2) (by omega)
      have g16 := bvsS_getD .u32 (rl b n) (sp.map AV.val) (n - 16) (by omega)
      have g7 := bvsS_getD .u32 (rl b n) (sp.map AV.val) (n - 7) (by omega)
      simp (maxSteps := 1000000) -implicitDefEqProofs only [go_sem, Nat.reduceBEq, Nat.reduceLT, Nat.reduceLeDiff, Nat.reduceEqDiff, Nat.reduceAdd, Nat.reduceMul, Nat.reduceSub, reduceIte, reduceCtorEq, Int.reduceLT, Int.reduceLE, Int.reduceToNat, Int.reduceAdd, Int.reduceSub, Int.reduceNeg, Int.reduceEq, Int.reduceNe, Int.reduceBEq, Int.reduceBNe, BitVec.reduceBEq, BitVec.reduceBNe, BitVec.reduceOfInt, BitVec.reduceSetWidth, -List.reduceReplicate, f1, f2, w15, w2, g15, g2]
      refine ⟨by omega, by omega, by omega, by omega, ?_⟩
      refine (rrotOk ((rl b n).getD (n - 15) 0) 7 (by decide)).flatv (by simp only [argsx, argx_int, argx_bool, argx_fn, argx_ro, argx_nils, eq_self, true_and, and_true, and_self]; try trivial) (fun _ => rfl) rfl ?_
      simp (maxSteps := 1000000) -implicitDefEqProofs only [go_sem, Nat.reduceBEq, Nat.reduceLT, Nat.reduceLeDiff, Nat.reduceEqDiff, Nat.reduceAdd, Nat.reduceMul, Nat.reduceSub, reduceIte, reduceCtorEq, Int.reduceLT, Int.reduceLE, Int.reduceToNat, Int.reduceAdd, Int.reduceSub, Int.reduceNeg, Int.reduceEq, Int.reduceNe, Int.reduceBEq, Int.reduceBNe, BitVec.reduceBEq, BitVec.reduceBNe, BitVec.reduceOfInt, BitVec.reduceSetWidth, -List.reduceReplicate]
      refine (rrotOk ((rl b n).getD (n - 15) 0) 18 (by decide)).flatv (by simp only [argsx, argx_int, argx_bool, argx_fn, argx_ro, argx_nils, eq_self, true_and, and_true, and_self]; try trivial) (fun _ => rfl) rfl ?_
      simp (maxSteps := 1000000) -implicitDefEqProofs only [go_sem, Nat.reduceBEq, Nat.reduceLT, Nat.reduceLeDiff, Nat.reduceEqDiff, Nat.reduceAdd, Nat.reduceMul, Nat.reduceSub, reduceIte, reduceCtorEq, Int.reduceLT, Int.reduceLE, Int.reduceToNat, Int.reduceAdd, Int.reduceSub, Int.reduceNeg, Int.reduceEq, Int.reduceNe, Int.reduceBEq, Int.reduceBNe, BitVec.reduceBEq, BitVec.reduceBNe, BitVec.reduceOfInt, BitVec.reduceSetWidth, -List.reduceReplicate]
      refine (rrotOk ((rl b n).getD (n - 2) 0) 17 (by decide)).flatv (by simp only [argsx, argx_int, argx_bool, argx_fn, argx_ro, argx_nils, eq_self, true_and, and_true, and_self]; try trivial) (fun _ => rfl) rfl ?_
      simp (maxSteps := 1000000) -implicitDefEqProofs only [go_sem, Nat.reduceBEq, Nat.reduceLT, Nat.reduceLeDiff, Nat.reduceEqDiff, Nat.reduceAdd, Nat.reduceMul, Nat.reduceSub, reduceIte, reduceCtorEq, Int.reduceLT, Int.reduceLE, Int.reduceToNat, Int.reduceAdd, Int.reduceSub, Int.reduceNeg, Int.reduceEq, Int.reduceNe, Int.reduceBEq, Int.reduceBNe, BitVec.reduceBEq, BitVec.reduceBNe, BitVec.reduceOfInt, BitVec.reduceSetWidth, -List.reduceReplicate]
      refine (rrotOk ((rl b n).getD (n - 2) 0) 19 (by decide)).flatv (by simp only [argsx, argx_int, argx_bool, argx_fn, argx_ro, argx_nils, eq_self, true_and, and_true, and_self]; try trivial) (fun _ => rfl) rfl ?_
      simp (maxSteps := 1000000) -implicitDefEqProofs only [go_sem, Nat.reduceBEq, Nat.reduceLT, Nat.reduceLeDiff, Nat.reduceEqDiff, Nat.reduceAdd, Nat.reduceMul, Nat.reduceSub, reduceIte, reduceCtorEq, Int.reduceLT, Int.reduceLE, Int.reduceToNat, Int.reduceAdd, Int.reduceSub, Int.reduceNeg, Int.reduceEq, Int.reduceNe, Int.reduceBEq, Int.reduceBNe, BitVec.reduceBEq, BitVec.reduceBNe, BitVec.reduceOfInt, BitVec.reduceSetWidth, -List.reduceReplicate]
      refine ⟨Fx.mixed, .inr (.inl ⟨[(0, false), (1, false), (2, false), (3, false), (4, false), (5, false), (6, false), (7, false), (8, false), (9, false), (10, false), (11, false), (12, false), (13, false), (14, false), (15, false), (16, true), (17, true), (18, false)], [0], [17], [5, 12], by kernel_rfl, by kernel_rfl, (fun n hn => by cases List.mem_singleton.1 hn; exact ⟨rfl, rfl⟩), ?_⟩)⟩
      simp (maxSteps := 1000000) -implicitDefEqProofs only [go_sem, Nat.reduceBEq, Nat.reduceLT, Nat.reduceLeDiff, Nat.reduceEqDiff, Nat.reduceAdd, Nat.reduceMul, Nat.reduceSub, reduceIte, reduceCtorEq, Int.reduceLT, Int.reduceLE, Int.reduceToNat, Int.reduceAdd, Int.reduceSub, Int.reduceNeg, Int.reduceEq, Int.reduceNe, Int.reduceBEq, Int.reduceBNe, BitVec.reduceBEq, BitVec.reduceBNe, BitVec.reduceOfInt, BitVec.reduceSetWidth, -List.reduceReplicate, w16, w7, g16, g7]
      refine ⟨by omega, by omega, by omega, by omega, .inr trivial, rfl, ?_⟩
      obtain ⟨z, hz⟩ : ∃ z, z = (rl b n).getD (n - 16) 0 + s0R ((rl b n).getD (n - 15) 0) + (rl b n).getD (n - 7) 0 + s1R ((rl b n).getD (n - 2) 0) := ⟨_, rfl⟩
      rw [← hz] at hrs
      change appk _ _ _ _ _ _ _ (1, bvs .u32 (List.take 1 ((List.replicate 1 (0 : BitVec 32)).set 0 ((rl b n).getD (n - 16) 0 + s0R ((rl b n).getD (n - 15) 0) + (rl b n).getD (n - 7) 0 + s1R ((rl b n).getD (n - 2) 0))))) _
      rw [← hz]
      refine appk_bvs (x := rl b n) (y := [z]) (sp := sp) (n := 0) rfl rfl hc1 hc2 (by decide) (by simp only [List.length_cons, List.length_nil]; omega) fun cap2 sp2 c1 c2 => ?_
      rw [← hrs]
      rw [← hrs] at c1
      simp (maxSteps := 1000000) -implicitDefEqProofs only [go_sem, Nat.reduceBEq, Nat.reduceLT, Nat.reduceLeDiff, Nat.reduceEqDiff, Nat.reduceAdd, Nat.reduceMul, Nat.reduceSub, reduceIte, reduceCtorEq, Int.reduceLT, Int.reduceLE, Int.reduceToNat, Int.reduceAdd, Int.reduceSub, Int.reduceNeg, Int.reduceEq, Int.reduceNe, Int.reduceBEq, Int.reduceBNe, BitVec.reduceBEq, BitVec.reduceBNe, BitVec.reduceOfInt, BitVec.reduceSetWidth, -List.reduceReplicate, wn]
      refine UpX_normal h' (_, _, _) (ApI.some c1 c2) ?_
      exact Le.ap (n := 2) rfl (look_hd _ _ _) rfl ⟨rfl, rfl, trivial⟩ (by simp only [List.all_cons, List.all_nil, flatro, flatroL_bvs, Bool.and_self])
  · have hnn : n = 64 := by omega
    subst hnn
    have f1 : decide ((64 : Int) < 64) = false := rfl
    simp (maxSteps := 1000000) -implicitDefEqProofs only [go_sem, Nat.reduceBEq, Nat.reduceLT, Nat.reduceLeDiff, Nat.reduceEqDiff, Nat.reduceAdd, Nat.reduceMul, Nat.reduceSub, reduceIte, reduceCtorEq, Int.reduceLT, Int.reduceLE, Int.reduceToNat, Int.reduceAdd, Int.reduceSub, Int.reduceNeg, Int.reduceEq, Int.reduceNe, Int.reduceBEq, Int.reduceBNe, BitVec.reduceBEq, BitVec.reduceBNe, BitVec.reduceOfInt, BitVec.reduceSetWidth, -List.reduceReplicate, f1]
    exact Fin.ap hq idG (fun _ _ => rfl) (fun _ => rfl)
end Go.Proofs.Ytmdeoikpiiambaa
end
section
/- SHA-256: the document: roots, bytes that are padded. -/
set_option linter.unusedVariables false
set_option linter.unusedSimpArgs false
set_option maxRecDepth 100000
/-! Shg -/
namespace Go.Proofs.Ytmdeoikpiiambaa
open Go Go.Eng
def pw (n : Nat) : BitVec 64 := BitVec.ofNat 64 (256 ^ (7 - n))
theorem pw_step : ∀ n : Fin 8, (pw n.val / 256#64).toNat = if n.val + 1 < 8 then (pw (n.val + 1)).toNat else 0 := by decide
theorem pw_pos : ∀ n : Fin 8, 0 < (pw n.val).toNat := by decide
/-- eight bytes of a number, by its quotients -/
def ry8 (m : BitVec 64) : Nat → List (BitVec 8)
  | 0 => []
  | n + 1 => ry8 m n ++ [(m / pw n % 256#64).setWidth 8]
theorem ry8_len (m : BitVec 64) (n : Nat) : (ry8 m n).length = n := by
  induction n with
  | zero => rfl
  | succ n ih => simp [ry8, ih]
def rpE (b : List (BitVec 8)) (m : BitVec 64) (n : Nat) : List (BitVec 8) := padZ b (zN b.length) ++ ry8 m n
theorem rpE_len (b : List (BitVec 8)) (m : BitVec 64) (n : Nat) : (rpE b m n).length = b.length + 1 + zN b.length + n := by simp [rpE, padZ_len, ry8_len]
theorem rpE_succ (b : List (BitVec 8)) (m : BitVec 64) (n : Nat) : rpE b m n ++ [(m / pw n % 256#64).setWidth 8] = rpE b m (n + 1) := by simp [rpE, ry8]
def padR (b : List (BitVec 8)) : List (BitVec 8) := rpE b (8#64 * BitVec.ofNat 64 b.length) 8
set_option maxHeartbeats 800000 in
theorem rpadOk (b : List (BitVec 8)) (hb : b.length ≤ 100000) : CallOk Try.prog 138 [.ro b.length (bvs .u8 b)] (fun _ => true) [] 0 (Rets idG .u8 (padR b) 5) := by
  refine fn_ok Try.func138 rfl (by show 1 ≤ _; decide) ?_
  have hzN : zN b.length < 64 := Nat.mod_lt _ (by decide)
  simp (maxSteps := 1000000) -implicitDefEqProofs only [go_sem, Nat.reduceBEq, Nat.reduceLT, Nat.reduceLeDiff, Nat.reduceEqDiff, Nat.reduceAdd, Nat.reduceMul, Nat.reduceSub, reduceIte, reduceCtorEq, Int.reduceLT, Int.reduceLE, Int.reduceToNat, Int.reduceAdd, Int.reduceSub, Int.reduceNeg, Int.reduceEq, Int.reduceNe, Int.reduceBEq, Int.reduceBNe, BitVec.reduceBEq, BitVec.reduceBNe, BitVec.reduceOfInt, BitVec.reduceSetWidth, -List.reduceReplicate, Try.results138, Try.ntmps138, List.take_length]
  refine ⟨.inl trivial, ?_⟩
  refine appk_bvs (x := ([] : List (BitVec 8))) (sp := []) rfl rfl rfl (by decide) (by decide) (by rw [List.length_nil]; omega) fun cap1 sp1 g1 g2 => ?_
  simp only [List.nil_append] at g1
  simp (maxSteps := 1000000) -implicitDefEqProofs only [go_sem, Nat.reduceBEq, Nat.reduceLT, Nat.reduceLeDiff, Nat.reduceEqDiff, Nat.reduceAdd, Nat.reduceMul, Nat.reduceSub, reduceIte, reduceCtorEq, Int.reduceLT, Int.reduceLE, Int.reduceToNat, Int.reduceAdd, Int.reduceSub, Int.reduceNeg, Int.reduceEq, Int.reduceNe, Int.reduceBEq, Int.reduceBNe, BitVec.reduceBEq, BitVec.reduceBNe, BitVec.reduceOfInt, BitVec.reduceSetWidth, -List.reduceReplicate]
  refine ⟨.inr trivial, rfl, rfl, ?_⟩
  refine appk_bvs (x := b) (y := [128#8]) (sp := sp1) (n := 1) rfl rfl g1 g2 (by decide) (by simp only [List.length_cons, List.length_nil]; omega) fun cap2 sp2 g3 g4 => ?_
  have hp0 : b ++ [128#8] = padZ b 0 := by simp [padZ]
  rw [hp0]
  rw [hp0] at g3
  simp (maxSteps := 1000000) -implicitDefEqProofs only [go_sem, Nat.reduceBEq, Nat.reduceLT, Nat.reduceLeDiff, Nat.reduceEqDiff, Nat.reduceAdd, Nat.reduceMul, Nat.reduceSub, reduceIte, reduceCtorEq, Int.reduceLT, Int.reduceLE, Int.reduceToNat, Int.reduceAdd, Int.reduceSub, Int.reduceNeg, Int.reduceEq, Int.reduceNe, Int.reduceBEq, Int.reduceBNe, BitVec.reduceBEq, BitVec.reduceBNe, BitVec.reduceOfInt, BitVec.reduceSetWidth, -List.reduceReplicate]
  refine LoopOk.upX (fun n x => (padZ b n).length + x.2.length = x.1 ∧ x.1 ≤ maxI) (zN b.length) (fun n x => ([(3, .sl 0 0 (padZ b n).length x.1), (0, .ro b.length (bvs .u8 b))], [(0, .cells (bvs .u8 (padZ b n) ++ x.2.map AV.val) 5)], 1)) (cap2, sp2) ⟨g3, g4⟩ ?_ ?_
  · exact Le.ap (n := 3) rfl (look_hd _ _ _) rfl ⟨rfl, trivial⟩ (by simp only [List.all_cons, List.all_nil, flatro, flatroL_bvs, Bool.and_self])
  intro n x ⟨hn, hq1, hq2⟩
  have hzl := padZ_len b n
  have hzm : ((padZ b n).length : Int).tmod 64 = (((b.length + 1 + n) % 64 : Nat) : Int) := by rw [hzl, Int.tmod_eq_emod_of_nonneg (by omega)]; omega
  rcases Nat.lt_or_ge n (zN b.length) with h' | h'
  · have f1 : ((((b.length + 1 + n) % 64 : Nat) : Int) != 56) = true := by
      rw [bne_iff_ne]; unfold zN at h'; omega
    simp (maxSteps := 1000000) -implicitDefEqProofs only [go_sem, Nat.reduceBEq, Nat.reduceLT, Nat.reduceLeDiff, Nat.reduceEqDiff, Nat.reduceAdd, Nat.reduceMul, Nat.reduceSub, reduceIte, reduceCtorEq, Int.reduceLT, Int.reduceLE, Int.reduceToNat, Int.reduceAdd, Int.reduceSub, Int.reduceNeg, Int.reduceEq, Int.reduceNe, Int.reduceBEq, Int.reduceBNe, BitVec.reduceBEq, BitVec.reduceBNe, BitVec.reduceOfInt, BitVec.reduceSetWidth, -List.reduceReplicate, hzm, f1]
    refine ⟨.inr trivial, rfl, rfl, ?_⟩
    refine appk_bvs (x := padZ b n) (y := [0#8]) (sp := x.2) (n := 0) rfl rfl hq1 hq2 (by decide) (by simp only [List.length_cons, List.length_nil]; omega) fun cap3 sp3 g5 g6 => ?_
    rw [padZ_succ]
    rw [padZ_succ] at g5
    simp (maxSteps := 1000000) -implicitDefEqProofs only [go_sem, Nat.reduceBEq, Nat.reduceLT, Nat.reduceLeDiff, Nat.reduceEqDiff, Nat.reduceAdd, Nat.reduceMul, Nat.reduceSub, reduceIte, reduceCtorEq, Int.reduceLT, Int.reduceLE, Int.reduceToNat, Int.reduceAdd, Int.reduceSub, Int.reduceNeg, Int.reduceEq, Int.reduceNe, Int.reduceBEq, Int.reduceBNe, BitVec.reduceBEq, BitVec.reduceBNe, BitVec.reduceOfInt, BitVec.reduceSetWidth, -List.reduceReplicate]
    refine UpX_normal h' (cap3, sp3) ⟨g5, g6⟩ (Le.ap (n := 2) rfl (look_hd _ _ _) rfl ⟨rfl, trivial⟩ (by simp only [List.all_cons, List.all_nil, flatro, flatroL_bvs, Bool.and_self]))
  · have hnz : n = zN b.length := by omega
    subst hnz
    have f1 : ((((b.length + 1 + zN b.length) % 64 : Nat) : Int) != 56) = false := by
      have : (b.length + 1 + zN b.length) % 64 = 56 := by unfold zN; omega
      rw [this]; rfl
    have he0 : padZ b (zN b.length) = rpE b (8#64 * BitVec.ofNat 64 b.length) 0 := by simp [rpE, ry8]
    have hR : padR b = rpE b (8#64 * BitVec.ofNat 64 b.length) 8 := rfl
    rw [hR]
    simp (maxSteps := 1000000) -implicitDefEqProofs only [go_sem, Nat.reduceBEq, Nat.reduceLT, Nat.reduceLeDiff, Nat.reduceEqDiff, Nat.reduceAdd, Nat.reduceMul, Nat.reduceSub, reduceIte, reduceCtorEq, Int.reduceLT, Int.reduceLE, Int.reduceToNat, Int.reduceAdd, Int.reduceSub, Int.reduceNeg, Int.reduceEq, Int.reduceNe, Int.reduceBEq, Int.reduceBNe, BitVec.reduceBEq, BitVec.reduceBNe, BitVec.reduceOfInt, BitVec.reduceSetWidth, -List.reduceReplicate, hzm, f1]
    rw [he0]
    rw [he0] at hq1
    generalize 8#64 * BitVec.ofNat 64 b.length = m8 at *
    refine LoopOk.upX (fun n x => (rpE b m8 n).length + x.2.length = x.1 ∧ x.1 ≤ maxI) 8 (fun n x => ([(3, .sl 0 0 (rpE b m8 n).length x.1), (6, .int .i64 n), (5, .int .u64 ((if n < 8 then (pw n).toNat else 0 : Nat) : Int)), (4, .int .u64 (m8.toNat : Int)), (0, .ro b.length (bvs .u8 b))], [(0, .cells (bvs .u8 (rpE b m8 n) ++ x.2.map AV.val) 5)], 1)) x ⟨hq1, hq2⟩ ?_ ?_
    · exact Le.ap (n := 0) rfl (look_hd _ _ _) rfl ⟨rfl, rfl, rfl, rfl, trivial⟩ (by simp only [List.all_cons, List.all_nil, flatro, flatroL_bvs, Bool.and_self])
    clear hzl hzm hq1 hq2 he0 f1
    intro n x ⟨hn, hq1, hq2⟩
    have hel := rpE_len b m8 n
    have wn : IntKind.i64.wrap ((n : Int) + 1) = ((n + 1 : Nat) : Int) := by rw [wrap_i64] <;> omega
    rcases Nat.lt_or_ge n 8 with h8 | h8
    · have f1 : decide ((n : Int) < 8) = true := by simp; omega
      have hpn : (if n < 8 then (pw n).toNat else 0 : Nat) = (pw n).toNat := if_pos h8
      rw [hpn]
      have hdv : (m8.toNat : Int).tdiv ((pw n).toNat : Int) = ((m8 / pw n).toNat : Int) := by
        rw [Int.tdiv_eq_ediv_of_nonneg (by omega), BitVec.toNat_udiv, Int.natCast_ediv]
      have hps := pw_step ⟨n, h8⟩
      have hp0 := pw_pos ⟨n, h8⟩
      simp only at hps hp0
      simp (maxSteps := 1000000) -implicitDefEqProofs only [go_sem, Nat.reduceBEq, Nat.reduceLT, Nat.reduceLeDiff, Nat.reduceEqDiff, Nat.reduceAdd, Nat.reduceMul, Nat.reduceSub, reduceIte, reduceCtorEq, Int.reduceLT, Int.reduceLE, Int.reduceToNat, Int.reduceAdd, Int.reduceSub, Int.reduceNeg, Int.reduceEq, Int.reduceNe, Int.reduceBEq, Int.reduceBNe, BitVec.reduceBEq, BitVec.reduceBNe, BitVec.reduceOfInt, BitVec.reduceSetWidth, -List.reduceReplicate, f1, hdv]
      refine ⟨by omega, .inr trivial, rfl, ?_⟩
      refine appk_bvs (x := rpE b m8 n) (y := [(m8 / pw n % 256#64).setWidth 8]) (sp := x.2) (n := 0) rfl rfl hq1 hq2 (by decide) (by simp only [List.length_cons, List.length_nil]; omega) fun cap3 sp3 g5 g6 => ?_
      rw [rpE_succ]
      rw [rpE_succ] at g5
      simp (maxSteps := 1000000) -implicitDefEqProofs only [go_sem, Nat.reduceBEq, Nat.reduceLT, Nat.reduceLeDiff, Nat.reduceEqDiff, Nat.reduceAdd, Nat.reduceMul, Nat.reduceSub, reduceIte, reduceCtorEq, Int.reduceLT, Int.reduceLE, Int.reduceToNat, Int.reduceAdd, Int.reduceSub, Int.reduceNeg, Int.reduceEq, Int.reduceNe, Int.reduceBEq, Int.reduceBNe, BitVec.reduceBEq, BitVec.reduceBNe, BitVec.reduceOfInt, BitVec.reduceSetWidth, -List.reduceReplicate, wn]
      refine UpX_normal h8 (cap3, sp3) ⟨g5, g6⟩ (Le.ap (n := 2) rfl (look_hd _ _ _) rfl ⟨rfl, ?_, rfl, rfl, trivial⟩ (by simp only [List.all_cons, List.all_nil, flatro, flatroL_bvs, Bool.and_self]))
      rw [← hps]
      rfl
    · have hn8 : n = 8 := by omega
      subst hn8
      have f1 : decide ((8 : Int) < 8) = false := rfl
      simp (maxSteps := 1000000) -implicitDefEqProofs only [go_sem, Nat.reduceBEq, Nat.reduceLT, Nat.reduceLeDiff, Nat.reduceEqDiff, Nat.reduceAdd, Nat.reduceMul, Nat.reduceSub, reduceIte, reduceCtorEq, Int.reduceLT, Int.reduceLE, Int.reduceToNat, Int.reduceAdd, Int.reduceSub, Int.reduceNeg, Int.reduceEq, Int.reduceNe, Int.reduceBEq, Int.reduceBNe, BitVec.reduceBEq, BitVec.reduceBNe, BitVec.reduceOfInt, BitVec.reduceSetWidth, -List.reduceReplicate, f1]
      exact Fin.sl rfl idG (fun _ _ => rfl) (fun _ => rfl) (look_hd _ _ _)
end Go.Proofs.Ytmdeoikpiiambaa
/-! Shh -/
namespace Go.Proofs.Ytmdeoikpiiambaa
open Go Go.Eng
def mulM (a b : BitVec 64) : BitVec 64 := a % 4294967296#64 * (b % 4294967296#64) / 4294967296#64 + a / 4294967296#64 * (b % 4294967296#64) % 4294967296#64 + a % 4294967296#64 * (b / 4294967296#64) % 4294967296#64
def mulH (a b : BitVec 64) : BitVec 64 := a / 4294967296#64 * (b / 4294967296#64) + a / 4294967296#64 * (b % 4294967296#64) / 4294967296#64 + a % 4294967296#64 * (b / 4294967296#64) / 4294967296#64 + mulM a b / 4294967296#64
def mulL (a b : BitVec 64) : BitVec 64 := mulM a b % 4294967296#64 * 4294967296#64 + a % 4294967296#64 * (b % 4294967296#64) % 4294967296#64
theorem mulOk (a b : BitVec 64) : CallOk Try.prog 201 [.int .u64 (a.toNat : Int), .int .u64 (b.toNat : Int)] (fun _ => true) [] 0 fun v m nx => v = .tup [.int .u64 ((mulH a b).toNat : Int), .int .u64 ((mulL a b).toNat : Int)] ∧ m = [] ∧ nx = 0 := by
  refine fn_ok Try.func201 rfl (by show 2 ≤ _; decide) ?_
  simp (maxSteps := 1000000) -implicitDefEqProofs only [go_sem, Nat.reduceBEq, Nat.reduceLT, Nat.reduceLeDiff, Nat.reduceEqDiff, Nat.reduceAdd, Nat.reduceMul, Nat.reduceSub, reduceIte, reduceCtorEq, Int.reduceLT, Int.reduceLE, Int.reduceToNat, Int.reduceAdd, Int.reduceSub, Int.reduceNeg, Int.reduceEq, Int.reduceNe, Int.reduceBEq, Int.reduceBNe, BitVec.reduceBEq, BitVec.reduceBNe, BitVec.reduceOfInt, BitVec.reduceSetWidth, -List.reduceReplicate, Try.results201, Try.ntmps201]
  exact Fin.flatv (fun _ => rfl) (fun f => rfl) ⟨rfl, rfl, rfl⟩
def bitS (k : Nat) : BitVec 64 := 68719476736#64 >>> k
def sqN (v : BitVec 64) : Nat → BitVec 64
  | 0 => 0#64
  | k + 1 => if decide (((mulH (sqN v k + bitS k) (sqN v k + bitS k)).toNat : Int) < (v.toNat : Int)) then sqN v k + bitS k else sqN v k
def squareW (v : BitVec 64) : BitVec 32 := (sqN v 37 % 4294967296#64).setWidth 32
theorem bitS_succ (k : Nat) : bitS k / 2#64 = bitS (k + 1) := by
  apply BitVec.eq_of_toNat_eq
  have e2 : (2#64).toNat = 2 := rfl
  rw [bitS, bitS, BitVec.toNat_udiv, BitVec.toNat_ushiftRight, BitVec.toNat_ushiftRight, e2, Nat.shiftRight_succ]
theorem bitS_pos : ∀ k : Fin 37, decide (((bitS k.val).toNat : Int) > 0) = true := by decide
theorem squareOk (v : BitVec 64) : CallOk Try.prog 181 [.int .u64 (v.toNat : Int)] (fun _ => true) [] 0 fun r m nx => r = .int .u32 ((squareW v).toNat : Int) ∧ m = [] ∧ nx = 0 := by
  refine fn_ok Try.func181 rfl (by show 1 ≤ _; decide) ?_
  simp (maxSteps := 1000000) -implicitDefEqProofs only [go_sem, Nat.reduceBEq, Nat.reduceLT, Nat.reduceLeDiff, Nat.reduceEqDiff, Nat.reduceAdd, Nat.reduceMul, Nat.reduceSub, reduceIte, reduceCtorEq, Int.reduceLT, Int.reduceLE, Int.reduceToNat, Int.reduceAdd, Int.reduceSub, Int.reduceNeg, Int.reduceEq, Int.reduceNe, Int.reduceBEq, Int.reduceBNe, BitVec.reduceBEq, BitVec.reduceBNe, BitVec.reduceOfInt, BitVec.reduceSetWidth, -List.reduceReplicate, Try.results181, Try.ntmps181]
  refine LoopOk.up 37 (fun k => ([(4, .int .u64 ((bitS k).toNat : Int)), (3, .int .u64 ((sqN v k).toNat : Int)), (0, .int .u64 (v.toNat : Int))], [], 0)) (Le.sameM ⟨rfl, rfl, rfl, trivial⟩ List.nodup_nil) ?_
  intro k hk
  have hbs := bitS_succ k
  have hnx : sqN v (k + 1) = if decide (((mulH (sqN v k + bitS k) (sqN v k + bitS k)).toNat : Int) < (v.toNat : Int)) then sqN v k + bitS k else sqN v k := rfl
  rcases Nat.lt_or_ge k 37 with h' | h'
  · have f1 : decide (((bitS k).toNat : Int) > 0) = true := bitS_pos ⟨k, h'⟩
    simp (maxSteps := 1000000) -implicitDefEqProofs only [go_sem, Nat.reduceBEq, Nat.reduceLT, Nat.reduceLeDiff, Nat.reduceEqDiff, Nat.reduceAdd, Nat.reduceMul, Nat.reduceSub, reduceIte, reduceCtorEq, Int.reduceLT, Int.reduceLE, Int.reduceToNat, Int.reduceAdd, Int.reduceSub, Int.reduceNeg, Int.reduceEq, Int.reduceNe, Int.reduceBEq, Int.reduceBNe, BitVec.reduceBEq, BitVec.reduceBNe, BitVec.reduceOfInt, BitVec.reduceSetWidth, -List.reduceReplicate, f1]
    refine (mulOk (sqN v k + bitS k) (sqN v k + bitS k)).flatv (by simp only [argsx, argx_int, argx_bool, argx_fn, argx_ro, argx_nils, eq_self, true_and, and_true, and_self]; try trivial) (fun _ => rfl) rfl ?_
    cases f2 : decide (((mulH (sqN v k + bitS k) (sqN v k + bitS k)).toNat : Int) < (v.toNat : Int)) with
    | true =>
      rw [f2, if_pos rfl] at hnx
      simp (maxSteps := 1000000) -implicitDefEqProofs only [go_sem, Nat.reduceBEq, Nat.reduceLT, Nat.reduceLeDiff, Nat.reduceEqDiff, Nat.reduceAdd, Nat.reduceMul, Nat.reduceSub, reduceIte, reduceCtorEq, Int.reduceLT, Int.reduceLE, Int.reduceToNat, Int.reduceAdd, Int.reduceSub, Int.reduceNeg, Int.reduceEq, Int.reduceNe, Int.reduceBEq, Int.reduceBNe, BitVec.reduceBEq, BitVec.reduceBNe, BitVec.reduceOfInt, BitVec.reduceSetWidth, -List.reduceReplicate, f2, hbs]
      exact UpK_normal h' (Le.sameM ⟨rfl, by rw [hnx]; rfl, rfl, trivial⟩ List.nodup_nil)
    | false =>
      rw [f2, if_neg (by decide)] at hnx
      simp (maxSteps := 1000000) -implicitDefEqProofs only [go_sem, Nat.reduceBEq, Nat.reduceLT, Nat.reduceLeDiff, Nat.reduceEqDiff, Nat.reduceAdd, Nat.reduceMul, Nat.reduceSub, reduceIte, reduceCtorEq, Int.reduceLT, Int.reduceLE, Int.reduceToNat, Int.reduceAdd, Int.reduceSub, Int.reduceNeg, Int.reduceEq, Int.reduceNe, Int.reduceBEq, Int.reduceBNe, BitVec.reduceBEq, BitVec.reduceBNe, BitVec.reduceOfInt, BitVec.reduceSetWidth, -List.reduceReplicate, f2, hbs]
      exact UpK_normal h' (Le.sameM ⟨rfl, by rw [hnx]; rfl, rfl, trivial⟩ List.nodup_nil)
  · have hk : k = 37 := by omega
    subst hk
    have f1 : decide (((bitS 37).toNat : Int) > 0) = false := by decide
    simp (maxSteps := 1000000) -implicitDefEqProofs only [go_sem, Nat.reduceBEq, Nat.reduceLT, Nat.reduceLeDiff, Nat.reduceEqDiff, Nat.reduceAdd, Nat.reduceMul, Nat.reduceSub, reduceIte, reduceCtorEq, Int.reduceLT, Int.reduceLE, Int.reduceToNat, Int.reduceAdd, Int.reduceSub, Int.reduceNeg, Int.reduceEq, Int.reduceNe, Int.reduceBEq, Int.reduceBNe, BitVec.reduceBEq, BitVec.reduceBNe, BitVec.reduceOfInt, BitVec.reduceSetWidth, -List.reduceReplicate, f1]
    exact Fin.flatv (fun _ => rfl) (fun f => rfl) ⟨rfl, rfl, rfl⟩
def bitC (k : Nat) : BitVec 64 := 34359738368#64 >>> k
def cbA (y : BitVec 64) : BitVec 64 := mulH (mulH y y) y
def cbB (y : BitVec 64) : BitVec 64 := mulL (mulH y y) y
def cbC (y : BitVec 64) : BitVec 64 := mulH (mulL y y) y
def cbT (v y : BitVec 64) : Bool := if decide (((cbB y + cbC y).toNat : Int) < ((cbB y).toNat : Int)) then (cbA y + 1#64 == 0#64) && decide ((((cbB y + cbC y) / 4294967296#64).toNat : Int) < (v.toNat : Int)) else (cbA y == 0#64) && decide ((((cbB y + cbC y) / 4294967296#64).toNat : Int) < (v.toNat : Int))
def cbN (v : BitVec 64) : Nat → BitVec 64
  | 0 => 0#64
  | k + 1 => if cbT v (cbN v k + bitC k) then cbN v k + bitC k else cbN v k
def cubeW (v : BitVec 64) : BitVec 32 := (cbN v 36 % 4294967296#64).setWidth 32
theorem bitC_succ (k : Nat) : bitC k / 2#64 = bitC (k + 1) := by
  apply BitVec.eq_of_toNat_eq
  have e2 : (2#64).toNat = 2 := rfl
  rw [bitC, bitC, BitVec.toNat_udiv, BitVec.toNat_ushiftRight, BitVec.toNat_ushiftRight, e2, Nat.shiftRight_succ]
theorem bitC_pos : ∀ k : Fin 36, decide (((bitC k.val).toNat : Int) > 0) = true := by decide
set_option maxHeartbeats 800000 in
theorem cubeOk (v : BitVec 64) : CallOk Try.prog 182 [.int .u64 (v.toNat : Int)] (fun _ => true) [] 0 fun r m nx => r = .int .u32 ((cubeW v).toNat : Int) ∧ m = [] ∧ nx = 0 := by
  refine fn_ok Try.func182 rfl (by show 1 ≤ _; decide) ?_
  simp (maxSteps := 1000000) -implicitDefEqProofs only [go_sem, Nat.reduceBEq, Nat.reduceLT, Nat.reduceLeDiff, Nat.reduceEqDiff, Nat.reduceAdd, Nat.reduceMul, Nat.reduceSub, reduceIte, reduceCtorEq, Int.reduceLT, Int.reduceLE, Int.reduceToNat, Int.reduceAdd, Int.reduceSub, Int.reduceNeg, Int.reduceEq, Int.reduceNe, Int.reduceBEq, Int.reduceBNe, BitVec.reduceBEq, BitVec.reduceBNe, BitVec.reduceOfInt, BitVec.reduceSetWidth, -List.reduceReplicate, Try.results182, Try.ntmps182]
  refine LoopOk.up 36 (fun k => ([(4, .int .u64 ((bitC k).toNat : Int)), (3, .int .u64 ((cbN v k).toNat : Int)), (0, .int .u64 (v.toNat : Int))], [], 0)) (Le.sameM ⟨rfl, rfl, rfl, trivial⟩ List.nodup_nil) ?_
  intro k hk
  have hbs := bitC_succ k
  have hnx : cbN v (k + 1) = if cbT v (cbN v k + bitC k) then cbN v k + bitC k else cbN v k := rfl
  rcases Nat.lt_or_ge k 36 with h' | h'
  · have f1 : decide (((bitC k).toNat : Int) > 0) = true := bitC_pos ⟨k, h'⟩
    simp (maxSteps := 1000000) -implicitDefEqProofs only [go_sem, Nat.reduceBEq, Nat.reduceLT, Nat.reduceLeDiff, Nat.reduceEqDiff, Nat.reduceAdd, Nat.reduceMul, Nat.reduceSub, reduceIte, reduceCtorEq, Int.reduceLT, Int.reduceLE, Int.reduceToNat, Int.reduceAdd, Int.reduceSub, Int.reduceNeg, Int.reduceEq, Int.reduceNe, Int.reduceBEq, Int.reduceBNe, BitVec.reduceBEq, BitVec.reduceBNe, BitVec.reduceOfInt, BitVec.reduceSetWidth, -List.reduceReplicate, f1]
    obtain ⟨y, hy⟩ : ∃ y, y = cbN v k + bitC k := ⟨_, rfl⟩
    rw [← hy] at hnx ⊢
    have hA : mulH (mulH y y) y = cbA y := rfl
    have hB : mulL (mulH y y) y = cbB y := rfl
    have hC : mulH (mulL y y) y = cbC y := rfl
    refine (mulOk y y).flatv (by simp only [argsx, argx_int, argx_bool, argx_fn, argx_ro, argx_nils, eq_self, true_and, and_true, and_self]; try trivial) (fun _ => rfl) rfl ?_
    simp (maxSteps := 1000000) -implicitDefEqProofs only [go_sem, Nat.reduceBEq, Nat.reduceLT, Nat.reduceLeDiff, Nat.reduceEqDiff, Nat.reduceAdd, Nat.reduceMul, Nat.reduceSub, reduceIte, reduceCtorEq, Int.reduceLT, Int.reduceLE, Int.reduceToNat, Int.reduceAdd, Int.reduceSub, Int.reduceNeg, Int.reduceEq, Int.reduceNe, Int.reduceBEq, Int.reduceBNe, BitVec.reduceBEq, BitVec.reduceBNe, BitVec.reduceOfInt, BitVec.reduceSetWidth, -List.reduceReplicate]
    refine (mulOk (mulH y y) y).flatv (by simp only [argsx, argx_int, argx_bool, argx_fn, argx_ro, argx_nils, eq_self, true_and, and_true, and_self]; try trivial) (fun _ => rfl) rfl ?_
    simp (maxSteps := 1000000) -implicitDefEqProofs only [go_sem, Nat.reduceBEq, Nat.reduceLT, Nat.reduceLeDiff, Nat.reduceEqDiff, Nat.reduceAdd, Nat.reduceMul, Nat.reduceSub, reduceIte, reduceCtorEq, Int.reduceLT, Int.reduceLE, Int.reduceToNat, Int.reduceAdd, Int.reduceSub, Int.reduceNeg, Int.reduceEq, Int.reduceNe, Int.reduceBEq, Int.reduceBNe, BitVec.reduceBEq, BitVec.reduceBNe, BitVec.reduceOfInt, BitVec.reduceSetWidth, -List.reduceReplicate]
    refine (mulOk (mulL y y) y).flatv (by simp only [argsx, argx_int, argx_bool, argx_fn, argx_ro, argx_nils, eq_self, true_and, and_true, and_self]; try trivial) (fun _ => rfl) rfl ?_
    rw [hA, hB, hC]
    cases f2 : decide (((cbB y + cbC y).toNat : Int) < ((cbB y).toNat : Int)) with
    | true =>
      have hT : cbT v y = ((cbA y + 1#64 == 0#64) && decide ((((cbB y + cbC y) / 4294967296#64).toNat : Int) < (v.toNat : Int))) := by rw [cbT, f2, if_pos rfl]
      cases f3 : (cbA y + 1#64 == 0#64) with
      | true =>
        cases f4 : decide ((((cbB y + cbC y) / 4294967296#64).toNat : Int) < (v.toNat : Int)) with
        | true =>
          rw [hT, f3, f4] at hnx
          simp (maxSteps := 1000000) -implicitDefEqProofs only [go_sem, Nat.reduceBEq, Nat.reduceLT, Nat.reduceLeDiff, Nat.reduceEqDiff, Nat.reduceAdd, Nat.reduceMul, Nat.reduceSub, reduceIte, reduceCtorEq, Int.reduceLT, Int.reduceLE, Int.reduceToNat, Int.reduceAdd, Int.reduceSub, Int.reduceNeg, Int.reduceEq, Int.reduceNe, Int.reduceBEq, Int.reduceBNe, BitVec.reduceBEq, BitVec.reduceBNe, BitVec.reduceOfInt, BitVec.reduceSetWidth, -List.reduceReplicate, f2, f3, f4, hbs]
          exact UpK_normal h' (Le.sameM ⟨rfl, by rw [hnx]; rfl, rfl, trivial⟩ List.nodup_nil)
        | false =>
          rw [hT, f3, f4] at hnx
          simp (maxSteps := 1000000) -implicitDefEqProofs only [go_sem, Nat.reduceBEq, Nat.reduceLT, Nat.reduceLeDiff, Nat.reduceEqDiff, Nat.reduceAdd, Nat.reduceMul, Nat.reduceSub, reduceIte, reduceCtorEq, Int.reduceLT, Int.reduceLE, Int.reduceToNat, Int.reduceAdd, Int.reduceSub, Int.reduceNeg, Int.reduceEq, Int.reduceNe, Int.reduceBEq, Int.reduceBNe, BitVec.reduceBEq, BitVec.reduceBNe, BitVec.reduceOfInt, BitVec.reduceSetWidth, -List.reduceReplicate, f2, f3, f4, hbs]
          exact UpK_normal h' (Le.sameM ⟨rfl, by rw [hnx]; rfl, rfl, trivial⟩ List.nodup_nil)
      | false =>
        rw [hT, f3] at hnx
        simp (maxSteps := 1000000) -implicitDefEqProofs only [go_sem, Nat.reduceBEq, Nat.reduceLT, Nat.reduceLeDiff, Nat.reduceEqDiff, Nat.reduceAdd, Nat.reduceMul, Nat.reduceSub, reduceIte, reduceCtorEq, Int.reduceLT, Int.reduceLE, Int.reduceToNat, Int.reduceAdd, Int.reduceSub, Int.reduceNeg, Int.reduceEq, Int.reduceNe, Int.reduceBEq, Int.reduceBNe, BitVec.reduceBEq, BitVec.reduceBNe, BitVec.reduceOfInt, BitVec.reduceSetWidth, -List.reduceReplicate, f2, f3, hbs]
        exact UpK_normal h' (Le.sameM ⟨rfl, by rw [hnx]; rfl, rfl, trivial⟩ List.nodup_nil)
    | false =>
      have hT : cbT v y = ((cbA y == 0#64) && decide ((((cbB y + cbC y) / 4294967296#64).toNat : Int) < (v.toNat : Int))) := by rw [cbT, f2, if_neg (by decide)]
      cases f3 : (cbA y == 0#64) with
      | true =>
        cases f4 : decide ((((cbB y + cbC y) / 4294967296#64).toNat : Int) < (v.toNat : Int)) with
        | true =>
          rw [hT, f3, f4] at hnx
          simp (maxSteps := 1000000) -implicitDefEqProofs only [go_sem, Nat.reduceBEq, Nat.reduceLT, Nat.reduceLeDiff, Nat.reduceEqDiff, Nat.reduceAdd, Nat.reduceMul, Nat.reduceSub, reduceIte, reduceCtorEq, Int.reduceLT, Int.reduceLE, Int.reduceToNat, Int.reduceAdd, Int.reduceSub, Int.reduceNeg, Int.reduceEq, Int.reduceNe, Int.reduceBEq, Int.reduceBNe, BitVec.reduceBEq, BitVec.reduceBNe, BitVec.reduceOfInt, BitVec.reduceSetWidth, -List.reduceReplicate, f2, f3, f4, hbs]
          exact UpK_normal h' (Le.sameM ⟨rfl, by rw [hnx]; rfl, rfl, trivial⟩ List.nodup_nil)
        | false =>
          rw [hT, f3, f4] at hnx
          simp (maxSteps := 1000000) -implicitDefEqProofs only [go_sem, Nat.reduceBEq, Nat.reduceLT, Nat.reduceLeDiff, Nat.reduceEqDiff, Nat.reduceAdd, Nat.reduceMul, Nat.reduceSub, reduceIte, reduceCtorEq, Int.reduceLT, Int.reduceLE, Int.reduceToNat, Int.reduceAdd, Int.reduceSub, Int.reduceNeg, Int.reduceEq, Int.reduceNe, Int.reduceBEq, Int.reduceBNe, BitVec.reduceBEq, BitVec.reduceBNe, BitVec.reduceOfInt, BitVec.reduceSetWidth, -List.reduceReplicate, f2, f3, f4, hbs]
          exact UpK_normal h' (Le.sameM ⟨rfl, by rw [hnx]; rfl, rfl, trivial⟩ List.nodup_nil)
      | false =>
        rw [hT, f3] at hnx
        simp (maxSteps := 1000000) -implicitDefEqProofs only [go_sem, Nat.reduceBEq, Nat.reduceLT, Nat.reduceLeDiff, Nat.reduceEqDiff, Nat.reduceAdd, Nat.reduceMul, Nat.reduceSub, reduceIte, reduceCtorEq, Int.reduceLT, Int.reduceLE, Int.reduceToNat, Int.reduceAdd, Int.reduceSub, Int.reduceNeg, Int.reduceEq, Int.reduceNe, Int.reduceBEq, Int.reduceBNe, BitVec.reduceBEq, BitVec.reduceBNe, BitVec.reduceOfInt, BitVec.reduceSetWidth, -List.reduceReplicate, f2, f3, hbs]
        exact UpK_normal h' (Le.sameM ⟨rfl, by rw [hnx]; rfl, rfl, trivial⟩ List.nodup_nil)
  · have hk : k = 36 := by omega
    subst hk
    have f1 : decide (((bitC 36).toNat : Int) > 0) = false := by decide
    simp (maxSteps := 1000000) -implicitDefEqProofs only [go_sem, Nat.reduceBEq, Nat.reduceLT, Nat.reduceLeDiff, Nat.reduceEqDiff, Nat.reduceAdd, Nat.reduceMul, Nat.reduceSub, reduceIte, reduceCtorEq, Int.reduceLT, Int.reduceLE, Int.reduceToNat, Int.reduceAdd, Int.reduceSub, Int.reduceNeg, Int.reduceEq, Int.reduceNe, Int.reduceBEq, Int.reduceBNe, BitVec.reduceBEq, BitVec.reduceBNe, BitVec.reduceOfInt, BitVec.reduceSetWidth, -List.reduceReplicate, f1]
    exact Fin.flatv (fun _ => rfl) (fun f => rfl) ⟨rfl, rfl, rfl⟩
end Go.Proofs.Ytmdeoikpiiambaa
/-! Shi -/
namespace Go.Proofs.Ytmdeoikpiiambaa
open Go Go.Eng
def isJ (l : List (BitVec 64)) (n : BitVec 64) : Nat → Bool
  | 0 => true
  | j + 1 => if n % l.getD j 0 == 0#64 then false else isJ l n j
def prL : Nat → List (BitVec 64)
  | 0 => []
  | i + 1 => if isJ (prL i) (BitVec.ofNat 64 (i + 2)) (prL i).length then prL i ++ [BitVec.ofNat 64 (i + 2)] else prL i
def primesL : List (BitVec 64) := [2#64, 3#64, 5#64, 7#64, 11#64, 13#64, 17#64, 19#64, 23#64, 29#64, 31#64, 37#64, 41#64, 43#64, 47#64, 53#64, 59#64, 61#64, 67#64, 71#64, 73#64, 79#64, 83#64, 89#64, 97#64, 101#64, 103#64, 107#64, 109#64, 113#64, 127#64, 131#64, 137#64, 139#64, 149#64, 151#64, 157#64, 163#64, 167#64, 173#64, 179#64, 181#64, 191#64, 193#64, 197#64, 199#64, 211#64, 223#64, 227#64, 229#64, 233#64, 239#64, 241#64, 251#64, 257#64, 263#64, 269#64, 271#64, 277#64, 281#64, 283#64, 293#64, 307#64, 311#64]
theorem prL_len_mono (i : Nat) : (prL i).length ≤ (prL (i + 1)).length := by
  rw [prL]
  split
  · rw [List.length_append]; omega
  · exact Nat.le_refl _
theorem prL_mono (i j : Nat) (h : i ≤ j) : (prL i).length ≤ (prL j).length := by
  induction j with
  | zero => have : i = 0 := by omega
            rw [this]; exact Nat.le_refl _
  | succ j ih =>
    rcases Nat.lt_or_ge i (j + 1) with h' | h'
    · exact Nat.le_trans (ih (by omega)) (prL_len_mono j)
    · have : i = j + 1 := by omega
      rw [this]; exact Nat.le_refl _
theorem prL_309 : (prL 309).length = 63 := by kernel_rfl
theorem prL_310 : prL 310 = primesL := by kernel_rfl
theorem prL_nz (i : Nat) (hi : i ≤ 310) : ∀ x ∈ prL i, x.toNat ≠ 0 := by
  induction i with
  | zero => intro x hx; cases hx
  | succ i ih =>
    intro x hx
    rw [prL] at hx
    split at hx
    · rcases List.mem_append.1 hx with h | h
      · exact ih (by omega) x h
      · rw [List.mem_singleton.1 h, BitVec.toNat_ofNat]; omega
    · exact ih (by omega) x hx
theorem ApI_map {k : IntKind} {ty w : Nat} {X : List (BitVec w)} {x : AV × Mem × Nat} (h : ApI k ty X x) : mapOf [x.1] = none := by
  rcases h with ⟨_, rfl⟩ | ⟨cap, sp, rfl, _⟩
  · rfl
  · rfl
theorem ApI_len {P : Program} {k : IntKind} {ty w : Nat} {X : List (BitVec w)} {x : AV × Mem × Nat} (h : ApI k ty X x) (t : TypeId) (K : AV → Prop) : lenx P t x.1 K = ((elemT P t).isSome = true ∧ K (.int .i64 X.length)) := by
  rcases h with ⟨rfl, rfl⟩ | ⟨cap, sp, rfl, _⟩
  · rfl
  · rfl
theorem nat_step (i : Nat) : BitVec.ofNat 64 (i + 2) + 1#64 = BitVec.ofNat 64 (i + 1 + 2) := by
  apply BitVec.eq_of_toNat_eq
  rw [BitVec.toNat_add, BitVec.toNat_ofNat, BitVec.toNat_ofNat, BitVec.toNat_ofNat]
  omega
set_option maxHeartbeats 800000 in
theorem primesOk : CallOk Try.prog 180 [.int .i64 64] (fun _ => true) [] 0 (Rets idG .u64 primesL 116) := by
  refine fn_ok Try.func180 rfl (by show 1 ≤ _; decide) ?_
  simp (maxSteps := 1000000) -implicitDefEqProofs only [go_sem, Nat.reduceBEq, Nat.reduceLT, Nat.reduceLeDiff, Nat.reduceEqDiff, Nat.reduceAdd, Nat.reduceMul, Nat.reduceSub, reduceIte, reduceCtorEq, Int.reduceLT, Int.reduceLE, Int.reduceToNat, Int.reduceAdd, Int.reduceSub, Int.reduceNeg, Int.reduceEq, Int.reduceNe, Int.reduceBEq, Int.reduceBNe, BitVec.reduceBEq, BitVec.reduceBNe, BitVec.reduceOfInt, BitVec.reduceSetWidth, -List.reduceReplicate, Try.results180, Try.ntmps180]
  refine LoopOk.upX (fun i x => ApI .u64 116 (prL i) x) 310 (fun i x => ((3, x.1) :: [(4, .int .u64 ((BitVec.ofNat 64 (i + 2)).toNat : Int)), (0, .int .i64 64)], x.2.1, x.2.2)) (.nils, [], 0) (ApI.nil _ _) (Le.sameT (by decide) (by simp only [-List.reduceReplicate, slotsSame, Eng.look, Nat.reduceEqDiff, reduceIte, reduceCtorEq, if_true, if_false, eq_self, true_and, and_true, Option.some.injEq, AV.int.injEq]; (try simp (disch := omega) only [wrap_i64]); (try simp [-List.reduceReplicate]); (try omega)) (by simp only [-List.reduceReplicate, memSame, Eng.look, Nat.reduceEqDiff, reduceIte, reduceCtorEq, if_true, if_false, eq_self, true_and, and_true, Option.some.injEq, AObj.cells.injEq, bvs_rep8, bvs_rep16, bvs_rep32, bvs_rep64, bvs_flat_rep, Nat.reduceMul, bvs_append, List.replicate_append_replicate, Nat.reduceAdd, bvs_inj]; try simp [-List.reduceReplicate]) (by simp [-List.reduceReplicate])) ?_
  intro i x ⟨hi, hq⟩
  have hlen := fun (K : AV → Prop) => ApI_len (P := Try.prog) hq 240 K
  have hmp := ApI_map hq
  rcases Nat.lt_or_ge i 310 with h' | h'
  · have hl63 : (prL i).length ≤ 63 := by rw [← prL_309]; exact prL_mono i 309 (by omega)
    have f1 : decide (((prL i).length : Int) < 64) = true := by simp; omega
    have hst := nat_step i
    have hnz := prL_nz i hi
    have hnext : prL (i + 1) = if isJ (prL i) (BitVec.ofNat 64 (i + 2)) (prL i).length then prL i ++ [BitVec.ofNat 64 (i + 2)] else prL i := rfl
    simp (maxSteps := 1000000) -implicitDefEqProofs only [go_sem, Nat.reduceBEq, Nat.reduceLT, Nat.reduceLeDiff, Nat.reduceEqDiff, Nat.reduceAdd, Nat.reduceMul, Nat.reduceSub, reduceIte, reduceCtorEq, Int.reduceLT, Int.reduceLE, Int.reduceToNat, Int.reduceAdd, Int.reduceSub, Int.reduceNeg, Int.reduceEq, Int.reduceNe, Int.reduceBEq, Int.reduceBNe, BitVec.reduceBEq, BitVec.reduceBNe, BitVec.reduceOfInt, BitVec.reduceSetWidth, -List.reduceReplicate, hmp, hlen, f1]
    refine LoopOk.up (prL i).length (fun j => ([(6, .int .i64 j), (5, .bool (isJ (prL i) (BitVec.ofNat 64 (i + 2)) j)), (3, x.1), (4, .int .u64 ((BitVec.ofNat 64 (i + 2)).toNat : Int)), (0, .int .i64 64)], x.2.1, x.2.2)) (Le.sameM ⟨rfl, rfl, rfl, rfl, rfl, trivial⟩ (ApI_nodup hq)) ?_
    intro j hj
    have wj : IntKind.i64.wrap ((j : Int) + 1) = ((j + 1 : Nat) : Int) := by rw [wrap_i64] <;> omega
    rcases Nat.lt_or_ge j (prL i).length with g | g
    · have f2 : decide ((j : Int) < ((prL i).length : Int)) = true := by simp; omega
      have hnd := ApI_nodup hq
      have hjn : isJ (prL i) (BitVec.ofNat 64 (i + 2)) (j + 1) = if BitVec.ofNat 64 (i + 2) % (prL i).getD j 0 == 0#64 then false else isJ (prL i) (BitVec.ofNat 64 (i + 2)) j := rfl
      have hgz : ((prL i).getD j 0).toNat ≠ 0 := by
        refine hnz _ ?_
        rw [List.getD_eq_getElem?_getD, List.getElem?_eq_getElem g]
        exact List.getElem_mem g
      rcases hq with ⟨hnil, rfl⟩ | ⟨cap, sp, rfl, hc1, hc2⟩
      · rw [hnil] at g; cases g
      have hgd := bvsS_getD .u64 (prL i) (sp.map AV.val) j g
      have htm : ((BitVec.ofNat 64 (i + 2)).toNat : Int).tmod (((prL i).getD j 0).toNat : Int) = ((BitVec.ofNat 64 (i + 2) % (prL i).getD j 0).toNat : Int) := by
        rw [Int.tmod_eq_emod_of_nonneg (by omega), BitVec.toNat_umod, Int.natCast_emod]
      cases f3 : (BitVec.ofNat 64 (i + 2) % (prL i).getD j 0 == 0#64) with
      | true =>
        rw [f3, if_pos rfl] at hjn
        simp (maxSteps := 1000000) -implicitDefEqProofs only [go_sem, Nat.reduceBEq, Nat.reduceLT, Nat.reduceLeDiff, Nat.reduceEqDiff, Nat.reduceAdd, Nat.reduceMul, Nat.reduceSub, reduceIte, reduceCtorEq, Int.reduceLT, Int.reduceLE, Int.reduceToNat, Int.reduceAdd, Int.reduceSub, Int.reduceNeg, Int.reduceEq, Int.reduceNe, Int.reduceBEq, Int.reduceBNe, BitVec.reduceBEq, BitVec.reduceBNe, BitVec.reduceOfInt, BitVec.reduceSetWidth, -List.reduceReplicate, f2, hgd, htm, f3, wj]
        exact ⟨by omega, by omega, by omega, UpK_normal g (Le.sameM ⟨rfl, by rw [hjn]; rfl, rfl, rfl, rfl, trivial⟩ hnd)⟩
      | false =>
        rw [f3, if_neg (by decide)] at hjn
        simp (maxSteps := 1000000) -implicitDefEqProofs only [go_sem, Nat.reduceBEq, Nat.reduceLT, Nat.reduceLeDiff, Nat.reduceEqDiff, Nat.reduceAdd, Nat.reduceMul, Nat.reduceSub, reduceIte, reduceCtorEq, Int.reduceLT, Int.reduceLE, Int.reduceToNat, Int.reduceAdd, Int.reduceSub, Int.reduceNeg, Int.reduceEq, Int.reduceNe, Int.reduceBEq, Int.reduceBNe, BitVec.reduceBEq, BitVec.reduceBNe, BitVec.reduceOfInt, BitVec.reduceSetWidth, -List.reduceReplicate, f2, hgd, htm, f3, wj]
        exact ⟨by omega, by omega, by omega, UpK_normal g (Le.sameM ⟨rfl, by rw [hjn]; rfl, rfl, rfl, rfl, trivial⟩ hnd)⟩
    · have hjl : j = (prL i).length := by omega
      subst hjl
      have f2 : decide (((prL i).length : Int) < ((prL i).length : Int)) = false := by simp
      cases f3 : isJ (prL i) (BitVec.ofNat 64 (i + 2)) (prL i).length with
      | true =>
        rw [f3, if_pos rfl] at hnext
        simp (maxSteps := 1000000) -implicitDefEqProofs only [go_sem, Nat.reduceBEq, Nat.reduceLT, Nat.reduceLeDiff, Nat.reduceEqDiff, Nat.reduceAdd, Nat.reduceMul, Nat.reduceSub, reduceIte, reduceCtorEq, Int.reduceLT, Int.reduceLE, Int.reduceToNat, Int.reduceAdd, Int.reduceSub, Int.reduceNeg, Int.reduceEq, Int.reduceNe, Int.reduceBEq, Int.reduceBNe, BitVec.reduceBEq, BitVec.reduceBNe, BitVec.reduceOfInt, BitVec.reduceSetWidth, -List.reduceReplicate, hmp, hlen, f2, f3]
        refine ⟨.inr trivial, rfl, ?_⟩
        refine appk_ap (y := [BitVec.ofNat 64 (i + 2)]) hq (fun o h => ApI_hd hq h) (fun _ => rfl) (by simp) (by decide) (by simp only [List.length_cons, List.length_nil]; omega) fun cap sp m3 c1 c2 => ?_
        simp (maxSteps := 1000000) -implicitDefEqProofs only [go_sem, Nat.reduceBEq, Nat.reduceLT, Nat.reduceLeDiff, Nat.reduceEqDiff, Nat.reduceAdd, Nat.reduceMul, Nat.reduceSub, reduceIte, reduceCtorEq, Int.reduceLT, Int.reduceLE, Int.reduceToNat, Int.reduceAdd, Int.reduceSub, Int.reduceNeg, Int.reduceEq, Int.reduceNe, Int.reduceBEq, Int.reduceBNe, BitVec.reduceBEq, BitVec.reduceBNe, BitVec.reduceOfInt, BitVec.reduceSetWidth, -List.reduceReplicate, hst]
        refine UpX_normal h' (_, _, _) (ApI.some (X := prL (i + 1)) (by rw [hnext]; exact c1) c2) ?_
        exact Le.ap (n := x.2.2 + 1) (by rw [hnext, List.length_append]; rfl) (by rw [hnext]; exact look_hd _ _ _) rfl ⟨rfl, rfl, trivial⟩ (by simp only [List.all_cons, List.all_nil, flatro, Bool.and_self])
      | false =>
        rw [f3, if_neg (by decide)] at hnext
        simp (maxSteps := 1000000) -implicitDefEqProofs only [go_sem, Nat.reduceBEq, Nat.reduceLT, Nat.reduceLeDiff, Nat.reduceEqDiff, Nat.reduceAdd, Nat.reduceMul, Nat.reduceSub, reduceIte, reduceCtorEq, Int.reduceLT, Int.reduceLE, Int.reduceToNat, Int.reduceAdd, Int.reduceSub, Int.reduceNeg, Int.reduceEq, Int.reduceNe, Int.reduceBEq, Int.reduceBNe, BitVec.reduceBEq, BitVec.reduceBNe, BitVec.reduceOfInt, BitVec.reduceSetWidth, -List.reduceReplicate, hmp, hlen, f2, f3, hst]
        refine UpX_normal h' x (by rw [hnext]; exact hq) (Le.sameM ⟨rfl, rfl, rfl, trivial⟩ (ApI_nodup hq))
  · have hii : i = 310 := by omega
    subst hii
    have hl : (prL 310).length = 64 := by rw [prL_310]; rfl
    have f1 : decide ((64 : Int) < 64) = false := rfl
    rw [hl] at hlen
    rw [prL_310] at hq
    simp (maxSteps := 1000000) -implicitDefEqProofs only [go_sem, Nat.reduceBEq, Nat.reduceLT, Nat.reduceLeDiff, Nat.reduceEqDiff, Nat.reduceAdd, Nat.reduceMul, Nat.reduceSub, reduceIte, reduceCtorEq, Int.reduceLT, Int.reduceLE, Int.reduceToNat, Int.reduceAdd, Int.reduceSub, Int.reduceNeg, Int.reduceEq, Int.reduceNe, Int.reduceBEq, Int.reduceBNe, BitVec.reduceBEq, BitVec.reduceBNe, BitVec.reduceOfInt, BitVec.reduceSetWidth, -List.reduceReplicate, hmp, hlen, f1]
    exact Fin.ap hq idG (fun _ _ => rfl) (fun _ => rfl)
end Go.Proofs.Ytmdeoikpiiambaa
/-! Shj -/
namespace Go.Proofs.Ytmdeoikpiiambaa
open Go Go.Eng
theorem beginL_roots : (primesL.take 8).map squareW = beginL := by kernel_rfl
theorem rootsL_roots : primesL.map cubeW = rootsL := by kernel_rfl
def hX (i : Nat) : List (BitVec 32) := (primesL.take (min i 8)).map squareW
def qX (i : Nat) : List (BitVec 32) := (primesL.take i).map cubeW
theorem primesL_len : primesL.length = 64 := rfl
theorem take_succ' (i : Nat) (h : i < 64) : primesL.take (i + 1) = primesL.take i ++ [primesL.getD i 0] := by
  rw [List.take_add_one, List.getD_eq_getElem?_getD, List.getElem?_eq_getElem (by rw [primesL_len]; exact h)]
  rfl
theorem hX_succ (i : Nat) (h : i < 8) : hX (i + 1) = hX i ++ [squareW (primesL.getD i 0)] := by
  rw [hX, hX, Nat.min_eq_left (by omega), Nat.min_eq_left (by omega), take_succ' i (by omega), List.map_append]; rfl
theorem hX_stay (i : Nat) (h : 8 ≤ i) : hX (i + 1) = hX i := by
  rw [hX, hX, Nat.min_eq_right (by omega), Nat.min_eq_right (by omega)]
theorem qX_succ (i : Nat) (h : i < 64) : qX (i + 1) = qX i ++ [cubeW (primesL.getD i 0)] := by
  rw [qX, qX, take_succ' i h, List.map_append]; rfl
theorem hX_len (i : Nat) : (hX i).length = min i 8 := by rw [hX, List.length_map, List.length_take, primesL_len]; omega
theorem qX_len (i : Nat) : (qX i).length = min i 64 := by rw [qX, List.length_map, List.length_take, primesL_len]
theorem Le.two {n1 n2 : Nat} {t t' : Slots} {m : Mem} {nx : Nat} {o1 o2 : AObj} (hne : n1 ≠ n2) (hs : slotsLe (rf [(0, n1), (1, n2)] nx 2) t t') (h1 : Eng.look m n1 = some (renO (rf [(0, n1), (1, n2)] nx 2) o1)) (h2 : Eng.look m n2 = some (renO (rf [(0, n1), (1, n2)] nx 2) o2)) :
    ∃ l, Le 0 l (fun _ => true) t m nx t' [(0, o1), (1, o2)] 2 :=
  ⟨[(0, n1), (1, n2)], rfl, Nat.zero_le _, hs, ⟨h1, rfl, h2, rfl, trivial⟩, by
    have : n2 ≠ n1 := fun e => hne e.symm
    simp [injOn, rf, Eng.look, hne, this], (fun n e => by cases e), fun _ _ => rfl⟩
/-- two rows of words, both appended to, or none yet -/
def Two (X Y : List (BitVec 32)) (x : AV × AV × Mem × Nat) : Prop :=
  (X = [] ∧ Y = [] ∧ x = (.nils, .nils, [], 0)) ∨ ∃ (c1 : Nat) (s1 : List Value) (c2 : Nat) (s2 : List Value), x = (.sl 0 0 X.length c1, .sl 1 0 Y.length c2, [(0, .cells (bvs .u32 X ++ s1.map AV.val) 108), (1, .cells (bvs .u32 Y ++ s2.map AV.val) 108)], 2) ∧ X.length + s1.length = c1 ∧ c1 ≤ maxI ∧ Y.length + s2.length = c2 ∧ c2 ≤ maxI
def RootsK : Kv := fun v m nx => ∃ (c1 : Nat) (s1 : List Value) (c2 : Nat) (s2 : List Value), v = .tup [.sl 0 0 8 c1, .sl 1 0 64 c2] ∧ m = [(0, .cells (bvs .u32 beginL ++ s1.map AV.val) 108), (1, .cells (bvs .u32 rootsL ++ s2.map AV.val) 108)] ∧ nx = 2
set_option maxHeartbeats 800000 in
theorem rootsROk : CallOk Try.prog 137 [] (fun _ => true) [] 0 RootsK := by
  refine fn_ok Try.func137 rfl (by show 0 ≤ _; decide) ?_
  simp (maxSteps := 1000000) -implicitDefEqProofs only [go_sem, Nat.reduceBEq, Nat.reduceLT, Nat.reduceLeDiff, Nat.reduceEqDiff, Nat.reduceAdd, Nat.reduceMul, Nat.reduceSub, reduceIte, reduceCtorEq, Int.reduceLT, Int.reduceLE, Int.reduceToNat, Int.reduceAdd, Int.reduceSub, Int.reduceNeg, Int.reduceEq, Int.reduceNe, Int.reduceBEq, Int.reduceBNe, BitVec.reduceBEq, BitVec.reduceBNe, BitVec.reduceOfInt, BitVec.reduceSetWidth, -List.reduceReplicate, Try.results137, Try.ntmps137]
  refine primesOk.bytes (by simp only [argsx, argx_int, argx_bool, argx_fn, argx_ro, argx_nils, eq_self, true_and, and_true, and_self]; try trivial) (fun _ _ => rfl) (fun _ _ => rfl) (fun _ => rfl) ?_
  rw [primesL_len]
  simp (maxSteps := 1000000) -implicitDefEqProofs only [go_sem, Nat.reduceBEq, Nat.reduceLT, Nat.reduceLeDiff, Nat.reduceEqDiff, Nat.reduceAdd, Nat.reduceMul, Nat.reduceSub, reduceIte, reduceCtorEq, Int.reduceLT, Int.reduceLE, Int.reduceToNat, Int.reduceAdd, Int.reduceSub, Int.reduceNeg, Int.reduceEq, Int.reduceNe, Int.reduceBEq, Int.reduceBNe, BitVec.reduceBEq, BitVec.reduceBNe, BitVec.reduceOfInt, BitVec.reduceSetWidth, -List.reduceReplicate]
  refine LoopOk.upX (fun i x => Two (hX i) (qX i) x) 64 (fun i x => ([(3, x.1), (4, x.2.1), (5, .int .i64 i), (2, .ro 64 (bvs .u64 primesL))], x.2.2.1, x.2.2.2)) (.nils, .nils, [], 0) (.inl ⟨rfl, rfl, rfl⟩) ?_ ?_
  · exact ⟨[], rfl, Nat.zero_le _, ⟨rfl, rfl, rfl, by simp only [renA, bvs_ren]; rfl, trivial⟩, trivial, List.nodup_nil, (fun n e => by cases e), fun _ _ => rfl⟩
  intro i x ⟨hi, hq⟩
  have wi : IntKind.i64.wrap ((i : Int) + 1) = ((i + 1 : Nat) : Int) := by rw [wrap_i64] <;> omega
  have hgd : ∀ h : i < 64, (bvs .u64 primesL).getD i (.int .u64 0) = .int .u64 ((primesL.getD i 0).toNat : Int) := fun h => bvs_getD ..
  rcases Nat.lt_or_ge i 64 with h' | h'
  · have f1 : decide ((i : Int) < 64) = true := by simp; omega
    have hq2 := qX_succ i h'
    have hgd := hgd h'
    rcases Nat.lt_or_ge i 8 with h8 | h8
    · have f2 : decide ((i : Int) < 8) = true := by simp; omega
      have hh2 := hX_succ i h8
      rcases hq with ⟨hn1, hn2, rfl⟩ | ⟨c1, s1, c2, s2, rfl, g1, g2, g3, g4⟩
      · rw [hn1, List.nil_append] at hh2
        rw [hn2, List.nil_append] at hq2
        simp (maxSteps := 1000000) -implicitDefEqProofs only [go_sem, Nat.reduceBEq, Nat.reduceLT, Nat.reduceLeDiff, Nat.reduceEqDiff, Nat.reduceAdd, Nat.reduceMul, Nat.reduceSub, reduceIte, reduceCtorEq, Int.reduceLT, Int.reduceLE, Int.reduceToNat, Int.reduceAdd, Int.reduceSub, Int.reduceNeg, Int.reduceEq, Int.reduceNe, Int.reduceBEq, Int.reduceBNe, BitVec.reduceBEq, BitVec.reduceBNe, BitVec.reduceOfInt, BitVec.reduceSetWidth, -List.reduceReplicate, f1, f2, hgd]
        refine ⟨by omega, by rw [primesL_len]; omega, by rw [List.length_drop, primesL_len]; omega, ?_⟩
        refine (squareOk (primesL.getD i 0)).flatv (by simp only [argsx, argx_int, argx_bool, argx_fn, argx_ro, argx_nils, eq_self, true_and, and_true, and_self]; try trivial) (fun _ => rfl) rfl ?_
        simp (maxSteps := 1000000) -implicitDefEqProofs only [go_sem, Nat.reduceBEq, Nat.reduceLT, Nat.reduceLeDiff, Nat.reduceEqDiff, Nat.reduceAdd, Nat.reduceMul, Nat.reduceSub, reduceIte, reduceCtorEq, Int.reduceLT, Int.reduceLE, Int.reduceToNat, Int.reduceAdd, Int.reduceSub, Int.reduceNeg, Int.reduceEq, Int.reduceNe, Int.reduceBEq, Int.reduceBNe, BitVec.reduceBEq, BitVec.reduceBNe, BitVec.reduceOfInt, BitVec.reduceSetWidth, -List.reduceReplicate]
        refine ⟨.inr trivial, rfl, by show 1 * 4 ≤ _; decide, by show 1 ≤ _; decide, (fun e => by cases e), fun _ c1 s1 a1 g2 b1 => ?_⟩
        have g1 : 1 + s1.length = c1 := by
          change 1 ≤ c1 at a1
          change s1.length = (c1 - 1) * 1 at b1
          omega
        simp (maxSteps := 1000000) -implicitDefEqProofs only [go_sem, Nat.reduceBEq, Nat.reduceLT, Nat.reduceLeDiff, Nat.reduceEqDiff, Nat.reduceAdd, Nat.reduceMul, Nat.reduceSub, reduceIte, reduceCtorEq, Int.reduceLT, Int.reduceLE, Int.reduceToNat, Int.reduceAdd, Int.reduceSub, Int.reduceNeg, Int.reduceEq, Int.reduceNe, Int.reduceBEq, Int.reduceBNe, BitVec.reduceBEq, BitVec.reduceBNe, BitVec.reduceOfInt, BitVec.reduceSetWidth, -List.reduceReplicate, hgd]
        refine ⟨by omega, by rw [primesL_len]; omega, by rw [List.length_drop, primesL_len]; omega, ?_⟩
        refine (cubeOk (primesL.getD i 0)).flatv (by simp only [argsx, argx_int, argx_bool, argx_fn, argx_ro, argx_nils, eq_self, true_and, and_true, and_self]; try trivial) (fun _ => rfl) rfl ?_
        simp (maxSteps := 1000000) -implicitDefEqProofs only [go_sem, Nat.reduceBEq, Nat.reduceLT, Nat.reduceLeDiff, Nat.reduceEqDiff, Nat.reduceAdd, Nat.reduceMul, Nat.reduceSub, reduceIte, reduceCtorEq, Int.reduceLT, Int.reduceLE, Int.reduceToNat, Int.reduceAdd, Int.reduceSub, Int.reduceNeg, Int.reduceEq, Int.reduceNe, Int.reduceBEq, Int.reduceBNe, BitVec.reduceBEq, BitVec.reduceBNe, BitVec.reduceOfInt, BitVec.reduceSetWidth, -List.reduceReplicate]
        refine ⟨.inr trivial, rfl, by show 1 * 4 ≤ _; decide, by show 1 ≤ _; decide, (fun e => by cases e), fun _ c2 s2 a2 g4 b2 => ?_⟩
        have g3 : 1 + s2.length = c2 := by
          change 1 ≤ c2 at a2
          change s2.length = (c2 - 1) * 1 at b2
          omega
        simp (maxSteps := 1000000) -implicitDefEqProofs only [go_sem, Nat.reduceBEq, Nat.reduceLT, Nat.reduceLeDiff, Nat.reduceEqDiff, Nat.reduceAdd, Nat.reduceMul, Nat.reduceSub, reduceIte, reduceCtorEq, Int.reduceLT, Int.reduceLE, Int.reduceToNat, Int.reduceAdd, Int.reduceSub, Int.reduceNeg, Int.reduceEq, Int.reduceNe, Int.reduceBEq, Int.reduceBNe, BitVec.reduceBEq, BitVec.reduceBNe, BitVec.reduceOfInt, BitVec.reduceSetWidth, -List.reduceReplicate, wi]
        refine UpX_normal h' (_, _, _, _) (.inr ⟨c1, s1, c2, s2, rfl, by rw [hh2]; exact g1, g2, by rw [hq2]; exact g3, g4⟩) ?_
        exact Le.two (n1 := 1) (n2 := 3) (by decide) ⟨by rw [hh2]; rfl, by rw [hq2]; rfl, rfl, by simp only [renA, bvs_ren]; rfl, trivial⟩ (by rw [hh2]; simp only [renO, renL_vals']; rfl) (by rw [hq2]; simp only [renO, renL_vals']; rfl)
      · simp (maxSteps := 1000000) -implicitDefEqProofs only [go_sem, Nat.reduceBEq, Nat.reduceLT, Nat.reduceLeDiff, Nat.reduceEqDiff, Nat.reduceAdd, Nat.reduceMul, Nat.reduceSub, reduceIte, reduceCtorEq, Int.reduceLT, Int.reduceLE, Int.reduceToNat, Int.reduceAdd, Int.reduceSub, Int.reduceNeg, Int.reduceEq, Int.reduceNe, Int.reduceBEq, Int.reduceBNe, BitVec.reduceBEq, BitVec.reduceBNe, BitVec.reduceOfInt, BitVec.reduceSetWidth, -List.reduceReplicate, f1, f2, hgd]
        refine ⟨by omega, by rw [primesL_len]; omega, by rw [List.length_drop, primesL_len]; omega, ?_⟩
        refine (squareOk (primesL.getD i 0)).flatv (by simp only [argsx, argx_int, argx_bool, argx_fn, argx_ro, argx_nils, eq_self, true_and, and_true, and_self]; try trivial) (fun _ => rfl) rfl ?_
        simp (maxSteps := 1000000) -implicitDefEqProofs only [go_sem, Nat.reduceBEq, Nat.reduceLT, Nat.reduceLeDiff, Nat.reduceEqDiff, Nat.reduceAdd, Nat.reduceMul, Nat.reduceSub, reduceIte, reduceCtorEq, Int.reduceLT, Int.reduceLE, Int.reduceToNat, Int.reduceAdd, Int.reduceSub, Int.reduceNeg, Int.reduceEq, Int.reduceNe, Int.reduceBEq, Int.reduceBNe, BitVec.reduceBEq, BitVec.reduceBNe, BitVec.reduceOfInt, BitVec.reduceSetWidth, -List.reduceReplicate]
        refine ⟨.inr trivial, rfl, ?_⟩
        refine appk_bvs (x := hX i) (y := [squareW (primesL.getD i 0)]) (n := 0) (sp := s1) rfl rfl g1 g2 (bt := 4) (by decide) (by simp only [List.length_cons, List.length_nil, hX_len]; omega) fun c1 s1 g1 g2 => ?_
        rw [← hh2]
        rw [← hh2] at g1
        simp (maxSteps := 1000000) -implicitDefEqProofs only [go_sem, Nat.reduceBEq, Nat.reduceLT, Nat.reduceLeDiff, Nat.reduceEqDiff, Nat.reduceAdd, Nat.reduceMul, Nat.reduceSub, reduceIte, reduceCtorEq, Int.reduceLT, Int.reduceLE, Int.reduceToNat, Int.reduceAdd, Int.reduceSub, Int.reduceNeg, Int.reduceEq, Int.reduceNe, Int.reduceBEq, Int.reduceBNe, BitVec.reduceBEq, BitVec.reduceBNe, BitVec.reduceOfInt, BitVec.reduceSetWidth, -List.reduceReplicate, hgd]
        refine ⟨by omega, by rw [primesL_len]; omega, by rw [List.length_drop, primesL_len]; omega, ?_⟩
        refine (cubeOk (primesL.getD i 0)).flatv (by simp only [argsx, argx_int, argx_bool, argx_fn, argx_ro, argx_nils, eq_self, true_and, and_true, and_self]; try trivial) (fun _ => rfl) rfl ?_
        simp (maxSteps := 1000000) -implicitDefEqProofs only [go_sem, Nat.reduceBEq, Nat.reduceLT, Nat.reduceLeDiff, Nat.reduceEqDiff, Nat.reduceAdd, Nat.reduceMul, Nat.reduceSub, reduceIte, reduceCtorEq, Int.reduceLT, Int.reduceLE, Int.reduceToNat, Int.reduceAdd, Int.reduceSub, Int.reduceNeg, Int.reduceEq, Int.reduceNe, Int.reduceBEq, Int.reduceBNe, BitVec.reduceBEq, BitVec.reduceBNe, BitVec.reduceOfInt, BitVec.reduceSetWidth, -List.reduceReplicate]
        refine ⟨.inr trivial, rfl, ?_⟩
        refine appk_bvs (x := qX i) (y := [cubeW (primesL.getD i 0)]) (n := 1) (sp := s2) rfl rfl g3 g4 (bt := 4) (by decide) (by simp only [List.length_cons, List.length_nil, qX_len]; omega) fun c2 s2 g3 g4 => ?_
        rw [← hq2]
        rw [← hq2] at g3
        simp (maxSteps := 1000000) -implicitDefEqProofs only [go_sem, Nat.reduceBEq, Nat.reduceLT, Nat.reduceLeDiff, Nat.reduceEqDiff, Nat.reduceAdd, Nat.reduceMul, Nat.reduceSub, reduceIte, reduceCtorEq, Int.reduceLT, Int.reduceLE, Int.reduceToNat, Int.reduceAdd, Int.reduceSub, Int.reduceNeg, Int.reduceEq, Int.reduceNe, Int.reduceBEq, Int.reduceBNe, BitVec.reduceBEq, BitVec.reduceBNe, BitVec.reduceOfInt, BitVec.reduceSetWidth, -List.reduceReplicate, wi]
        refine UpX_normal h' (_, _, _, _) (.inr ⟨c1, s1, c2, s2, rfl, g1, g2, g3, g4⟩) ?_
        exact Le.two (n1 := 3) (n2 := 5) (by decide) ⟨rfl, rfl, rfl, by simp only [renA, bvs_ren]; rfl, trivial⟩ (by simp only [renO, renL_vals']; rfl) (by simp only [renO, renL_vals']; rfl)
    · have f2 : decide ((i : Int) < 8) = false := by simp; omega
      have hh2 := hX_stay i h8
      rcases hq with ⟨hn1, hn2, rfl⟩ | ⟨c1, s1, c2, s2, rfl, g1, g2, g3, g4⟩
      · have := hX_len i; rw [hn1, List.length_nil] at this; omega
      · simp (maxSteps := 1000000) -implicitDefEqProofs only [go_sem, Nat.reduceBEq, Nat.reduceLT, Nat.reduceLeDiff, Nat.reduceEqDiff, Nat.reduceAdd, Nat.reduceMul, Nat.reduceSub, reduceIte, reduceCtorEq, Int.reduceLT, Int.reduceLE, Int.reduceToNat, Int.reduceAdd, Int.reduceSub, Int.reduceNeg, Int.reduceEq, Int.reduceNe, Int.reduceBEq, Int.reduceBNe, BitVec.reduceBEq, BitVec.reduceBNe, BitVec.reduceOfInt, BitVec.reduceSetWidth, -List.reduceReplicate, f1, f2, hgd]
        refine ⟨by omega, by rw [primesL_len]; omega, by rw [List.length_drop, primesL_len]; omega, ?_⟩
        refine (cubeOk (primesL.getD i 0)).flatv (by simp only [argsx, argx_int, argx_bool, argx_fn, argx_ro, argx_nils, eq_self, true_and, and_true, and_self]; try trivial) (fun _ => rfl) rfl ?_
        simp (maxSteps := 1000000) -implicitDefEqProofs only [go_sem, Nat.reduceBEq, Nat.reduceLT, Nat.reduceLeDiff, Nat.reduceEqDiff, Nat.reduceAdd, Nat.reduceMul, Nat.reduceSub, reduceIte, reduceCtorEq, Int.reduceLT, Int.reduceLE, Int.reduceToNat, Int.reduceAdd, Int.reduceSub, Int.reduceNeg, Int.reduceEq, Int.reduceNe, Int.reduceBEq, Int.reduceBNe, BitVec.reduceBEq, BitVec.reduceBNe, BitVec.reduceOfInt, BitVec.reduceSetWidth, -List.reduceReplicate]
        refine ⟨.inr trivial, rfl, ?_⟩
        refine appk_bvs (x := qX i) (y := [cubeW (primesL.getD i 0)]) (n := 1) (sp := s2) rfl rfl g3 g4 (bt := 4) (by decide) (by simp only [List.length_cons, List.length_nil, qX_len]; omega) fun c2 s2 g3 g4 => ?_
        rw [← hq2]
        rw [← hq2] at g3
        simp (maxSteps := 1000000) -implicitDefEqProofs only [go_sem, Nat.reduceBEq, Nat.reduceLT, Nat.reduceLeDiff, Nat.reduceEqDiff, Nat.reduceAdd, Nat.reduceMul, Nat.reduceSub, reduceIte, reduceCtorEq, Int.reduceLT, Int.reduceLE, Int.reduceToNat, Int.reduceAdd, Int.reduceSub, Int.reduceNeg, Int.reduceEq, Int.reduceNe, Int.reduceBEq, Int.reduceBNe, BitVec.reduceBEq, BitVec.reduceBNe, BitVec.reduceOfInt, BitVec.reduceSetWidth, -List.reduceReplicate, wi]
        refine UpX_normal h' (_, _, _, _) (.inr ⟨c1, s1, c2, s2, rfl, by rw [hh2]; exact g1, g2, g3, g4⟩) ?_
        exact Le.two (n1 := 0) (n2 := 3) (by decide) ⟨by rw [hh2]; rfl, rfl, rfl, by simp only [renA, bvs_ren]; rfl, trivial⟩ (by rw [hh2]; simp only [renO, renL_vals']; rfl) (by simp only [renO, renL_vals']; rfl)
  · have hii : i = 64 := by omega
    subst hii
    have f1 : decide ((64 : Int) < 64) = false := rfl
    have e1 : hX 64 = beginL := beginL_roots
    have e2 : qX 64 = rootsL := rootsL_roots
    rw [e1, e2] at hq
    rcases hq with ⟨hn1, hn2, rfl⟩ | ⟨c1, s1, c2, s2, rfl, g1, g2, g3, g4⟩
    · exact absurd hn1 (by decide)
    simp (maxSteps := 1000000) -implicitDefEqProofs only [go_sem, Nat.reduceBEq, Nat.reduceLT, Nat.reduceLeDiff, Nat.reduceEqDiff, Nat.reduceAdd, Nat.reduceMul, Nat.reduceSub, reduceIte, reduceCtorEq, Int.reduceLT, Int.reduceLE, Int.reduceToNat, Int.reduceAdd, Int.reduceSub, Int.reduceNeg, Int.reduceEq, Int.reduceNe, Int.reduceBEq, Int.reduceBNe, BitVec.reduceBEq, BitVec.reduceBNe, BitVec.reduceOfInt, BitVec.reduceSetWidth, -List.reduceReplicate, f1]
    exact ⟨[(0, 0), (1, 1)], .tup [.sl 0 0 8 c1, .sl 1 0 64 c2], [(0, .cells (bvs .u32 beginL ++ s1.map AV.val) 108), (1, .cells (bvs .u32 rootsL ++ s2.map AV.val) 108)], 2, ⟨rfl, by decide⟩, rfl, ⟨by simp only [renO, renL_vals']; rfl, rfl, by simp only [renO, renL_vals']; rfl, rfl, trivial⟩, by simp [injOn, rf, Eng.look], (fun n e => by cases e), c1, s1, c2, s2, rfl, rfl, rfl⟩
end Go.Proofs.Ytmdeoikpiiambaa
end
section
/- SHA-256: the document; both are alike. -/
set_option linter.unusedVariables false
set_option linter.unusedSimpArgs false
set_option maxRecDepth 100000
/-! Shk -/
namespace Go.Eng
theorem LoopOk.upXF {X : Type} (Q : Nat → X → Prop) {nf : Nat} {E : Ex} {wr : Nat → Bool} {t : Slots} {m : Mem} {nx : Nat} {K : Kx} (n : Nat) (S : Nat → X → Slots × Mem × Nat) (x0 : X) (hq : Q 0 x0)
    (h0 : LeF nf wr t m nx (S 0 x0).1 (S 0 x0).2.1 (S 0 x0).2.2) (hr : ∀ i x (hi : i ≤ n ∧ Q i x), E (S i x).1 (S i x).2.1 (S i x).2.2 (UpX Q nf wr S n i x hi K)) : LoopOk true nf E wr t m nx K :=
  ⟨{ p : Nat × X // p.1 ≤ n ∧ Q p.1 p.2 }, fun p => S p.1.1 p.1.2, fun p => n - p.1.1, ⟨⟨(0, x0), Nat.zero_le _, hq⟩, .inr ⟨rfl, h0⟩⟩, fun p => hr p.1.1 p.1.2 p.2⟩
end Go.Eng
namespace Go.Proofs.Ytmdeoikpiiambaa
open Go Go.Eng
def rT (V : List (BitVec 32)) (q w : BitVec 32) : BitVec 32 :=
  V.getD 7 0 + (rotN (V.getD 4 0) 6 ^^^ rotN (V.getD 4 0) 11 ^^^ rotN (V.getD 4 0) 25) + (V.getD 4 0 &&& V.getD 5 0 ^^^ (4294967295#32 - V.getD 4 0) &&& V.getD 6 0) + q + w
def rU (V : List (BitVec 32)) : BitVec 32 :=
  (rotN (V.getD 0 0) 2 ^^^ rotN (V.getD 0 0) 13 ^^^ rotN (V.getD 0 0) 22) + (V.getD 0 0 &&& V.getD 1 0 ^^^ V.getD 0 0 &&& V.getD 2 0 ^^^ V.getD 1 0 &&& V.getD 2 0)
def rRound (V : List (BitVec 32)) (q w : BitVec 32) : List (BitVec 32) :=
  [rT V q w + rU V, V.getD 0 0, V.getD 1 0, V.getD 2 0, V.getD 3 0 + rT V q w, V.getD 4 0, V.getD 5 0, V.getD 6 0]
def rrds (w V : List (BitVec 32)) : Nat → List (BitVec 32)
  | 0 => V
  | n + 1 => rRound (rrds w V n) (rootsL.getD n 0) (w.getD n 0)
def rAdd (L V : List (BitVec 32)) : List (BitVec 32) :=
  [L.getD 0 0 + V.getD 0 0, L.getD 1 0 + V.getD 1 0, L.getD 2 0 + V.getD 2 0, L.getD 3 0 + V.getD 3 0, L.getD 4 0 + V.getD 4 0, L.getD 5 0 + V.getD 5 0, L.getD 6 0 + V.getD 6 0, L.getD 7 0 + V.getD 7 0]
def rBlock (L : List (BitVec 32)) (b : List (BitVec 8)) : List (BitVec 32) := rAdd L (rrds (rl b 64) L 64)
def rBl (b : List (BitVec 8)) : Nat → List (BitVec 32)
  | 0 => beginL
  | n + 1 => rBlock (rBl b n) ((b.drop (64 * n)).take 64)
theorem rBl_len (b : List (BitVec 8)) (n : Nat) : (rBl b n).length = 8 := by
  cases n with
  | zero => rfl
  | succ n => rfl
/-- a word's four bytes, the first on the left -/
def b4 (x : BitVec 32) : List (BitVec 8) := [(x / 16777216#32).setWidth 8, (x / 65536#32).setWidth 8, (x / 256#32).setWidth 8, x.setWidth 8]
def outR (L : List (BitVec 32)) : Nat → List (BitVec 8)
  | 0 => []
  | n + 1 => outR L n ++ b4 (L.getD n 0)
def shaR (b : List (BitVec 8)) : List (BitVec 8) := outR (rBl (padR b) ((padR b).length / 64)) 8
theorem outR_len (L : List (BitVec 32)) (n : Nat) : (outR L n).length = 4 * n := by
  induction n with
  | zero => rfl
  | succ n ih => rw [outR, List.length_append, ih]; rfl
/-- bytes that are appended to, beside an object -/
def ApL (o : AObj) (X : List (BitVec 8)) (x : AV × Mem × Nat) : Prop :=
  (X = [] ∧ x = (.nils, [(0, o)], 1)) ∨ ∃ (cap : Nat) (sp : List Value), x = (.sl 1 0 X.length cap, [(0, o), (1, .cells (bvs .u8 X ++ sp.map AV.val) 5)], 2) ∧ X.length + sp.length = cap ∧ cap ≤ maxI
theorem padR_mod (b : List (BitVec 8)) : (padR b).length % 64 = 0 := by
  rw [padR, rpE_len, zN]; omega
theorem padR_le (b : List (BitVec 8)) : (padR b).length ≤ b.length + 72 := by
  rw [padR, rpE_len, zN]; omega
set_option maxHeartbeats 1600000 in
theorem rshaOk (b : List (BitVec 8)) (hb : b.length ≤ 100000) : CallOk Try.prog 80 [.ro b.length (bvs .u8 b)] (fun _ => true) [] 0 (ByK 5 idG (shaR b) [] 0) := by
  refine fn_ok Try.func80 rfl (by show 1 ≤ _; decide) ?_
  simp (maxSteps := 1000000) -implicitDefEqProofs only [go_sem, Nat.reduceBEq, Nat.reduceLT, Nat.reduceLeDiff, Nat.reduceEqDiff, Nat.reduceAdd, Nat.reduceMul, Nat.reduceSub, reduceIte, reduceCtorEq, Int.reduceLT, Int.reduceLE, Int.reduceToNat, Int.reduceAdd, Int.reduceSub, Int.reduceNeg, Int.reduceEq, Int.reduceNe, Int.reduceBEq, Int.reduceBNe, BitVec.reduceBEq, BitVec.reduceBNe, BitVec.reduceOfInt, BitVec.reduceSetWidth, -List.reduceReplicate, Try.results80, Try.ntmps80]
  refine rootsROk.more trivial ?_
  rintro _ _ _ ⟨c1, s1, c2, s2, rfl, rfl, rfl⟩
  refine ⟨rfl, by simp only [noRoM, noRoO, noRoL_vals', Bool.and_self], ?_⟩
  simp only [renM, renO, renL_vals']
  simp (maxSteps := 1000000) -implicitDefEqProofs only [go_sem, Nat.reduceBEq, Nat.reduceLT, Nat.reduceLeDiff, Nat.reduceEqDiff, Nat.reduceAdd, Nat.reduceMul, Nat.reduceSub, reduceIte, reduceCtorEq, Int.reduceLT, Int.reduceLE, Int.reduceToNat, Int.reduceAdd, Int.reduceSub, Int.reduceNeg, Int.reduceEq, Int.reduceNe, Int.reduceBEq, Int.reduceBNe, BitVec.reduceBEq, BitVec.reduceBNe, BitVec.reduceOfInt, BitVec.reduceSetWidth, -List.reduceReplicate]
  refine (rpadOk b hb).bytes (by simp only [argsx, argx_int, argx_bool, argx_fn, argx_ro, argx_nils, eq_self, true_and, and_true, and_self]; try trivial) (fun _ _ => rfl) (fun _ _ => rfl) (fun _ => rfl) ?_
  have hm := padR_mod b
  have hl := padR_le b
  have hshr : shaR b = outR (rBl (padR b) ((padR b).length / 64)) 8 := rfl
  rw [hshr]
  generalize padR b = p at *
  obtain ⟨N, hN⟩ : ∃ N, p.length = 64 * N := ⟨p.length / 64, by omega⟩
  have hdN : p.length / 64 = N := by omega
  rw [hdN]
  simp (maxSteps := 1000000) -implicitDefEqProofs only [go_sem, Nat.reduceBEq, Nat.reduceLT, Nat.reduceLeDiff, Nat.reduceEqDiff, Nat.reduceAdd, Nat.reduceMul, Nat.reduceSub, reduceIte, reduceCtorEq, Int.reduceLT, Int.reduceLE, Int.reduceToNat, Int.reduceAdd, Int.reduceSub, Int.reduceNeg, Int.reduceEq, Int.reduceNe, Int.reduceBEq, Int.reduceBNe, BitVec.reduceBEq, BitVec.reduceBNe, BitVec.reduceOfInt, BitVec.reduceSetWidth, -List.reduceReplicate]
  refine LoopOk.upX (fun _ (_ : Nat × List Value) => True) N (fun n x => ([(3, .sl 0 0 8 x.1), (6, .int .i64 ((64 * n : Nat) : Int)), (4, .sl 1 0 64 c2), (5, .ro p.length (bvs .u8 p))], [(0, .cells (bvs .u32 (rBl p n) ++ x.2.map AV.val) 108), (1, .cells (bvs .u32 rootsL ++ s2.map AV.val) 108)], 2)) (c1, s1) trivial ?_ ?_
  · exact Le.two (n1 := 0) (n2 := 1) (by decide) ⟨rfl, rfl, rfl, by simp only [renA, bvs_ren]; rfl, trivial⟩ (by simp only [renO, renL_vals']; rfl) (by simp only [renO, renL_vals']; rfl)
  intro n x ⟨hn, _⟩
  obtain ⟨c1, s1⟩ := x
  rcases Nat.lt_or_ge n N with h' | h'
  · have f1 : decide (((64 * n : Nat) : Int) < (p.length : Int)) = true := by simp; omega
    have w64 : IntKind.i64.wrap (((64 * n : Nat) : Int) + 64) = ((64 * (n + 1) : Nat) : Int) := by rw [wrap_i64] <;> omega
    simp (maxSteps := 1000000) -implicitDefEqProofs only [go_sem, Nat.reduceBEq, Nat.reduceLT, Nat.reduceLeDiff, Nat.reduceEqDiff, Nat.reduceAdd, Nat.reduceMul, Nat.reduceSub, reduceIte, reduceCtorEq, Int.reduceLT, Int.reduceLE, Int.reduceToNat, Int.reduceAdd, Int.reduceSub, Int.reduceNeg, Int.reduceEq, Int.reduceNe, Int.reduceBEq, Int.reduceBNe, BitVec.reduceBEq, BitVec.reduceBNe, BitVec.reduceOfInt, BitVec.reduceSetWidth, -List.reduceReplicate, f1, w64]
    have e64 : 64 * (n + 1) - 64 * n = 64 := by omega
    have hbk : ((p.drop (64 * n)).take 64).length = 64 := by rw [List.length_take, List.length_drop]; omega
    have hnx : rBl p (n + 1) = rAdd (rBl p n) (rrds (rl ((p.drop (64 * n)).take 64) 64) (rBl p n) 64) := rfl
    rw [e64]
    generalize (p.drop (64 * n)).take 64 = bk at *
    refine ⟨by omega, ?_⟩
    refine (rspreadOk bk hbk).bytes (by simp only [argsx, argx_int, argx_bool, argx_fn, argx_ro, argx_nils, eq_self, true_and, and_true, and_self]; try trivial) (fun _ _ => rfl) (fun _ _ => rfl) (fun _ => rfl) ?_
    have hL := rBl_len p n
    have hrl := rl_len bk 64
    rw [hrl]
    generalize rBl p n = L at *
    generalize rl bk 64 = Wd at *
    have l0 := bvsS_getD .u32 L (s1.map AV.val) 0 (by omega)
    have l1 := bvsS_getD .u32 L (s1.map AV.val) 1 (by omega)
    have l2 := bvsS_getD .u32 L (s1.map AV.val) 2 (by omega)
    have l3 := bvsS_getD .u32 L (s1.map AV.val) 3 (by omega)
    have l4 := bvsS_getD .u32 L (s1.map AV.val) 4 (by omega)
    have l5 := bvsS_getD .u32 L (s1.map AV.val) 5 (by omega)
    have l6 := bvsS_getD .u32 L (s1.map AV.val) 6 (by omega)
    have l7 := bvsS_getD .u32 L (s1.map AV.val) 7 (by omega)
    have hroots : rootsL.length = 64 := rfl
    simp (maxSteps := 1000000) -implicitDefEqProofs only [go_sem, Nat.reduceBEq, Nat.reduceLT, Nat.reduceLeDiff, Nat.reduceEqDiff, Nat.reduceAdd, Nat.reduceMul, Nat.reduceSub, reduceIte, reduceCtorEq, Int.reduceLT, Int.reduceLE, Int.reduceToNat, Int.reduceAdd, Int.reduceSub, Int.reduceNeg, Int.reduceEq, Int.reduceNe, Int.reduceBEq, Int.reduceBNe, BitVec.reduceBEq, BitVec.reduceBNe, BitVec.reduceOfInt, BitVec.reduceSetWidth, -List.reduceReplicate, l0, l1, l2, l3, l4, l5, l6, l7, List.length_append, bvs_length, hL]
    refine ⟨by omega, by omega, by omega, by omega, by omega, by omega, by omega, by omega, ?_⟩
    refine LoopOk.up 64 (fun i => ([(16, .int .i64 i), (8, .int .u32 (((rrds Wd L i).getD 0 0).toNat : Int)), (9, .int .u32 (((rrds Wd L i).getD 1 0).toNat : Int)), (10, .int .u32 (((rrds Wd L i).getD 2 0).toNat : Int)), (11, .int .u32 (((rrds Wd L i).getD 3 0).toNat : Int)), (12, .int .u32 (((rrds Wd L i).getD 4 0).toNat : Int)), (13, .int .u32 (((rrds Wd L i).getD 5 0).toNat : Int)), (14, .int .u32 (((rrds Wd L i).getD 6 0).toNat : Int)), (15, .int .u32 (((rrds Wd L i).getD 7 0).toNat : Int)), (7, .ro 64 (bvs .u32 Wd)), (3, .sl 0 0 8 c1), (6, .int .i64 ((64 * n : Nat) : Int)), (4, .sl 1 0 64 c2), (5, .ro p.length (bvs .u8 p))], [(0, .cells (bvs .u32 L ++ s1.map AV.val) 108), (1, .cells (bvs .u32 rootsL ++ s2.map AV.val) 108)], 3)) (Le.sameM ⟨rfl, rfl, rfl, rfl, rfl, rfl, rfl, rfl, rfl, rfl, rfl, rfl, rfl, rfl, trivial⟩ (by simp)) ?_
    intro i hi
    have hnr : rrds Wd L (i + 1) = rRound (rrds Wd L i) (rootsL.getD i 0) (Wd.getD i 0) := rfl
    rcases Nat.lt_or_ge i 64 with g | g
    · have f2 : decide ((i : Int) < 64) = true := by simp; omega
      have wi : IntKind.i64.wrap ((i : Int) + 1) = ((i + 1 : Nat) : Int) := by rw [wrap_i64] <;> omega
      have hq := bvsS_getD .u32 rootsL (s2.map AV.val) i (by rw [hroots]; exact g)
      have hw : (bvs .u32 Wd).getD i (.int .u32 0) = .int .u32 ((Wd.getD i 0).toNat : Int) := bvs_getD ..
      generalize rrds Wd L i = V at *
      simp (maxSteps := 1000000) -implicitDefEqProofs only [go_sem, Nat.reduceBEq, Nat.reduceLT, Nat.reduceLeDiff, Nat.reduceEqDiff, Nat.reduceAdd, Nat.reduceMul, Nat.reduceSub, reduceIte, reduceCtorEq, Int.reduceLT, Int.reduceLE, Int.reduceToNat, Int.reduceAdd, Int.reduceSub, Int.reduceNeg, Int.reduceEq, Int.reduceNe, Int.reduceBEq, Int.reduceBNe, BitVec.reduceBEq, BitVec.reduceBNe, BitVec.reduceOfInt, BitVec.reduceSetWidth, -List.reduceReplicate, f2, wi]
      refine ⟨Fx.mixed, .inl ⟨[(0, false), (1, false), (3, false), (6, false), (10, false), (11, false), (12, false), (13, false), (14, false), (15, false), (16, false), (17, false), (19, false), (20, false), (21, false), (22, false), (24, false), (25, false), (26, false), (27, false), (2, true), (4, true), (5, false), (7, true), (8, false), (9, false), (18, false), (23, false), (28, false), (29, false)], [], by kernel_rfl, (fun n hn => by cases hn), ?_⟩⟩
      simp (maxSteps := 1000000) -implicitDefEqProofs only [go_sem, Nat.reduceBEq, Nat.reduceLT, Nat.reduceLeDiff, Nat.reduceEqDiff, Nat.reduceAdd, Nat.reduceMul, Nat.reduceSub, reduceIte, reduceCtorEq, Int.reduceLT, Int.reduceLE, Int.reduceToNat, Int.reduceAdd, Int.reduceSub, Int.reduceNeg, Int.reduceEq, Int.reduceNe, Int.reduceBEq, Int.reduceBNe, BitVec.reduceBEq, BitVec.reduceBNe, BitVec.reduceOfInt, BitVec.reduceSetWidth, -List.reduceReplicate, hq, hw, List.length_append, bvs_length, hroots]
      refine ⟨by omega, by omega, by omega, by omega, by rw [List.length_drop, hrl]; omega, ?_⟩
      refine (rrotOk (V.getD 4 0) 6 (by decide)).flatv (by simp only [argsx, argx_int, argx_bool, argx_fn, argx_ro, argx_nils, eq_self, true_and, and_true, and_self]; try trivial) (fun _ => rfl) rfl ?_
      simp (maxSteps := 1000000) -implicitDefEqProofs only [go_sem, Nat.reduceBEq, Nat.reduceLT, Nat.reduceLeDiff, Nat.reduceEqDiff, Nat.reduceAdd, Nat.reduceMul, Nat.reduceSub, reduceIte, reduceCtorEq, Int.reduceLT, Int.reduceLE, Int.reduceToNat, Int.reduceAdd, Int.reduceSub, Int.reduceNeg, Int.reduceEq, Int.reduceNe, Int.reduceBEq, Int.reduceBNe, BitVec.reduceBEq, BitVec.reduceBNe, BitVec.reduceOfInt, BitVec.reduceSetWidth, -List.reduceReplicate]
      refine (rrotOk (V.getD 4 0) 11 (by decide)).flatv (by simp only [argsx, argx_int, argx_bool, argx_fn, argx_ro, argx_nils, eq_self, true_and, and_true, and_self]; try trivial) (fun _ => rfl) rfl ?_
      simp (maxSteps := 1000000) -implicitDefEqProofs only [go_sem, Nat.reduceBEq, Nat.reduceLT, Nat.reduceLeDiff, Nat.reduceEqDiff, Nat.reduceAdd, Nat.reduceMul, Nat.reduceSub, reduceIte, reduceCtorEq, Int.reduceLT, Int.reduceLE, Int.reduceToNat, Int.reduceAdd, Int.reduceSub, Int.reduceNeg, Int.reduceEq, Int.reduceNe, Int.reduceBEq, Int.reduceBNe, BitVec.reduceBEq, BitVec.reduceBNe, BitVec.reduceOfInt, BitVec.reduceSetWidth, -List.reduceReplicate]
      refine (rrotOk (V.getD 4 0) 25 (by decide)).flatv (by simp only [argsx, argx_int, argx_bool, argx_fn, argx_ro, argx_nils, eq_self, true_and, and_true, and_self]; try trivial) (fun _ => rfl) rfl ?_
      simp (maxSteps := 1000000) -implicitDefEqProofs only [go_sem, Nat.reduceBEq, Nat.reduceLT, Nat.reduceLeDiff, Nat.reduceEqDiff, Nat.reduceAdd, Nat.reduceMul, Nat.reduceSub, reduceIte, reduceCtorEq, Int.reduceLT, Int.reduceLE, Int.reduceToNat, Int.reduceAdd, Int.reduceSub, Int.reduceNeg, Int.reduceEq, Int.reduceNe, Int.reduceBEq, Int.reduceBNe, BitVec.reduceBEq, BitVec.reduceBNe, BitVec.reduceOfInt, BitVec.reduceSetWidth, -List.reduceReplicate]
      refine (rrotOk (V.getD 0 0) 2 (by decide)).flatv (by simp only [argsx, argx_int, argx_bool, argx_fn, argx_ro, argx_nils, eq_self, true_and, and_true, and_self]; try trivial) (fun _ => rfl) rfl ?_
      simp (maxSteps := 1000000) -implicitDefEqProofs only [go_sem, Nat.reduceBEq, Nat.reduceLT, Nat.reduceLeDiff, Nat.reduceEqDiff, Nat.reduceAdd, Nat.reduceMul, Nat.reduceSub, reduceIte, reduceCtorEq, Int.reduceLT, Int.reduceLE, Int.reduceToNat, Int.reduceAdd, Int.reduceSub, Int.reduceNeg, Int.reduceEq, Int.reduceNe, Int.reduceBEq, Int.reduceBNe, BitVec.reduceBEq, BitVec.reduceBNe, BitVec.reduceOfInt, BitVec.reduceSetWidth, -List.reduceReplicate]
      refine (rrotOk (V.getD 0 0) 13 (by decide)).flatv (by simp only [argsx, argx_int, argx_bool, argx_fn, argx_ro, argx_nils, eq_self, true_and, and_true, and_self]; try trivial) (fun _ => rfl) rfl ?_
      simp (maxSteps := 1000000) -implicitDefEqProofs only [go_sem, Nat.reduceBEq, Nat.reduceLT, Nat.reduceLeDiff, Nat.reduceEqDiff, Nat.reduceAdd, Nat.reduceMul, Nat.reduceSub, reduceIte, reduceCtorEq, Int.reduceLT, Int.reduceLE, Int.reduceToNat, Int.reduceAdd, Int.reduceSub, Int.reduceNeg, Int.reduceEq, Int.reduceNe, Int.reduceBEq, Int.reduceBNe, BitVec.reduceBEq, BitVec.reduceBNe, BitVec.reduceOfInt, BitVec.reduceSetWidth, -List.reduceReplicate]
      refine (rrotOk (V.getD 0 0) 22 (by decide)).flatv (by simp only [argsx, argx_int, argx_bool, argx_fn, argx_ro, argx_nils, eq_self, true_and, and_true, and_self]; try trivial) (fun _ => rfl) rfl ?_
      simp (maxSteps := 1000000) -implicitDefEqProofs only [go_sem, Nat.reduceBEq, Nat.reduceLT, Nat.reduceLeDiff, Nat.reduceEqDiff, Nat.reduceAdd, Nat.reduceMul, Nat.reduceSub, reduceIte, reduceCtorEq, Int.reduceLT, Int.reduceLE, Int.reduceToNat, Int.reduceAdd, Int.reduceSub, Int.reduceNeg, Int.reduceEq, Int.reduceNe, Int.reduceBEq, Int.reduceBNe, BitVec.reduceBEq, BitVec.reduceBNe, BitVec.reduceOfInt, BitVec.reduceSetWidth, -List.reduceReplicate, wi]
      refine UpK_normal g (Le.sameM ?_ (by simp))
      rw [hnr]
      exact ⟨rfl, rfl, rfl, rfl, rfl, rfl, rfl, rfl, rfl, rfl, rfl, rfl, rfl, rfl, trivial⟩
    · have hii : i = 64 := by omega
      subst hii
      have f2 : decide ((64 : Int) < 64) = false := rfl
      generalize rrds Wd L 64 = V at *
      simp (maxSteps := 1000000) -implicitDefEqProofs only [go_sem, Nat.reduceBEq, Nat.reduceLT, Nat.reduceLeDiff, Nat.reduceEqDiff, Nat.reduceAdd, Nat.reduceMul, Nat.reduceSub, reduceIte, reduceCtorEq, Int.reduceLT, Int.reduceLE, Int.reduceToNat, Int.reduceAdd, Int.reduceSub, Int.reduceNeg, Int.reduceEq, Int.reduceNe, Int.reduceBEq, Int.reduceBNe, BitVec.reduceBEq, BitVec.reduceBNe, BitVec.reduceOfInt, BitVec.reduceSetWidth, -List.reduceReplicate, f2]
      refine ⟨Fx.mixed, .inl ⟨[(0, false), (1, false), (2, false), (3, false), (4, false), (5, false), (6, false), (7, false), (8, false), (9, false), (10, false), (11, false), (12, false), (13, false), (14, false), (15, false), (16, false), (17, false), (18, false), (19, false), (20, false), (21, false), (22, false), (23, false), (24, false), (25, false), (26, false), (27, false), (28, false), (29, false), (30, false), (31, false), (32, false), (33, false), (34, false), (35, false), (36, false), (37, false), (38, false), (39, false), (40, true), (41, false)], [], by kernel_rfl, (fun n hn => by cases hn), ?_⟩⟩
      simp (maxSteps := 1000000) -implicitDefEqProofs only [go_sem, Nat.reduceBEq, Nat.reduceLT, Nat.reduceLeDiff, Nat.reduceEqDiff, Nat.reduceAdd, Nat.reduceMul, Nat.reduceSub, reduceIte, reduceCtorEq, Int.reduceLT, Int.reduceLE, Int.reduceToNat, Int.reduceAdd, Int.reduceSub, Int.reduceNeg, Int.reduceEq, Int.reduceNe, Int.reduceBEq, Int.reduceBNe, BitVec.reduceBEq, BitVec.reduceBNe, BitVec.reduceOfInt, BitVec.reduceSetWidth, -List.reduceReplicate, w64, l0, l1, l2, l3, l4, l5, l6, l7, List.length_append, bvs_length, hL]
      refine ⟨by omega, by omega, by omega, by omega, by omega, by omega, by omega, by omega, .inr trivial, UpX_normal h' (8, []) trivial ?_⟩
      exact Le.two (n1 := 3) (n2 := 1) (by decide) ⟨rfl, rfl, rfl, by simp only [renA, bvs_ren]; rfl, trivial⟩ (by rw [hnx]; simp only [renO, renL_vals']; simp only [List.map_nil, List.append_nil]; rfl) (by simp only [renO, renL_vals']; rfl)
  · have hnn : n = N := by omega
    subst hnn
    have f1 : decide (((64 * n : Nat) : Int) < (p.length : Int)) = false := by simp; omega
    have hL := rBl_len p n
    generalize rBl p n = L at *
    simp (maxSteps := 1000000) -implicitDefEqProofs only [go_sem, Nat.reduceBEq, Nat.reduceLT, Nat.reduceLeDiff, Nat.reduceEqDiff, Nat.reduceAdd, Nat.reduceMul, Nat.reduceSub, reduceIte, reduceCtorEq, Int.reduceLT, Int.reduceLE, Int.reduceToNat, Int.reduceAdd, Int.reduceSub, Int.reduceNeg, Int.reduceEq, Int.reduceNe, Int.reduceBEq, Int.reduceBNe, BitVec.reduceBEq, BitVec.reduceBNe, BitVec.reduceOfInt, BitVec.reduceSetWidth, -List.reduceReplicate, f1]
    have e8 : (bvs .u32 L ++ s1.map AV.val).length = 8 + s1.length := by rw [List.length_append, bvs_length, hL, List.length_map]
    generalize hCL : bvs .u32 L ++ s1.map AV.val = CL at *
    refine LoopOk.upX (fun i x => ApL (.cells CL 108) (outR L i) x) 8 (fun i x => ((19, x.1) :: [(20, .int .i64 i), (3, .sl 0 0 8 c1)], x.2.1, x.2.2)) (.nils, [(0, .cells CL 108)], 1) (.inl ⟨rfl, rfl⟩) ?_ ?_
    · refine Le.one (n' := 0) ⟨rfl, rfl, rfl, trivial⟩ ?_
      rw [← hCL]
      simp only [renO, renL_vals']
      rfl
    intro i x ⟨hi, hq⟩
    have hol := outR_len L i
    rcases Nat.lt_or_ge i 8 with g | g
    · have f2 : decide ((i : Int) < 8) = true := by simp; omega
      have wi : IntKind.i64.wrap ((i : Int) + 1) = ((i + 1 : Nat) : Int) := by rw [wrap_i64] <;> omega
      have hg := bvsS_getD .u32 L (s1.map AV.val) i (by omega)
      rw [hCL] at hg
      have hnx : outR L (i + 1) = outR L i ++ b4 (L.getD i 0) := rfl
      rcases hq with ⟨hn, rfl⟩ | ⟨cap, sp, rfl, g1, g2⟩
      · rw [hn, List.nil_append] at hnx
        simp (maxSteps := 1000000) -implicitDefEqProofs only [go_sem, Nat.reduceBEq, Nat.reduceLT, Nat.reduceLeDiff, Nat.reduceEqDiff, Nat.reduceAdd, Nat.reduceMul, Nat.reduceSub, reduceIte, reduceCtorEq, Int.reduceLT, Int.reduceLE, Int.reduceToNat, Int.reduceAdd, Int.reduceSub, Int.reduceNeg, Int.reduceEq, Int.reduceNe, Int.reduceBEq, Int.reduceBNe, BitVec.reduceBEq, BitVec.reduceBNe, BitVec.reduceOfInt, BitVec.reduceSetWidth, -List.reduceReplicate, f2]
        refine ⟨Fx.mixed, .inl ⟨[(0, false), (1, false), (2, false), (3, false), (4, false), (5, false), (6, false), (7, false), (8, false), (9, false), (10, false), (11, false), (12, false), (13, false), (14, false), (15, false), (16, false), (17, false), (18, false), (19, false), (20, false), (21, false), (22, false), (23, false), (24, true), (25, true), (26, false)], [], by kernel_rfl, (fun n hn => by cases hn), ?_⟩⟩
        simp (maxSteps := 1000000) -implicitDefEqProofs only [go_sem, Nat.reduceBEq, Nat.reduceLT, Nat.reduceLeDiff, Nat.reduceEqDiff, Nat.reduceAdd, Nat.reduceMul, Nat.reduceSub, reduceIte, reduceCtorEq, Int.reduceLT, Int.reduceLE, Int.reduceToNat, Int.reduceAdd, Int.reduceSub, Int.reduceNeg, Int.reduceEq, Int.reduceNe, Int.reduceBEq, Int.reduceBNe, BitVec.reduceBEq, BitVec.reduceBNe, BitVec.reduceOfInt, BitVec.reduceSetWidth, -List.reduceReplicate, hg, e8]
        refine ⟨by omega, by omega, by omega, by omega, by omega, by omega, by omega, by omega, .inr trivial, rfl, ?_⟩
        refine appk_nils (y := b4 (L.getD i 0)) (bt := 1) (by decide) (by show 4 * 1 ≤ _; decide) (fun e => by cases e) fun _ cap sp g1 g2 => ?_
        simp (maxSteps := 1000000) -implicitDefEqProofs only [go_sem, Nat.reduceBEq, Nat.reduceLT, Nat.reduceLeDiff, Nat.reduceEqDiff, Nat.reduceAdd, Nat.reduceMul, Nat.reduceSub, reduceIte, reduceCtorEq, Int.reduceLT, Int.reduceLE, Int.reduceToNat, Int.reduceAdd, Int.reduceSub, Int.reduceNeg, Int.reduceEq, Int.reduceNe, Int.reduceBEq, Int.reduceBNe, BitVec.reduceBEq, BitVec.reduceBNe, BitVec.reduceOfInt, BitVec.reduceSetWidth, -List.reduceReplicate, wi]
        refine UpX_normal g (_, _, _) (.inr ⟨cap, sp, rfl, by rw [hnx]; exact g1, g2⟩) ?_
        exact Le.two (n1 := 0) (n2 := 2) (by decide) ⟨by rw [hnx]; rfl, rfl, rfl, trivial⟩ (by rw [← hCL]; simp only [renO, renL_vals']; rfl) (by rw [hnx]; simp only [renO, renL_vals']; rfl)
      · simp (maxSteps := 1000000) -implicitDefEqProofs only [go_sem, Nat.reduceBEq, Nat.reduceLT, Nat.reduceLeDiff, Nat.reduceEqDiff, Nat.reduceAdd, Nat.reduceMul, Nat.reduceSub, reduceIte, reduceCtorEq, Int.reduceLT, Int.reduceLE, Int.reduceToNat, Int.reduceAdd, Int.reduceSub, Int.reduceNeg, Int.reduceEq, Int.reduceNe, Int.reduceBEq, Int.reduceBNe, BitVec.reduceBEq, BitVec.reduceBNe, BitVec.reduceOfInt, BitVec.reduceSetWidth, -List.reduceReplicate, f2]
        refine ⟨Fx.mixed, .inl ⟨[(0, false), (1, false), (2, false), (3, false), (4, false), (5, false), (6, false), (7, false), (8, false), (9, false), (10, false), (11, false), (12, false), (13, false), (14, false), (15, false), (16, false), (17, false), (18, false), (19, false), (20, false), (21, false), (22, false), (23, false), (24, true), (25, true), (26, false)], [1], by kernel_rfl, (fun n hn => by cases List.mem_singleton.1 hn; exact ⟨rfl, rfl⟩), ?_⟩⟩
        simp (maxSteps := 1000000) -implicitDefEqProofs only [go_sem, Nat.reduceBEq, Nat.reduceLT, Nat.reduceLeDiff, Nat.reduceEqDiff, Nat.reduceAdd, Nat.reduceMul, Nat.reduceSub, reduceIte, reduceCtorEq, Int.reduceLT, Int.reduceLE, Int.reduceToNat, Int.reduceAdd, Int.reduceSub, Int.reduceNeg, Int.reduceEq, Int.reduceNe, Int.reduceBEq, Int.reduceBNe, BitVec.reduceBEq, BitVec.reduceBNe, BitVec.reduceOfInt, BitVec.reduceSetWidth, -List.reduceReplicate, hg, e8]
        refine ⟨by omega, by omega, by omega, by omega, by omega, by omega, by omega, by omega, .inr trivial, rfl, ?_⟩
        refine appk_bvs (x := outR L i) (y := b4 (L.getD i 0)) (n := 1) (sp := sp) rfl rfl g1 g2 (bt := 1) (by decide) (by rw [hol]; show (4 * i + 4) * 1 ≤ _; omega) fun cap2 sp2 g3 g4 => ?_
        rw [← hnx]
        rw [← hnx] at g3
        simp (maxSteps := 1000000) -implicitDefEqProofs only [go_sem, Nat.reduceBEq, Nat.reduceLT, Nat.reduceLeDiff, Nat.reduceEqDiff, Nat.reduceAdd, Nat.reduceMul, Nat.reduceSub, reduceIte, reduceCtorEq, Int.reduceLT, Int.reduceLE, Int.reduceToNat, Int.reduceAdd, Int.reduceSub, Int.reduceNeg, Int.reduceEq, Int.reduceNe, Int.reduceBEq, Int.reduceBNe, BitVec.reduceBEq, BitVec.reduceBNe, BitVec.reduceOfInt, BitVec.reduceSetWidth, -List.reduceReplicate, wi]
        refine UpX_normal g (_, _, _) (.inr ⟨cap2, sp2, rfl, g3, g4⟩) ?_
        exact Le.two (n1 := 0) (n2 := 3) (by decide) ⟨rfl, rfl, rfl, trivial⟩ (by rw [← hCL]; simp only [renO, renL_vals']; rfl) (by simp only [renO, renL_vals']; rfl)
    · have hii : i = 8 := by omega
      subst hii
      have f2 : decide ((8 : Int) < 8) = false := rfl
      rcases hq with ⟨hn, rfl⟩ | ⟨cap, sp, rfl, g1, g2⟩
      · rw [hn] at hol; cases hol
      simp (maxSteps := 1000000) -implicitDefEqProofs only [go_sem, Nat.reduceBEq, Nat.reduceLT, Nat.reduceLeDiff, Nat.reduceEqDiff, Nat.reduceAdd, Nat.reduceMul, Nat.reduceSub, reduceIte, reduceCtorEq, Int.reduceLT, Int.reduceLE, Int.reduceToNat, Int.reduceAdd, Int.reduceSub, Int.reduceNeg, Int.reduceEq, Int.reduceNe, Int.reduceBEq, Int.reduceBNe, BitVec.reduceBEq, BitVec.reduceBNe, BitVec.reduceOfInt, BitVec.reduceSetWidth, -List.reduceReplicate, f2]
      exact Fin.by (.row (n := 1) (sp := sp.map AV.val) rfl rfl (by rw [List.length_map]; exact g1) g2 (val_pln _)) (fun e => by cases e) idG (fun _ _ => rfl)
end Go.Proofs.Ytmdeoikpiiambaa
/-! Shl -/
namespace Go.Proofs.Ytmdeoikpiiambaa
open Go Go.Eng
theorem div_shr (x : BitVec 32) (n : Nat) (c : BitVec 32) (h : c.toNat = 2 ^ n) : x / c = x >>> n := by
  apply BitVec.eq_of_toNat_eq
  rw [BitVec.toNat_udiv, BitVec.toNat_ushiftRight, Nat.shiftRight_eq_div_pow, h]
theorem s0_eq (x : BitVec 32) : s0W x = s0R x := by
  rw [s0W, s0R, rotN_eq x 7 (by decide), rotN_eq x 18 (by decide), div_shr x 3 8#32 rfl]
theorem s1_eq (x : BitVec 32) : s1W x = s1R x := by
  rw [s1W, s1R, rotN_eq x 17 (by decide), rotN_eq x 19 (by decide), div_shr x 10 1024#32 rfl]
theorem not_sub (x : BitVec 32) : ~~~ x = 4294967295#32 - x := by
  apply BitVec.eq_of_toNat_eq
  have hx := x.isLt
  have e : (4294967295#32).toNat = 4294967295 := rfl
  rw [BitVec.toNat_not, BitVec.toNat_sub, e]
  omega
theorem t_eq (V : List (BitVec 32)) (q w : BitVec 32) : tW V q w = rT V q w := by
  rw [tW, rT, not_sub, rotN_eq _ 6 (by decide), rotN_eq _ 11 (by decide), rotN_eq _ 25 (by decide)]
theorem u_eq (V : List (BitVec 32)) : uW V = rU V := by
  rw [uW, rU, rotN_eq _ 2 (by decide), rotN_eq _ 13 (by decide), rotN_eq _ 22 (by decide)]
theorem round_eq (V : List (BitVec 32)) (q w : BitVec 32) : roundW V q w = rRound V q w := by
  rw [roundW, rRound, t_eq, u_eq]
theorem rds_eq (w V : List (BitVec 32)) (n : Nat) : rds w V n = rrds w V n := by
  induction n with
  | zero => rfl
  | succ n ih => rw [rds, rrds, ih, round_eq]
theorem add_eq (L V : List (BitVec 32)) (h : L.length = 8) : addN L V 8 = rAdd L V := by
  match L, h with
  | [a, b, c, d, e, f, g, h], _ => rfl
theorem word4 (a b c d : BitVec 8) : (a.setWidth 32 <<< 24) ||| (b.setWidth 32 <<< 16) ||| (c.setWidth 32 <<< 8) ||| d.setWidth 32 = 256#32 * (256#32 * (256#32 * (256#32 * 0#32 + a.setWidth 32) + b.setWidth 32) + c.setWidth 32) + d.setWidth 32 := by
  have ha := a.isLt
  have hb := b.isLt
  have hc := c.isLt
  have hd := d.isLt
  apply BitVec.eq_of_toNat_eq
  have e : (256#32).toNat = 256 := rfl
  have e0 : (0#32).toNat = 0 := rfl
  simp only [BitVec.toNat_or, BitVec.toNat_shiftLeft, BitVec.toNat_add, BitVec.toNat_mul, BitVec.toNat_setWidth, e, e0, Nat.shiftLeft_eq]
  generalize a.toNat = a at *
  generalize b.toNat = b at *
  generalize c.toNat = c at *
  generalize d.toNat = d at *
  have r1 : a % 2 ^ 32 * 2 ^ 24 % 2 ^ 32 = a * 2 ^ 24 := by
    rw [Nat.mod_eq_of_lt (a := a) (Nat.lt_trans ha (by decide)), Nat.mod_eq_of_lt]
    exact Nat.lt_of_lt_of_le (Nat.mul_lt_mul_of_pos_right ha (by decide)) (by decide)
  have r2 : b % 2 ^ 32 * 2 ^ 16 % 2 ^ 32 = b * 2 ^ 16 := by
    rw [Nat.mod_eq_of_lt (a := b) (Nat.lt_trans hb (by decide)), Nat.mod_eq_of_lt]
    exact Nat.lt_of_lt_of_le (Nat.mul_lt_mul_of_pos_right hb (by decide)) (by decide)
  have r3 : c % 2 ^ 32 * 2 ^ 8 % 2 ^ 32 = c * 2 ^ 8 := by
    rw [Nat.mod_eq_of_lt (a := c) (Nat.lt_trans hc (by decide)), Nat.mod_eq_of_lt]
    exact Nat.lt_of_lt_of_le (Nat.mul_lt_mul_of_pos_right hc (by decide)) (by decide)
  have r4 : d % 2 ^ 32 = d := by omega
  have o1 : a * 2 ^ 24 ||| b * 2 ^ 16 = (a * 256 + b) * 2 ^ 16 := by
    rw [or_field a (b * 2 ^ 16) 24 (by omega)]; omega
  have o2 : (a * 256 + b) * 2 ^ 16 ||| c * 2 ^ 8 = ((a * 256 + b) * 256 + c) * 2 ^ 8 := by
    rw [or_field _ (c * 2 ^ 8) 16 (by omega)]; omega
  rw [r1, r2, r3, r4, o1, o2, or_field _ d 8 (by omega)]
  omega
theorem getD_drop' (b : List (BitVec 8)) (m k : Nat) : (b.drop m).getD k 0 = b.getD (m + k) 0 := by
  simp only [List.getD_eq_getElem?_getD, List.getElem?_drop]
theorem getD_take' (b : List (BitVec 8)) (m k : Nat) (h : k < m) : (b.take m).getD k 0 = b.getD k 0 := by
  simp only [List.getD_eq_getElem?_getD, List.getElem?_take, if_pos h]
theorem word_eq (b : List (BitVec 8)) (n : Nat) (h : n < 16) : wordB (b.drop (4 * n)) = rwB (b.take 64) n 4 := by
  rw [wordB, getD_drop', getD_drop', getD_drop', getD_drop', word4]
  rw [rwB, rwB, rwB, rwB, rwB, getD_take' _ _ _ (by omega), getD_take' _ _ _ (by omega), getD_take' _ _ _ (by omega), getD_take' _ _ _ (by omega)]
theorem wl_eq (b : List (BitVec 8)) (n : Nat) : wl b n = rl (b.take 64) n := by
  induction n with
  | zero => rfl
  | succ n ih =>
    rw [wl, rl, ih, wNext, rNext]
    split
    · rename_i h; rw [word_eq b n h]
    · rw [s0_eq, s1_eq]
theorem block_eq (L : List (BitVec 32)) (hL : L.length = 8) (b : List (BitVec 8)) : blockW L b = rBlock L (b.take 64) := by
  rw [blockW, rBlock, add_eq L _ hL, rds_eq, wl_eq]
def rblG (W : List (BitVec 32)) (b : List (BitVec 8)) : Nat → List (BitVec 32)
  | 0 => W
  | n + 1 => rBlock (rblG W b n) ((b.drop (64 * n)).take 64)
theorem rblG_rBl (b : List (BitVec 8)) (n : Nat) : rBl b n = rblG beginL b n := by
  induction n with
  | zero => rfl
  | succ n ih => rw [rBl, rblG, ih]
theorem bl_eq (W : List (BitVec 32)) (hW : W.length = 8) (b : List (BitVec 8)) (n : Nat) : bl W b n = rblG W b n := by
  induction n with
  | zero => rfl
  | succ n ih => rw [bl, rblG, block_eq _ (by rw [bl_len, hW]), ih]
theorem rblG_app1 (W : List (BitVec 32)) (X Y P : List (BitVec 8)) : ∀ n, 64 * n ≤ X.length → rblG W (X ++ Y) n = rblG W (X ++ P) n
  | 0, _ => rfl
  | n + 1, h => by
    rw [rblG, rblG, rblG_app1 W X Y P n (by omega), List.drop_append_of_le_length (by omega), List.drop_append_of_le_length (by omega), List.take_append_of_le_length (by rw [List.length_drop]; omega), List.take_append_of_le_length (by rw [List.length_drop]; omega)]
theorem rblG_app2 (W : List (BitVec 32)) (X P : List (BitVec 8)) (k : Nat) (h : X.length = 64 * k) : ∀ j, rblG (rblG W (X ++ P) k) P j = rblG W (X ++ P) (k + j)
  | 0 => rfl
  | j + 1 => by
    rw [rblG, rblG_app2 W X P k h j, ← Nat.add_assoc, rblG]
    have : (X ++ P).drop (64 * (k + j)) = P.drop (64 * j) := by
      rw [List.drop_append, List.drop_eq_nil_of_le (by omega), List.nil_append]
      congr 1; omega
    rw [this]
theorem pw_toNat : ∀ n : Fin 8, (pw n.val).toNat = 2 ^ (8 * (7 - n.val)) := by decide
theorem by_eq (m : BitVec 64) : ∀ n, n ≤ 8 → ry8 m n = by8 m n
  | 0, _ => rfl
  | n + 1, h => by
    rw [ry8, by8, by_eq m n (by omega)]
    congr 2
    apply BitVec.eq_of_toNat_eq
    have hp := pw_toNat ⟨n, by omega⟩
    simp only at hp
    have e : (256#64).toNat = 256 := rfl
    rw [BitVec.toNat_setWidth, BitVec.toNat_setWidth, BitVec.toNat_umod, BitVec.toNat_udiv, BitVec.toNat_ushiftRight, Nat.shiftRight_eq_div_pow, hp, e]
    omega
theorem pad_eq (b : List (BitVec 8)) : padR b = b.take (64 * (b.length / 64)) ++ padL (b.drop (64 * (b.length / 64))) ((0 + BitVec.ofNat 64 b.length) * 8#64) := by
  have hz : zN (b.drop (64 * (b.length / 64))).length = zN b.length := by
    rw [zN, zN, List.length_drop]; omega
  have hm : (0 + BitVec.ofNat 64 b.length) * 8#64 = 8#64 * BitVec.ofNat 64 b.length := by
    show (0#64 + BitVec.ofNat 64 b.length) * 8#64 = _
    rw [BitVec.zero_add, BitVec.mul_comm]
  rw [padR, rpE, padL, padE, hz, hm, by_eq _ 8 (Nat.le_refl _), padZ, padZ]
  simp only [← List.append_assoc, List.take_append_drop]
theorem outN_all (W : List (BitVec 32)) : outN W 32 = [outB W 0, outB W 1, outB W 2, outB W 3, outB W 4, outB W 5, outB W 6, outB W 7, outB W 8, outB W 9, outB W 10, outB W 11, outB W 12, outB W 13, outB W 14, outB W 15, outB W 16, outB W 17, outB W 18, outB W 19, outB W 20, outB W 21, outB W 22, outB W 23, outB W 24, outB W 25, outB W 26, outB W 27, outB W 28, outB W 29, outB W 30, outB W 31] := by
  simp only [outN, List.replicate_succ, List.replicate_zero, List.set_cons_zero, List.set_cons_succ]
theorem b4_eq (x : BitVec 32) : b4 x = [(x >>> 24).setWidth 8, (x >>> 16).setWidth 8, (x >>> 8).setWidth 8, (x >>> 0).setWidth 8] := by
  rw [b4, div_shr x 24 16777216#32 rfl, div_shr x 16 65536#32 rfl, div_shr x 8 256#32 rfl, BitVec.ushiftRight_zero]
theorem out_eq (W : List (BitVec 32)) : outN W 32 = outR W 8 := by
  simp only [outN_all, outR, b4_eq, outB, Nat.reduceDiv, Nat.reduceMod, Nat.reduceMul, Nat.reduceSub, List.nil_append, List.cons_append]
theorem sha_eq (b : List (BitVec 8)) : shaP b = shaR b := by
  rw [shaP, shaR, out_eq, sumW]
  congr 1
  have hk : (b.take (64 * (b.length / 64))).length = 64 * (b.length / 64) := by rw [List.length_take]; omega
  have hpl := padL_mod (b.drop (64 * (b.length / 64))) ((0 + BitVec.ofNat 64 b.length) * 8#64)
  rw [bl_eq beginL rfl, pad_eq b]
  generalize padL (b.drop (64 * (b.length / 64))) ((0 + BitVec.ofNat 64 b.length) * 8#64) = P at *
  have h1 : rblG beginL b (b.length / 64) = rblG beginL (b.take (64 * (b.length / 64)) ++ P) (b.length / 64) := by
    have := rblG_app1 beginL (b.take (64 * (b.length / 64))) (b.drop (64 * (b.length / 64))) P (b.length / 64) (by omega)
    rwa [List.take_append_drop] at this
  rw [h1, rblG_rBl]
  have h2 : (b.take (64 * (b.length / 64)) ++ P).length / 64 = b.length / 64 + P.length / 64 := by rw [List.length_append, hk]; omega
  rw [h2, ← rblG_app2 beginL _ P _ hk]
  refine bl_eq _ ?_ _ _
  cases hc : b.length / 64 with
  | zero => rfl
  | succ n => rfl
end Go.Proofs.Ytmdeoikpiiambaa
end
section
/- A stream's ends: a number's bytes; what checks are. -/
set_option linter.unusedVariables false
set_option linter.unusedSimpArgs false
set_option maxRecDepth 100000
namespace Go.Proofs.Ytmdeoikpiiambaa
open Go Go.Eng

/-- a number's bytes, the lowest first -/
def lowS (n : BitVec 64) : Nat → List (BitVec 8)
  | 0 => []
  | k + 1 => lowS n k ++ [(n >>> (8 * k)).setWidth 8]
theorem lowS_len (n : BitVec 64) : ∀ k, (lowS n k).length = k
  | 0 => rfl
  | k + 1 => by rw [lowS, List.length_append, lowS_len n k]; rfl
theorem lowOk (n : BitVec 64) (k : Nat) (hk : k ≤ 8) : CallG false Try.prog 74 [.int .u64 (n.toNat : Int), .int .i64 k] (fun _ => true) [] 0 (ByK 5 idG (lowS n k) [] 0) := by
  refine fn_okG Try.func74 rfl (by show 2 ≤ _; decide) ?_
  simp (maxSteps := 1000000) -implicitDefEqProofs only [go_sem, Nat.reduceBEq, Nat.reduceLT, Nat.reduceLeDiff, Nat.reduceEqDiff, Nat.reduceAdd, Nat.reduceMul, Nat.reduceSub, reduceIte, reduceCtorEq, Int.reduceLT, Int.reduceLE, Int.reduceToNat, Int.reduceAdd, Int.reduceSub, Int.reduceNeg, Int.reduceEq, Int.reduceNe, Int.reduceBEq, Int.reduceBNe, BitVec.reduceBEq, BitVec.reduceBNe, BitVec.reduceOfInt, BitVec.reduceSetWidth, -List.reduceReplicate, Try.results74, Try.ntmps74]
  refine LoopOk.upX (fun i (x : AV × List Nat × Mem × Nat) => ByAt 5 x.2.2.1 x.1 (lowS n i) x.2.1 ∧ x.1 ≠ .ro (lowS n i).length (bvs .u8 (lowS n i)) ∧ Gr [] 0 x.2.2.1 x.2.2.2) k (fun i x => ([(7, .int .i64 (i : Nat)), (6, .int .i64 (k : Nat)), (5, x.1), (0, .int .u64 ((n >>> (8 * i)).toNat : Int))], x.2.2.1, x.2.2.2)) (.nils, [], [], 0) ⟨.nil _, (fun e => by cases e), .refl List.nodup_nil (fun p hp => by cases hp)⟩ ?_ ?_
  · exact Le.sameT (Nat.zero_le _) ⟨rfl, rfl, rfl, rfl, trivial⟩ (memSame_slf List.nodup_nil) List.nodup_nil
  rintro i ⟨s, ns, m, nx⟩ ⟨hi, b1, b2, g⟩
  have b1 : ByAt 5 m s (lowS n i) ns := b1
  have b2 : s ≠ .ro (lowS n i).length (bvs .u8 (lowS n i)) := b2
  have g : Gr [] 0 m nx := g
  rcases Nat.lt_or_ge i k with h | h
  · have g1 : decide ((i : Int) < (k : Int)) = true := decide_eq_true (by omega)
    have w1 : IntKind.i64.wrap ((i : Int) + 1) = ((i + 1 : Nat) : Int) := by rw [wrap_i64] <;> omega
    simp (maxSteps := 1000000) -implicitDefEqProofs only [go_sem, Nat.reduceBEq, Nat.reduceLT, Nat.reduceLeDiff, Nat.reduceEqDiff, Nat.reduceAdd, Nat.reduceMul, Nat.reduceSub, reduceIte, reduceCtorEq, Int.reduceLT, Int.reduceLE, Int.reduceToNat, Int.reduceAdd, Int.reduceSub, Int.reduceNeg, Int.reduceEq, Int.reduceNe, Int.reduceBEq, Int.reduceBNe, BitVec.reduceBEq, BitVec.reduceBNe, BitVec.reduceOfInt, BitVec.reduceSetWidth, -List.reduceReplicate, g1, w1]
    have gc := Gr.cons g.nd g.lt (.cells (bvs .u8 ((List.replicate 1 0).set 0 (BitVec.setWidth 8 (n >>> (8 * i))))) 5)
    refine ⟨.inr trivial, rfl, ?_⟩
    refine appk_by (Y := [(n >>> (8 * i)).setWidth 8]) (b1.grow gc) b2 gc.nd (fun _ _ => rfl) gc.lt (fun _ _ => rfl) (by rw [lowS_len]; show i + 1 ≤ _; omega) ?_
    intro v' m' nx' ns' c1 c2 c3 c4 c5 c6 c7 c8
    have hs : n >>> (8 * i) >>> 8 = n >>> (8 * (i + 1)) := by rw [← BitVec.shiftRight_add]; rfl
    simp (maxSteps := 1000000) -implicitDefEqProofs only [go_sem, Nat.reduceBEq, Nat.reduceLT, Nat.reduceLeDiff, Nat.reduceEqDiff, Nat.reduceAdd, Nat.reduceMul, Nat.reduceSub, reduceIte, reduceCtorEq, Int.reduceLT, Int.reduceLE, Int.reduceToNat, Int.reduceAdd, Int.reduceSub, Int.reduceNeg, Int.reduceEq, Int.reduceNe, Int.reduceBEq, Int.reduceBNe, BitVec.reduceBEq, BitVec.reduceBNe, BitVec.reduceOfInt, BitVec.reduceSetWidth, -List.reduceReplicate, w1, hs]
    exact UpX_normal h (v', ns', m', nx') ⟨c1, c2, ⟨Nat.zero_le _, c5, c6, fun k X e => by cases e⟩⟩ (Le.sameT (Nat.zero_le _) ⟨rfl, rfl, rfl, rfl, trivial⟩ (memSame_slf c5) c5)
  · have hik : i = k := by omega
    subst hik
    have g1 : decide ((i : Int) < (i : Int)) = false := decide_eq_false (by omega)
    simp (maxSteps := 1000000) -implicitDefEqProofs only [go_sem, Nat.reduceBEq, Nat.reduceLT, Nat.reduceLeDiff, Nat.reduceEqDiff, Nat.reduceAdd, Nat.reduceMul, Nat.reduceSub, reduceIte, reduceCtorEq, Int.reduceLT, Int.reduceLE, Int.reduceToNat, Int.reduceAdd, Int.reduceSub, Int.reduceNeg, Int.reduceEq, Int.reduceNe, Int.reduceBEq, Int.reduceBNe, BitVec.reduceBEq, BitVec.reduceBNe, BitVec.reduceOfInt, BitVec.reduceSetWidth, -List.reduceReplicate, g1]
    exact Fin.by b1 b2 idG (fun _ _ => rfl)
/-- is it a check? -/
def isC (c : Int) : Bool := c == 0 || c == 1 || c == 4 || c == 10
/-- a check's bytes -/
def chk (c : Int) (b : List (BitVec 8)) : List (BitVec 8) := if c = 1 then lowS ((on32 0 b).setWidth 64) 4 else if c = 4 then lowS (on64 0 b) 8 else if c = 10 then shaP b else []
/-- what its row's type is -/
def chT (c : Int) : TypeId := if c = 10 then 199 else 5
def fnC (g : FuncId) : AV := .fn (.func g) [] []
def sumL : List AV := [fnC 128, fnC 129, fnC 131, fnC 133]
theorem mxTf : mxT Try.prog 118 = none := by kernel_rfl
theorem sumsOk : CallG false Try.prog 76 [] (fun _ => true) [] 0 fun v m nx => v = .map 0 ∧ m = [(0, .mp .i64 [0, 1, 4, 10] sumL)] ∧ nx = 1 := by
  refine fn_okG Try.func76 rfl (Nat.zero_le _) ?_
  simp (maxSteps := 1000000) -implicitDefEqProofs only [go_sem, Nat.reduceBEq, Nat.reduceLT, Nat.reduceLeDiff, Nat.reduceEqDiff, Nat.reduceAdd, Nat.reduceMul, Nat.reduceSub, reduceIte, reduceCtorEq, Int.reduceLT, Int.reduceLE, Int.reduceToNat, Int.reduceAdd, Int.reduceSub, Int.reduceNeg, Int.reduceEq, Int.reduceNe, Int.reduceBEq, Int.reduceBNe, BitVec.reduceBEq, BitVec.reduceBNe, BitVec.reduceOfInt, BitVec.reduceSetWidth, -List.reduceReplicate, Try.results76, Try.ntmps76, mxTf]
  exact Fin.keep (Nat.zero_le _) (memSame_slf (by simp)) (by simp) ⟨rfl, rfl, rfl⟩
theorem nilOk (b : List (BitVec 8)) : CallG false Try.prog 128 [.ro b.length (bvs .u8 b)] (fun _ => true) [] 0 (ByK 5 idG [] [] 0) := by
  refine fn_okG Try.func128 rfl (by show 1 ≤ _; decide) ?_
  simp (maxSteps := 1000000) -implicitDefEqProofs only [go_sem, Nat.reduceBEq, Nat.reduceLT, Nat.reduceLeDiff, Nat.reduceEqDiff, Nat.reduceAdd, Nat.reduceMul, Nat.reduceSub, reduceIte, reduceCtorEq, Int.reduceLT, Int.reduceLE, Int.reduceToNat, Int.reduceAdd, Int.reduceSub, Int.reduceNeg, Int.reduceEq, Int.reduceNe, Int.reduceBEq, Int.reduceBNe, BitVec.reduceBEq, BitVec.reduceBNe, BitVec.reduceOfInt, BitVec.reduceSetWidth, -List.reduceReplicate, Try.results128, Try.ntmps128]
  exact Fin.by (.nil _) (fun e => by cases e) idG (fun _ _ => rfl)
theorem crcOk (b : List (BitVec 8)) (hb : b.length ≤ 100000) : CallG false Try.prog 129 [.ro b.length (bvs .u8 b)] (fun _ => true) [] 0 (ByK 5 idG (lowS ((on32 0 b).setWidth 64) 4) [] 0) := by
  refine fn_okG Try.func129 rfl (by show 1 ≤ _; decide) ?_
  simp (maxSteps := 1000000) -implicitDefEqProofs only [go_sem, Nat.reduceBEq, Nat.reduceLT, Nat.reduceLeDiff, Nat.reduceEqDiff, Nat.reduceAdd, Nat.reduceMul, Nat.reduceSub, reduceIte, reduceCtorEq, Int.reduceLT, Int.reduceLE, Int.reduceToNat, Int.reduceAdd, Int.reduceSub, Int.reduceNeg, Int.reduceEq, Int.reduceNe, Int.reduceBEq, Int.reduceBNe, BitVec.reduceBEq, BitVec.reduceBNe, BitVec.reduceOfInt, BitVec.reduceSetWidth, -List.reduceReplicate, Try.results129, Try.ntmps129]
  refine (sumOk32 b (by omega)).flatv (by simp only [argsx, argx_int, argx_bool, argx_fn, argx_ro, argx_nils, eq_self, true_and, and_true, and_self]; try trivial) (fun _ => rfl) rfl ?_
  simp (maxSteps := 1000000) -implicitDefEqProofs only [go_sem, Nat.reduceBEq, Nat.reduceLT, Nat.reduceLeDiff, Nat.reduceEqDiff, Nat.reduceAdd, Nat.reduceMul, Nat.reduceSub, reduceIte, reduceCtorEq, Int.reduceLT, Int.reduceLE, Int.reduceToNat, Int.reduceAdd, Int.reduceSub, Int.reduceNeg, Int.reduceEq, Int.reduceNe, Int.reduceBEq, Int.reduceBNe, BitVec.reduceBEq, BitVec.reduceBNe, BitVec.reduceOfInt, BitVec.reduceSetWidth, -List.reduceReplicate]
  refine (CallG.by1 (lowOk ((on32 0 b).setWidth 64) 4 (by decide)) rfl nd0 lt0 (by simp only [argsx, argx_int, argx_bool, argx_fn, argx_ro, argx_nils, eq_self, true_and, and_true, and_self]; try trivial)).weak ?_
  rintro v m nx ⟨ns, b1, b2, b3, g⟩
  simp (maxSteps := 1000000) -implicitDefEqProofs only [go_sem, Nat.reduceBEq, Nat.reduceLT, Nat.reduceLeDiff, Nat.reduceEqDiff, Nat.reduceAdd, Nat.reduceMul, Nat.reduceSub, reduceIte, reduceCtorEq, Int.reduceLT, Int.reduceLE, Int.reduceToNat, Int.reduceAdd, Int.reduceSub, Int.reduceNeg, Int.reduceEq, Int.reduceNe, Int.reduceBEq, Int.reduceBNe, BitVec.reduceBEq, BitVec.reduceBNe, BitVec.reduceOfInt, BitVec.reduceSetWidth, -List.reduceReplicate]
  exact Fin.by b1 b2 idG (fun _ _ => rfl)
theorem crc64Ok (b : List (BitVec 8)) (hb : b.length ≤ 100000) : CallG false Try.prog 131 [.ro b.length (bvs .u8 b)] (fun _ => true) [] 0 (ByK 5 idG (lowS (on64 0 b) 8) [] 0) := by
  refine fn_okG Try.func131 rfl (by show 1 ≤ _; decide) ?_
  simp (maxSteps := 1000000) -implicitDefEqProofs only [go_sem, Nat.reduceBEq, Nat.reduceLT, Nat.reduceLeDiff, Nat.reduceEqDiff, Nat.reduceAdd, Nat.reduceMul, Nat.reduceSub, reduceIte, reduceCtorEq, Int.reduceLT, Int.reduceLE, Int.reduceToNat, Int.reduceAdd, Int.reduceSub, Int.reduceNeg, Int.reduceEq, Int.reduceNe, Int.reduceBEq, Int.reduceBNe, BitVec.reduceBEq, BitVec.reduceBNe, BitVec.reduceOfInt, BitVec.reduceSetWidth, -List.reduceReplicate, Try.results131, Try.ntmps131]
  refine (sumOk64 b (by omega)).flatv (by simp only [argsx, argx_int, argx_bool, argx_fn, argx_ro, argx_nils, eq_self, true_and, and_true, and_self]; try trivial) (fun _ => rfl) rfl ?_
  simp (maxSteps := 1000000) -implicitDefEqProofs only [go_sem, Nat.reduceBEq, Nat.reduceLT, Nat.reduceLeDiff, Nat.reduceEqDiff, Nat.reduceAdd, Nat.reduceMul, Nat.reduceSub, reduceIte, reduceCtorEq, Int.reduceLT, Int.reduceLE, Int.reduceToNat, Int.reduceAdd, Int.reduceSub, Int.reduceNeg, Int.reduceEq, Int.reduceNe, Int.reduceBEq, Int.reduceBNe, BitVec.reduceBEq, BitVec.reduceBNe, BitVec.reduceOfInt, BitVec.reduceSetWidth, -List.reduceReplicate]
  refine (CallG.by1 (lowOk (on64 0 b) 8 (by decide)) rfl nd0 lt0 (by simp only [argsx, argx_int, argx_bool, argx_fn, argx_ro, argx_nils, eq_self, true_and, and_true, and_self]; try trivial)).weak ?_
  rintro v m nx ⟨ns, b1, b2, b3, g⟩
  simp (maxSteps := 1000000) -implicitDefEqProofs only [go_sem, Nat.reduceBEq, Nat.reduceLT, Nat.reduceLeDiff, Nat.reduceEqDiff, Nat.reduceAdd, Nat.reduceMul, Nat.reduceSub, reduceIte, reduceCtorEq, Int.reduceLT, Int.reduceLE, Int.reduceToNat, Int.reduceAdd, Int.reduceSub, Int.reduceNeg, Int.reduceEq, Int.reduceNe, Int.reduceBEq, Int.reduceBNe, BitVec.reduceBEq, BitVec.reduceBNe, BitVec.reduceOfInt, BitVec.reduceSetWidth, -List.reduceReplicate]
  exact Fin.by b1 b2 idG (fun _ _ => rfl)
theorem shaOk (b : List (BitVec 8)) (hb : b.length ≤ 100000) : CallG false Try.prog 133 [.ro b.length (bvs .u8 b)] (fun _ => true) [] 0 (ByK 199 idG (shaP b) [] 0) := by
  refine fn_okG Try.func133 rfl (by show 1 ≤ _; decide) ?_
  simp (maxSteps := 1000000) -implicitDefEqProofs only [go_sem, Nat.reduceBEq, Nat.reduceLT, Nat.reduceLeDiff, Nat.reduceEqDiff, Nat.reduceAdd, Nat.reduceMul, Nat.reduceSub, reduceIte, reduceCtorEq, Int.reduceLT, Int.reduceLE, Int.reduceToNat, Int.reduceAdd, Int.reduceSub, Int.reduceNeg, Int.reduceEq, Int.reduceNe, Int.reduceBEq, Int.reduceBNe, BitVec.reduceBEq, BitVec.reduceBNe, BitVec.reduceOfInt, BitVec.reduceSetWidth, -List.reduceReplicate, Try.results133, Try.ntmps133]
  refine (shaSumOk b hb).flatv (by simp only [argsx, argx_int, argx_bool, argx_fn, argx_ro, argx_nils, eq_self, true_and, and_true, and_self]; try trivial) (fun f => by simp only [renA, bvs_ren]) (by simp only [noRo, bvs_noRo]) ?_
  have hl := shaP_len b
  simp (maxSteps := 1000000) -implicitDefEqProofs only [go_sem, Nat.reduceBEq, Nat.reduceLT, Nat.reduceLeDiff, Nat.reduceEqDiff, Nat.reduceAdd, Nat.reduceMul, Nat.reduceSub, reduceIte, reduceCtorEq, Int.reduceLT, Int.reduceLE, Int.reduceToNat, Int.reduceAdd, Int.reduceSub, Int.reduceNeg, Int.reduceEq, Int.reduceNe, Int.reduceBEq, Int.reduceBNe, BitVec.reduceBEq, BitVec.reduceBNe, BitVec.reduceOfInt, BitVec.reduceSetWidth, -List.reduceReplicate, hl]
  exact Fin.by (.row (n := 0) (sp := []) hl.symm (by rw [List.append_nil, look_cons, if_pos rfl]) (by rw [List.length_nil, Nat.add_zero]; exact hl) (by decide) rfl) (fun e => by cases e) idG (fun _ _ => rfl)
/-- a check's bytes, by its number -/
theorem sumOk (c : Int) (b : List (BitVec 8)) (hb : b.length ≤ 100000) : CallG false Try.prog 21 [.int .i64 c, .ro b.length (bvs .u8 b)] (fun _ => true) [] 0 (ByK (chT c) idG (chk c b) [] 0) := by
  refine fn_okG Try.func21 rfl (by show 2 ≤ _; decide) ?_
  simp (maxSteps := 1000000) -implicitDefEqProofs only [go_sem, Nat.reduceBEq, Nat.reduceLT, Nat.reduceLeDiff, Nat.reduceEqDiff, Nat.reduceAdd, Nat.reduceMul, Nat.reduceSub, reduceIte, reduceCtorEq, Int.reduceLT, Int.reduceLE, Int.reduceToNat, Int.reduceAdd, Int.reduceSub, Int.reduceNeg, Int.reduceEq, Int.reduceNe, Int.reduceBEq, Int.reduceBNe, BitVec.reduceBEq, BitVec.reduceBNe, BitVec.reduceOfInt, BitVec.reduceSetWidth, -List.reduceReplicate, Try.results21, Try.ntmps21]
  refine sumsOk.newE rfl ?_
  rintro v m nx ⟨rfl, rfl, rfl⟩
  have hmem : renM (fun n => n + 0) [(0, AObj.mp .i64 [0, 1, 4, 10] sumL)] ++ [] = [(0, AObj.mp .i64 [0, 1, 4, 10] sumL)] := rfl
  have hmp : renA (fun n => n + 0) (AV.map 0) = .map 0 := rfl
  rw [hmem, hmp]
  by_cases h0 : c = 0
  · subst h0
    simp (maxSteps := 1000000) -implicitDefEqProofs only [go_sem, Nat.reduceBEq, Nat.reduceLT, Nat.reduceLeDiff, Nat.reduceEqDiff, Nat.reduceAdd, Nat.reduceMul, Nat.reduceSub, reduceIte, reduceCtorEq, Int.reduceLT, Int.reduceLE, Int.reduceToNat, Int.reduceAdd, Int.reduceSub, Int.reduceNeg, Int.reduceEq, Int.reduceNe, Int.reduceBEq, Int.reduceBNe, BitVec.reduceBEq, BitVec.reduceBNe, BitVec.reduceOfInt, BitVec.reduceSetWidth, -List.reduceReplicate, sumL, fnC]
    refine (CallG.by1 (nilOk b) rfl (by simp) (fun p hp => by cases List.mem_singleton.1 hp; exact Nat.zero_lt_one) (by simp only [argsx, argx_int, argx_bool, argx_fn, argx_ro, argx_nils, eq_self, true_and, and_true, and_self]; try trivial)).weak ?_
    rintro v m nx ⟨ns, b1, b2, b3, g⟩
    simp (maxSteps := 1000000) -implicitDefEqProofs only [go_sem, Nat.reduceBEq, Nat.reduceLT, Nat.reduceLeDiff, Nat.reduceEqDiff, Nat.reduceAdd, Nat.reduceMul, Nat.reduceSub, reduceIte, reduceCtorEq, Int.reduceLT, Int.reduceLE, Int.reduceToNat, Int.reduceAdd, Int.reduceSub, Int.reduceNeg, Int.reduceEq, Int.reduceNe, Int.reduceBEq, Int.reduceBNe, BitVec.reduceBEq, BitVec.reduceBNe, BitVec.reduceOfInt, BitVec.reduceSetWidth, -List.reduceReplicate]
    exact Fin.by b1 b2 idG (fun _ _ => rfl)
  by_cases h1 : c = 1
  · subst h1
    simp (maxSteps := 1000000) -implicitDefEqProofs only [go_sem, Nat.reduceBEq, Nat.reduceLT, Nat.reduceLeDiff, Nat.reduceEqDiff, Nat.reduceAdd, Nat.reduceMul, Nat.reduceSub, reduceIte, reduceCtorEq, Int.reduceLT, Int.reduceLE, Int.reduceToNat, Int.reduceAdd, Int.reduceSub, Int.reduceNeg, Int.reduceEq, Int.reduceNe, Int.reduceBEq, Int.reduceBNe, BitVec.reduceBEq, BitVec.reduceBNe, BitVec.reduceOfInt, BitVec.reduceSetWidth, -List.reduceReplicate, sumL, fnC]
    refine (CallG.by1 (crcOk b hb) rfl (by simp) (fun p hp => by cases List.mem_singleton.1 hp; exact Nat.zero_lt_one) (by simp only [argsx, argx_int, argx_bool, argx_fn, argx_ro, argx_nils, eq_self, true_and, and_true, and_self]; try trivial)).weak ?_
    rintro v m nx ⟨ns, b1, b2, b3, g⟩
    simp (maxSteps := 1000000) -implicitDefEqProofs only [go_sem, Nat.reduceBEq, Nat.reduceLT, Nat.reduceLeDiff, Nat.reduceEqDiff, Nat.reduceAdd, Nat.reduceMul, Nat.reduceSub, reduceIte, reduceCtorEq, Int.reduceLT, Int.reduceLE, Int.reduceToNat, Int.reduceAdd, Int.reduceSub, Int.reduceNeg, Int.reduceEq, Int.reduceNe, Int.reduceBEq, Int.reduceBNe, BitVec.reduceBEq, BitVec.reduceBNe, BitVec.reduceOfInt, BitVec.reduceSetWidth, -List.reduceReplicate]
    exact Fin.by b1 b2 idG (fun _ _ => rfl)
  by_cases h4 : c = 4
  · subst h4
    simp (maxSteps := 1000000) -implicitDefEqProofs only [go_sem, Nat.reduceBEq, Nat.reduceLT, Nat.reduceLeDiff, Nat.reduceEqDiff, Nat.reduceAdd, Nat.reduceMul, Nat.reduceSub, reduceIte, reduceCtorEq, Int.reduceLT, Int.reduceLE, Int.reduceToNat, Int.reduceAdd, Int.reduceSub, Int.reduceNeg, Int.reduceEq, Int.reduceNe, Int.reduceBEq, Int.reduceBNe, BitVec.reduceBEq, BitVec.reduceBNe, BitVec.reduceOfInt, BitVec.reduceSetWidth, -List.reduceReplicate, sumL, fnC]
    refine (CallG.by1 (crc64Ok b hb) rfl (by simp) (fun p hp => by cases List.mem_singleton.1 hp; exact Nat.zero_lt_one) (by simp only [argsx, argx_int, argx_bool, argx_fn, argx_ro, argx_nils, eq_self, true_and, and_true, and_self]; try trivial)).weak ?_
    rintro v m nx ⟨ns, b1, b2, b3, g⟩
    simp (maxSteps := 1000000) -implicitDefEqProofs only [go_sem, Nat.reduceBEq, Nat.reduceLT, Nat.reduceLeDiff, Nat.reduceEqDiff, Nat.reduceAdd, Nat.reduceMul, Nat.reduceSub, reduceIte, reduceCtorEq, Int.reduceLT, Int.reduceLE, Int.reduceToNat, Int.reduceAdd, Int.reduceSub, Int.reduceNeg, Int.reduceEq, Int.reduceNe, Int.reduceBEq, Int.reduceBNe, BitVec.reduceBEq, BitVec.reduceBNe, BitVec.reduceOfInt, BitVec.reduceSetWidth, -List.reduceReplicate]
    exact Fin.by b1 b2 idG (fun _ _ => rfl)
  by_cases h10 : c = 10
  · subst h10
    simp (maxSteps := 1000000) -implicitDefEqProofs only [go_sem, Nat.reduceBEq, Nat.reduceLT, Nat.reduceLeDiff, Nat.reduceEqDiff, Nat.reduceAdd, Nat.reduceMul, Nat.reduceSub, reduceIte, reduceCtorEq, Int.reduceLT, Int.reduceLE, Int.reduceToNat, Int.reduceAdd, Int.reduceSub, Int.reduceNeg, Int.reduceEq, Int.reduceNe, Int.reduceBEq, Int.reduceBNe, BitVec.reduceBEq, BitVec.reduceBNe, BitVec.reduceOfInt, BitVec.reduceSetWidth, -List.reduceReplicate, sumL, fnC]
    refine (CallG.by1 (shaOk b hb) rfl (by simp) (fun p hp => by cases List.mem_singleton.1 hp; exact Nat.zero_lt_one) (by simp only [argsx, argx_int, argx_bool, argx_fn, argx_ro, argx_nils, eq_self, true_and, and_true, and_self]; try trivial)).weak ?_
    rintro v m nx ⟨ns, b1, b2, b3, g⟩
    simp (maxSteps := 1000000) -implicitDefEqProofs only [go_sem, Nat.reduceBEq, Nat.reduceLT, Nat.reduceLeDiff, Nat.reduceEqDiff, Nat.reduceAdd, Nat.reduceMul, Nat.reduceSub, reduceIte, reduceCtorEq, Int.reduceLT, Int.reduceLE, Int.reduceToNat, Int.reduceAdd, Int.reduceSub, Int.reduceNeg, Int.reduceEq, Int.reduceNe, Int.reduceBEq, Int.reduceBNe, BitVec.reduceBEq, BitVec.reduceBNe, BitVec.reduceOfInt, BitVec.reduceSetWidth, -List.reduceReplicate]
    exact Fin.by b1 b2 idG (fun _ _ => rfl)
  have f0 : ((0 : Int) = c) = False := eq_false (fun e => h0 e.symm)
  have f1 : ((1 : Int) = c) = False := eq_false (fun e => h1 e.symm)
  have f4 : ((4 : Int) = c) = False := eq_false (fun e => h4 e.symm)
  have f10 : ((10 : Int) = c) = False := eq_false (fun e => h10 e.symm)
  simp (maxSteps := 1000000) -implicitDefEqProofs only [go_sem, Nat.reduceBEq, Nat.reduceLT, Nat.reduceLeDiff, Nat.reduceEqDiff, Nat.reduceAdd, Nat.reduceMul, Nat.reduceSub, reduceIte, reduceCtorEq, Int.reduceLT, Int.reduceLE, Int.reduceToNat, Int.reduceAdd, Int.reduceSub, Int.reduceNeg, Int.reduceEq, Int.reduceNe, Int.reduceBEq, Int.reduceBNe, BitVec.reduceBEq, BitVec.reduceBNe, BitVec.reduceOfInt, BitVec.reduceSetWidth, -List.reduceReplicate, sumL, fnC, f0, f1, f4, f10]
  have e : chk c b = [] := by rw [chk, if_neg h1, if_neg h4, if_neg h10]
  rw [e]
  exact Fin.by (.nil _) (fun e => by cases e) idG (fun _ _ => rfl)
theorem fineOk (c : Int) : CallG false Try.prog 19 [.int .i64 c] (fun _ => true) [] 0 fun v m nx => v = .bool (isC c) ∧ m = [] ∧ nx = 0 := by
  refine fn_okG Try.func19 rfl (by show 1 ≤ _; decide) ?_
  simp (maxSteps := 1000000) -implicitDefEqProofs only [go_sem, Nat.reduceBEq, Nat.reduceLT, Nat.reduceLeDiff, Nat.reduceEqDiff, Nat.reduceAdd, Nat.reduceMul, Nat.reduceSub, reduceIte, reduceCtorEq, Int.reduceLT, Int.reduceLE, Int.reduceToNat, Int.reduceAdd, Int.reduceSub, Int.reduceNeg, Int.reduceEq, Int.reduceNe, Int.reduceBEq, Int.reduceBNe, BitVec.reduceBEq, BitVec.reduceBNe, BitVec.reduceOfInt, BitVec.reduceSetWidth, -List.reduceReplicate, Try.results19, Try.ntmps19]
  refine sumsOk.newE rfl ?_
  rintro v m nx ⟨rfl, rfl, rfl⟩
  have hmem : renM (fun n => n + 0) [(0, AObj.mp .i64 [0, 1, 4, 10] sumL)] ++ [] = [(0, AObj.mp .i64 [0, 1, 4, 10] sumL)] := rfl
  have hmp : renA (fun n => n + 0) (AV.map 0) = .map 0 := rfl
  rw [hmem, hmp]
  by_cases h0 : c = 0
  · subst h0
    simp (maxSteps := 1000000) -implicitDefEqProofs only [go_sem, Nat.reduceBEq, Nat.reduceLT, Nat.reduceLeDiff, Nat.reduceEqDiff, Nat.reduceAdd, Nat.reduceMul, Nat.reduceSub, reduceIte, reduceCtorEq, Int.reduceLT, Int.reduceLE, Int.reduceToNat, Int.reduceAdd, Int.reduceSub, Int.reduceNeg, Int.reduceEq, Int.reduceNe, Int.reduceBEq, Int.reduceBNe, BitVec.reduceBEq, BitVec.reduceBNe, BitVec.reduceOfInt, BitVec.reduceSetWidth, -List.reduceReplicate, sumL, fnC]
    exact Fin.flatv (fun _ => rfl) (fun _ => rfl) ⟨rfl, rfl, rfl⟩
  by_cases h1 : c = 1
  · subst h1
    simp (maxSteps := 1000000) -implicitDefEqProofs only [go_sem, Nat.reduceBEq, Nat.reduceLT, Nat.reduceLeDiff, Nat.reduceEqDiff, Nat.reduceAdd, Nat.reduceMul, Nat.reduceSub, reduceIte, reduceCtorEq, Int.reduceLT, Int.reduceLE, Int.reduceToNat, Int.reduceAdd, Int.reduceSub, Int.reduceNeg, Int.reduceEq, Int.reduceNe, Int.reduceBEq, Int.reduceBNe, BitVec.reduceBEq, BitVec.reduceBNe, BitVec.reduceOfInt, BitVec.reduceSetWidth, -List.reduceReplicate, sumL, fnC]
    exact Fin.flatv (fun _ => rfl) (fun _ => rfl) ⟨rfl, rfl, rfl⟩
  by_cases h4 : c = 4
  · subst h4
    simp (maxSteps := 1000000) -implicitDefEqProofs only [go_sem, Nat.reduceBEq, Nat.reduceLT, Nat.reduceLeDiff, Nat.reduceEqDiff, Nat.reduceAdd, Nat.reduceMul, Nat.reduceSub, reduceIte, reduceCtorEq, Int.reduceLT, Int.reduceLE, Int.reduceToNat, Int.reduceAdd, Int.reduceSub, Int.reduceNeg, Int.reduceEq, Int.reduceNe, Int.reduceBEq, Int.reduceBNe, BitVec.reduceBEq, BitVec.reduceBNe, BitVec.reduceOfInt, BitVec.reduceSetWidth, -List.reduceReplicate, sumL, fnC]
    exact Fin.flatv (fun _ => rfl) (fun _ => rfl) ⟨rfl, rfl, rfl⟩
  by_cases h10 : c = 10
  · subst h10
    simp (maxSteps := 1000000) -implicitDefEqProofs only [go_sem, Nat.reduceBEq, Nat.reduceLT, Nat.reduceLeDiff, Nat.reduceEqDiff, Nat.reduceAdd, Nat.reduceMul, Nat.reduceSub, reduceIte, reduceCtorEq, Int.reduceLT, Int.reduceLE, Int.reduceToNat, Int.reduceAdd, Int.reduceSub, Int.reduceNeg, Int.reduceEq, Int.reduceNe, Int.reduceBEq, Int.reduceBNe, BitVec.reduceBEq, BitVec.reduceBNe, BitVec.reduceOfInt, BitVec.reduceSetWidth, -List.reduceReplicate, sumL, fnC]
    exact Fin.flatv (fun _ => rfl) (fun _ => rfl) ⟨rfl, rfl, rfl⟩
  have f0 : ((0 : Int) = c) = False := eq_false (fun e => h0 e.symm)
  have f1 : ((1 : Int) = c) = False := eq_false (fun e => h1 e.symm)
  have f4 : ((4 : Int) = c) = False := eq_false (fun e => h4 e.symm)
  have f10 : ((10 : Int) = c) = False := eq_false (fun e => h10 e.symm)
  have e : isC c = false := by simp [isC, h0, h1, h4, h10]
  simp (maxSteps := 1000000) -implicitDefEqProofs only [go_sem, Nat.reduceBEq, Nat.reduceLT, Nat.reduceLeDiff, Nat.reduceEqDiff, Nat.reduceAdd, Nat.reduceMul, Nat.reduceSub, reduceIte, reduceCtorEq, Int.reduceLT, Int.reduceLE, Int.reduceToNat, Int.reduceAdd, Int.reduceSub, Int.reduceNeg, Int.reduceEq, Int.reduceNe, Int.reduceBEq, Int.reduceBNe, BitVec.reduceBEq, BitVec.reduceBNe, BitVec.reduceOfInt, BitVec.reduceSetWidth, -List.reduceReplicate, sumL, fnC, f0, f1, f4, f10]
  rw [e]
  exact Fin.flatv (fun _ => rfl) (fun _ => rfl) ⟨rfl, rfl, rfl⟩
theorem sizeOk (c : Int) : CallG false Try.prog 20 [.int .i64 c] (fun _ => true) [] 0 fun v m nx => v = .int .i64 ((chk c []).length : Nat) ∧ m = [] ∧ nx = 0 := by
  refine fn_okG Try.func20 rfl (by show 1 ≤ _; decide) ?_
  simp (maxSteps := 1000000) -implicitDefEqProofs only [go_sem, Nat.reduceBEq, Nat.reduceLT, Nat.reduceLeDiff, Nat.reduceEqDiff, Nat.reduceAdd, Nat.reduceMul, Nat.reduceSub, reduceIte, reduceCtorEq, Int.reduceLT, Int.reduceLE, Int.reduceToNat, Int.reduceAdd, Int.reduceSub, Int.reduceNeg, Int.reduceEq, Int.reduceNe, Int.reduceBEq, Int.reduceBNe, BitVec.reduceBEq, BitVec.reduceBNe, BitVec.reduceOfInt, BitVec.reduceSetWidth, -List.reduceReplicate, Try.results20, Try.ntmps20]
  refine (CallG.by1 (args := [.int .i64 c, .nils]) (sumOk c [] (by decide)) rfl nd0 lt0 ⟨rfl, ⟨rfl, rfl⟩, trivial⟩).weak ?_
  rintro v m nx ⟨ns, b1, b2, b3, g⟩
  obtain ⟨q1, q2, q3, q4, q5⟩ := b1.facts
  have q6 := b1.len Try.prog 22
  simp (maxSteps := 1000000) -implicitDefEqProofs only [go_sem, Nat.reduceBEq, Nat.reduceLT, Nat.reduceLeDiff, Nat.reduceEqDiff, Nat.reduceAdd, Nat.reduceMul, Nat.reduceSub, reduceIte, reduceCtorEq, Int.reduceLT, Int.reduceLE, Int.reduceToNat, Int.reduceAdd, Int.reduceSub, Int.reduceNeg, Int.reduceEq, Int.reduceNe, Int.reduceBEq, Int.reduceBNe, BitVec.reduceBEq, BitVec.reduceBNe, BitVec.reduceOfInt, BitVec.reduceSetWidth, -List.reduceReplicate, q1, q2, q3, q4, q6]
  exact Fin.flatv (fun _ => rfl) (fun _ => rfl) ⟨rfl, rfl, rfl⟩
end Go.Proofs.Ytmdeoikpiiambaa
end
section
/- A stream's ends: what other layers lean on: bytes alike, the document's checks. -/
set_option linter.unusedVariables false
set_option linter.unusedSimpArgs false
set_option maxRecDepth 100000
namespace Go.Proofs.Ytmdeoikpiiambaa
open Go Go.Eng
theorem equalOk (A B : List (BitVec 8)) : CallG false Try.prog 81 [.ro A.length (bvs .u8 A), .ro B.length (bvs .u8 B)] (fun _ => true) [] 0 fun v m nx => v = .bool (decide (A = B)) ∧ m = [] ∧ nx = 0 := by
  refine fn_okG Try.func81 rfl (by show 2 ≤ _; decide) ?_
  have ha : bvs .u8 A = List.take A.length (bvs .u8 A) := by rw [List.take_of_length_le (by rw [bvs_length]; exact Nat.le_refl _)]
  simp (maxSteps := 1000000) -implicitDefEqProofs only [go_sem, Nat.reduceBEq, Nat.reduceLT, Nat.reduceLeDiff, Nat.reduceEqDiff, Nat.reduceAdd, Nat.reduceMul, Nat.reduceSub, reduceIte, reduceCtorEq, Int.reduceLT, Int.reduceLE, Int.reduceToNat, Int.reduceAdd, Int.reduceSub, Int.reduceNeg, Int.reduceEq, Int.reduceNe, Int.reduceBEq, Int.reduceBNe, BitVec.reduceBEq, BitVec.reduceBNe, BitVec.reduceOfInt, BitVec.reduceSetWidth, -List.reduceReplicate, Try.results81, Try.ntmps81, List.take_length, u8s_bvs, strOf_def, strEq]
  exact Fin.flatv (fun _ => rfl) (fun _ => rfl) ⟨rfl, rfl, rfl⟩
theorem lowS_cons (n : BitVec 64) : ∀ k, lowS n (k + 1) = n.setWidth 8 :: lowS (n >>> 8) k
  | 0 => by simp [lowS]
  | k + 1 => by
    rw [lowS, lowS_cons n k, lowS, List.cons_append]
    rw [← BitVec.shiftRight_add, show 8 + 8 * k = 8 * (k + 1) by omega]
theorem lowROk : ∀ (k : Nat) (hk : k ≤ 8) (n : BitVec 64), CallG false Try.prog 77 [.int .u64 (n.toNat : Int), .int .i64 k] (fun _ => true) [] 0 (ByK 5 idG (lowS n k) [] 0)
  | 0, hk, n => by
    refine fn_okG Try.func77 rfl (by show 2 ≤ _; decide) ?_
    simp (maxSteps := 1000000) -implicitDefEqProofs only [go_sem, Nat.reduceBEq, Nat.reduceLT, Nat.reduceLeDiff, Nat.reduceEqDiff, Nat.reduceAdd, Nat.reduceMul, Nat.reduceSub, reduceIte, reduceCtorEq, Int.reduceLT, Int.reduceLE, Int.reduceToNat, Int.reduceAdd, Int.reduceSub, Int.reduceNeg, Int.reduceEq, Int.reduceNe, Int.reduceBEq, Int.reduceBNe, BitVec.reduceBEq, BitVec.reduceBNe, BitVec.reduceOfInt, BitVec.reduceSetWidth, -List.reduceReplicate, Try.results77, Try.ntmps77]
    exact Fin.by (.nil _) (fun e => by cases e) idG (fun _ _ => rfl)
  | k + 1, hk, n => by
    refine fn_okG Try.func77 rfl (by show 2 ≤ _; decide) ?_
    have g1 : (((k + 1 : Nat) : Int) == 0) = false := by rw [beq_eq_false_iff_ne]; omega
    have w1 : IntKind.i64.wrap (((k + 1 : Nat) : Int) - 1) = (k : Int) := by rw [wrap_i64] <;> omega
    have ih := lowROk k (by omega) (n >>> 8)
    have q1 : n / 256#64 = n >>> 8 := by
      apply BitVec.eq_of_toNat_eq
      rw [BitVec.toNat_udiv, BitVec.toNat_ushiftRight, Nat.shiftRight_eq_div_pow]; rfl
    have q2 : BitVec.setWidth 8 (n % 256#64) = n.setWidth 8 := by
      apply BitVec.eq_of_toNat_eq
      rw [BitVec.toNat_setWidth, BitVec.toNat_umod, BitVec.toNat_setWidth]
      show n.toNat % 256 % 256 = n.toNat % 256
      rw [Nat.mod_mod]
    simp (maxSteps := 1000000) -implicitDefEqProofs only [go_sem, Nat.reduceBEq, Nat.reduceLT, Nat.reduceLeDiff, Nat.reduceEqDiff, Nat.reduceAdd, Nat.reduceMul, Nat.reduceSub, reduceIte, reduceCtorEq, Int.reduceLT, Int.reduceLE, Int.reduceToNat, Int.reduceAdd, Int.reduceSub, Int.reduceNeg, Int.reduceEq, Int.reduceNe, Int.reduceBEq, Int.reduceBNe, BitVec.reduceBEq, BitVec.reduceBNe, BitVec.reduceOfInt, BitVec.reduceSetWidth, -List.reduceReplicate, Try.results77, Try.ntmps77, g1, w1, q1, q2]
    refine ⟨.inr trivial, ?_⟩
    refine CallG.byK ih rfl (by simp) (fun p hp => by cases List.mem_singleton.1 hp; exact Nat.zero_lt_one) ⟨rfl, rfl, trivial⟩ ?_
    intro v m nx ns b1 b2 b3 gr
    have hrow : ByAt 5 m (.sl 0 0 1 1) [n.setWidth 8] [0] := (ByAt.row (n := 0) (X := [n.setWidth 8]) (sp := []) rfl rfl rfl (by show 1 ≤ maxI; decide) rfl).grow gr
    have hsrc := b1.src
    simp only [srcx, Nat.mul_one] at hsrc
    simp (maxSteps := 1000000) -implicitDefEqProofs only [go_sem, Nat.reduceBEq, Nat.reduceLT, Nat.reduceLeDiff, Nat.reduceEqDiff, Nat.reduceAdd, Nat.reduceMul, Nat.reduceSub, reduceIte, reduceCtorEq, Int.reduceLT, Int.reduceLE, Int.reduceToNat, Int.reduceAdd, Int.reduceSub, Int.reduceNeg, Int.reduceEq, Int.reduceNe, Int.reduceBEq, Int.reduceBNe, BitVec.reduceBEq, BitVec.reduceBNe, BitVec.reduceOfInt, BitVec.reduceSetWidth, -List.reduceReplicate, hsrc, one1_bvs]
    have hll : (lowS (n >>> 8) k).length = k := lowS_len _ _
    refine appk_by hrow (fun e => by cases e) gr.nd (fun _ _ => rfl) gr.lt (fun _ _ => rfl) (by rw [hll]; show 1 + k ≤ _; omega) ?_
    intro v' m' nx' ns' c1 c2 c3 c4 c5 c6 c7 c8
    simp (maxSteps := 1000000) -implicitDefEqProofs only [go_sem, Nat.reduceBEq, Nat.reduceLT, Nat.reduceLeDiff, Nat.reduceEqDiff, Nat.reduceAdd, Nat.reduceMul, Nat.reduceSub, reduceIte, reduceCtorEq, Int.reduceLT, Int.reduceLE, Int.reduceToNat, Int.reduceAdd, Int.reduceSub, Int.reduceNeg, Int.reduceEq, Int.reduceNe, Int.reduceBEq, Int.reduceBNe, BitVec.reduceBEq, BitVec.reduceBNe, BitVec.reduceOfInt, BitVec.reduceSetWidth, -List.reduceReplicate]
    rw [lowS_cons]
    exact Fin.by (X := n.setWidth 8 :: lowS (n >>> 8) k) c1 c2 idG (fun _ _ => rfl)
theorem CallOk.byK {ty : TypeId} {fz : Bool} {P : Program} {g : FuncId} {args0 args : List AV} {wr : Nat → Bool} {m : Mem} {nx : Nat} {K : Kv} {F : AV → AV} {X : List (BitVec 8)} (h : CallOk P g args0 (fun _ => true) [] 0 (ByK ty F X [] 0)) (hF : F = fun s => s) (nd : (m.map fun p => p.1).Nodup) (lt : ∀ p ∈ m, p.1 < nx)
    (ha : argsx m [] (rf [] nx 0) args args0) (hK : ∀ v m' nx' ns, ByAt ty m' v X ns → v ≠ .ro X.length (bvs .u8 X) → (∀ k ∈ ns, nx ≤ k) → Gr m nx m' nx' → K v m' nx') : CallG fz P g args wr m nx K := by
  subst hF
  refine (CallOk.by h nd lt ha (fun _ _ => rfl) (fun _ => rfl)).weak ?_
  rintro v m' nx' ⟨s, ns, rfl, h1, h2, h3, h4⟩
  exact hK _ _ _ ns h1 h2 h3 h4
theorem refSumOk (c : Int) (b : List (BitVec 8)) (hb : b.length ≤ 100000) : CallG false Try.prog 22 [.int .i64 c, .ro b.length (bvs .u8 b)] (fun _ => true) [] 0 (ByK 5 idG (chk c b) [] 0) := by
  refine fn_okG Try.func22 rfl (by show 2 ≤ _; decide) ?_
  by_cases h1 : c = 1
  · subst h1
    simp (maxSteps := 1000000) -implicitDefEqProofs only [go_sem, Nat.reduceBEq, Nat.reduceLT, Nat.reduceLeDiff, Nat.reduceEqDiff, Nat.reduceAdd, Nat.reduceMul, Nat.reduceSub, reduceIte, reduceCtorEq, Int.reduceLT, Int.reduceLE, Int.reduceToNat, Int.reduceAdd, Int.reduceSub, Int.reduceNeg, Int.reduceEq, Int.reduceNe, Int.reduceBEq, Int.reduceBNe, BitVec.reduceBEq, BitVec.reduceBNe, BitVec.reduceOfInt, BitVec.reduceSetWidth, -List.reduceReplicate, Try.results22, Try.ntmps22]
    refine (rsumOk32 b (by omega)).flatv (by simp only [argsx, argx_int, argx_bool, argx_fn, argx_ro, argx_nils, eq_self, true_and, and_true, and_self]; try trivial) (fun _ => rfl) rfl ?_
    simp (maxSteps := 1000000) -implicitDefEqProofs only [go_sem, Nat.reduceBEq, Nat.reduceLT, Nat.reduceLeDiff, Nat.reduceEqDiff, Nat.reduceAdd, Nat.reduceMul, Nat.reduceSub, reduceIte, reduceCtorEq, Int.reduceLT, Int.reduceLE, Int.reduceToNat, Int.reduceAdd, Int.reduceSub, Int.reduceNeg, Int.reduceEq, Int.reduceNe, Int.reduceBEq, Int.reduceBNe, BitVec.reduceBEq, BitVec.reduceBNe, BitVec.reduceOfInt, BitVec.reduceSetWidth, -List.reduceReplicate, ron32_eq]
    refine CallG.byK (lowROk 4 (by decide) ((on32 0 b).setWidth 64)) rfl nd0 lt0 (by simp only [argsx, argx_int, argx_bool, argx_fn, argx_ro, argx_nils, eq_self, true_and, and_true, and_self]; try trivial) ?_
    intro v m nx ns b1 b2 b3 gr
    simp (maxSteps := 1000000) -implicitDefEqProofs only [go_sem, Nat.reduceBEq, Nat.reduceLT, Nat.reduceLeDiff, Nat.reduceEqDiff, Nat.reduceAdd, Nat.reduceMul, Nat.reduceSub, reduceIte, reduceCtorEq, Int.reduceLT, Int.reduceLE, Int.reduceToNat, Int.reduceAdd, Int.reduceSub, Int.reduceNeg, Int.reduceEq, Int.reduceNe, Int.reduceBEq, Int.reduceBNe, BitVec.reduceBEq, BitVec.reduceBNe, BitVec.reduceOfInt, BitVec.reduceSetWidth, -List.reduceReplicate]
    exact Fin.by b1 b2 idG (fun _ _ => rfl)
  have f1 : (c == 1) = false := by simpa using h1
  by_cases h4 : c = 4
  · subst h4
    simp (maxSteps := 1000000) -implicitDefEqProofs only [go_sem, Nat.reduceBEq, Nat.reduceLT, Nat.reduceLeDiff, Nat.reduceEqDiff, Nat.reduceAdd, Nat.reduceMul, Nat.reduceSub, reduceIte, reduceCtorEq, Int.reduceLT, Int.reduceLE, Int.reduceToNat, Int.reduceAdd, Int.reduceSub, Int.reduceNeg, Int.reduceEq, Int.reduceNe, Int.reduceBEq, Int.reduceBNe, BitVec.reduceBEq, BitVec.reduceBNe, BitVec.reduceOfInt, BitVec.reduceSetWidth, -List.reduceReplicate, Try.results22, Try.ntmps22]
    refine (rsumOk64 b (by omega)).flatv (by simp only [argsx, argx_int, argx_bool, argx_fn, argx_ro, argx_nils, eq_self, true_and, and_true, and_self]; try trivial) (fun _ => rfl) rfl ?_
    simp (maxSteps := 1000000) -implicitDefEqProofs only [go_sem, Nat.reduceBEq, Nat.reduceLT, Nat.reduceLeDiff, Nat.reduceEqDiff, Nat.reduceAdd, Nat.reduceMul, Nat.reduceSub, reduceIte, reduceCtorEq, Int.reduceLT, Int.reduceLE, Int.reduceToNat, Int.reduceAdd, Int.reduceSub, Int.reduceNeg, Int.reduceEq, Int.reduceNe, Int.reduceBEq, Int.reduceBNe, BitVec.reduceBEq, BitVec.reduceBNe, BitVec.reduceOfInt, BitVec.reduceSetWidth, -List.reduceReplicate, ron64_eq]
    refine CallG.byK (lowROk 8 (by decide) (on64 0 b)) rfl nd0 lt0 (by simp only [argsx, argx_int, argx_bool, argx_fn, argx_ro, argx_nils, eq_self, true_and, and_true, and_self]; try trivial) ?_
    intro v m nx ns b1 b2 b3 gr
    simp (maxSteps := 1000000) -implicitDefEqProofs only [go_sem, Nat.reduceBEq, Nat.reduceLT, Nat.reduceLeDiff, Nat.reduceEqDiff, Nat.reduceAdd, Nat.reduceMul, Nat.reduceSub, reduceIte, reduceCtorEq, Int.reduceLT, Int.reduceLE, Int.reduceToNat, Int.reduceAdd, Int.reduceSub, Int.reduceNeg, Int.reduceEq, Int.reduceNe, Int.reduceBEq, Int.reduceBNe, BitVec.reduceBEq, BitVec.reduceBNe, BitVec.reduceOfInt, BitVec.reduceSetWidth, -List.reduceReplicate]
    exact Fin.by b1 b2 idG (fun _ _ => rfl)
  have f4 : (c == 4) = false := by simpa using h4
  by_cases h10 : c = 10
  · subst h10
    simp (maxSteps := 1000000) -implicitDefEqProofs only [go_sem, Nat.reduceBEq, Nat.reduceLT, Nat.reduceLeDiff, Nat.reduceEqDiff, Nat.reduceAdd, Nat.reduceMul, Nat.reduceSub, reduceIte, reduceCtorEq, Int.reduceLT, Int.reduceLE, Int.reduceToNat, Int.reduceAdd, Int.reduceSub, Int.reduceNeg, Int.reduceEq, Int.reduceNe, Int.reduceBEq, Int.reduceBNe, BitVec.reduceBEq, BitVec.reduceBNe, BitVec.reduceOfInt, BitVec.reduceSetWidth, -List.reduceReplicate, Try.results22, Try.ntmps22]
    refine CallOk.byK (rshaOk b hb) rfl nd0 lt0 (by simp only [argsx, argx_int, argx_bool, argx_fn, argx_ro, argx_nils, eq_self, true_and, and_true, and_self]; try trivial) ?_
    intro v m nx ns b1 b2 b3 gr
    simp (maxSteps := 1000000) -implicitDefEqProofs only [go_sem, Nat.reduceBEq, Nat.reduceLT, Nat.reduceLeDiff, Nat.reduceEqDiff, Nat.reduceAdd, Nat.reduceMul, Nat.reduceSub, reduceIte, reduceCtorEq, Int.reduceLT, Int.reduceLE, Int.reduceToNat, Int.reduceAdd, Int.reduceSub, Int.reduceNeg, Int.reduceEq, Int.reduceNe, Int.reduceBEq, Int.reduceBNe, BitVec.reduceBEq, BitVec.reduceBNe, BitVec.reduceOfInt, BitVec.reduceSetWidth, -List.reduceReplicate]
    have e : chk 10 b = shaR b := (show chk 10 b = shaP b from rfl).trans (sha_eq b)
    rw [e]
    exact Fin.by b1 b2 idG (fun _ _ => rfl)
  have f10 : (c == 10) = false := by simpa using h10
  simp (maxSteps := 1000000) -implicitDefEqProofs only [go_sem, Nat.reduceBEq, Nat.reduceLT, Nat.reduceLeDiff, Nat.reduceEqDiff, Nat.reduceAdd, Nat.reduceMul, Nat.reduceSub, reduceIte, reduceCtorEq, Int.reduceLT, Int.reduceLE, Int.reduceToNat, Int.reduceAdd, Int.reduceSub, Int.reduceNeg, Int.reduceEq, Int.reduceNe, Int.reduceBEq, Int.reduceBNe, BitVec.reduceBEq, BitVec.reduceBNe, BitVec.reduceOfInt, BitVec.reduceSetWidth, -List.reduceReplicate, Try.results22, Try.ntmps22, f1, f4, f10]
  have e : chk c b = [] := by rw [chk, if_neg h1, if_neg h4, if_neg h10]
  rw [e]
  exact Fin.by (.nil _) (fun e => by cases e) idG (fun _ _ => rfl)
theorem argx_roN {m : Mem} {own : List Nat} {f : Nat → Nat} {n n' : Nat} {X : List (BitVec 8)} (h : n = n') : argx m own f (.ro n (bvs .u8 X)) (.ro n' (bvs .u8 X)) := by
  show AV.ro _ _ = renA f (AV.ro _ _)
  simp only [renA, bvs_ren, h]
theorem elB : elemT Try.prog 22 = some 5 := by kernel_rfl
theorem intB : intT Try.prog 5 = some .u8 := by kernel_rfl
theorem strT9 : isStrT Try.prog 9 = true := by kernel_rfl
def okT (s : AV) : AV := .tup [s, .int .i64 0]
theorem byT {fz : Bool} {P : Program} {g : FuncId} {args0 args : List AV} {wr : Nat → Bool} {m : Mem} {nx : Nat} {K : Kv} {X : List (BitVec 8)} (h : CallG false P g args0 (fun _ => true) [] 0 (ByK 5 okT X [] 0)) (nd : (m.map fun p => p.1).Nodup) (lt : ∀ p ∈ m, p.1 < nx)
    (ha : argsx m [] (rf [] nx 0) args args0) (hK : ∀ s m' nx' ns, ByAt 5 m' s X ns → s ≠ .ro X.length (bvs .u8 X) → (∀ k ∈ ns, nx ≤ k) → Gr m nx m' nx' → K (.tup [s, .int .i64 0]) m' nx') : CallG fz P g args wr m nx K := by
  refine (CallOk.by h.any nd lt ha (fun _ _ => rfl) (fun s => by simp [okT, noRo, noRoL])).weak ?_
  rintro v m' nx' ⟨s, ns, rfl, h1, h2, h3, h4⟩
  exact hK _ _ _ ns h1 h2 h3 h4
theorem rdOld {m : Mem} {nx : Nat} {v : AV} {X : List (BitVec 8)} {ns : List Nat} {ty : TypeId} (h : ByAt ty m v X ns) (lt : ∀ p ∈ m, p.1 < nx) : ∀ n ∈ ns, Rd (wrD m nx []) n = true := fun n hn => by
  obtain ⟨o, ho⟩ := h.live n hn
  have h1 := h.lt lt n hn
  have h2 : decide (nx ≤ n) = false := decide_eq_false (by omega)
  simp [Rd, wrD, ho, h2]
end Go.Proofs.Ytmdeoikpiiambaa
end
section
/- An index: records; what a reader takes. BRIEF -/
set_option linter.unusedVariables false
set_option linter.unusedSimpArgs false
set_option maxRecDepth 100000
namespace Go.Proofs.Ytmdeoikpiiambaa
open Go Go.Eng

/-- a number's bytes, as a call answers them -/
theorem vputBy (m : BitVec 64) (hm : m.toNat < 9223372036854775808) : CallG false Try.prog 86 [.int .u64 (m.toNat : Int)] (fun _ => true) [] 0 (ByK 5 okT (putX m) [] 0) := by
  refine (vputOk m hm).weak ?_
  rintro v m' nx ⟨cap, sp, h1, h2, rfl, rfl, rfl⟩
  refine ⟨_, [0], rfl, .row (sp := sp.map AV.val) rfl (by rw [look_cons, if_pos rfl]; rfl) (by rw [List.length_map]; exact h1) h2 (val_pln _), (fun e => by cases e), fun k hk => Nat.zero_le _, ⟨Nat.zero_le _, by simp, (fun p hp => by cases List.mem_singleton.1 hp; exact Nat.zero_lt_one), fun _ _ h => by cases h⟩, fun _ => ?_⟩
  show noRoM [(0, rowO (putX m) sp)] = true
  simp only [rowO, noRoM, noRoO, noRoL_append, bvs_noRo, plnL_noRo (val_pln sp), Bool.and_self]
def Rec := Int × Int
/-- a record's cells -/
def rcs (R : List (Int × Int)) : List AV := R.flatMap fun r => [.int .i64 r.1, .int .i64 r.2]
theorem rcs_len (R : List (Int × Int)) : (rcs R).length = R.length * 2 := by
  induction R with
  | nil => rfl
  | cons r t ih => show ((_ :: _ :: rcs t) : List AV).length = _; rw [List.length_cons, List.length_cons, ih, List.length_cons]; omega
theorem rcs_flat (R : List (Int × Int)) : (rcs R).all flat = true := by
  induction R with
  | nil => rfl
  | cons r t ih => show ((.int .i64 r.1 :: .int .i64 r.2 :: rcs t) : List AV).all flat = true; rw [List.all_cons, List.all_cons, ih]; rfl
theorem rcs_app (R T : List (Int × Int)) : rcs R ++ rcs T = rcs (R ++ T) := by rw [rcs, rcs, rcs, List.flatMap_append]
theorem rcs_get (R : List (Int × Int)) : ∀ (i : Nat) (S : List AV), i < R.length → (rcs R ++ S).getD (i * 2) (.int .i64 0) = .int .i64 (R.getD i (0, 0)).1 ∧ (rcs R ++ S).getD (i * 2 + 1) (.int .i64 0) = .int .i64 (R.getD i (0, 0)).2 := by
  induction R with
  | nil => intro i S h; cases h
  | cons r t ih =>
    intro i S h
    cases i with
    | zero => exact ⟨rfl, rfl⟩
    | succ i =>
      have := ih i S (by rw [List.length_cons] at h; omega)
      rw [show (i + 1) * 2 = i * 2 + 1 + 1 by omega]
      exact this
/-- may a record be? -/
def fitB (r : Int × Int) : Bool := decide (r.1 ≥ 5) && decide (r.1 ≤ 9223372036854775804) && decide (r.2 ≥ 0)
theorem fitsOk (r : Int × Int) : CallG false Try.prog 87 [.agg [.int .i64 r.1, .int .i64 r.2]] (fun _ => true) [] 0 fun v m nx => v = .bool (fitB r) ∧ m = [] ∧ nx = 0 := by
  refine fn_okG Try.func87 rfl (by show 1 ≤ _; decide) ?_
  unfold fitB
  cases g1 : decide (r.1 ≥ 5) <;> cases g2 : decide (r.1 ≤ 9223372036854775804) <;>
    (simp (maxSteps := 1000000) -implicitDefEqProofs only [go_sem, seval, -List.reduceReplicate, Try.results87, Try.ntmps87, g1, g2]
     exact Fin.flatv (fun _ => rfl) (fun _ => rfl) ⟨rfl, rfl, rfl⟩)
theorem fitsROk (r : Int × Int) : CallG false Try.prog 32 [.agg [.int .i64 r.1, .int .i64 r.2]] (fun _ => true) [] 0 fun v m nx => v = .bool (fitB r) ∧ m = [] ∧ nx = 0 := by
  refine fn_okG Try.func32 rfl (by show 1 ≤ _; decide) ?_
  unfold fitB
  cases g1 : decide (r.1 ≥ 5) <;> cases g2 : decide (r.1 ≤ 9223372036854775804) <;>
    (simp (maxSteps := 1000000) -implicitDefEqProofs only [go_sem, seval, -List.reduceReplicate, Try.results32, Try.ntmps32, g1, g2]
     exact Fin.flatv (fun _ => rfl) (fun _ => rfl) ⟨rfl, rfl, rfl⟩)
theorem byR50 : bytesT Try.prog 50 = some 16 := by kernel_rfl
/-- records told as the document's -/
theorem asOk (R : List (Int × Int)) (hR : R.length ≤ 1000) : CallG false Try.prog 31 [.ro R.length (rcs R)] (fun _ => true) [] 0 (SlK' 50 2 idG R.length (rcs R) [] 0) := by
  refine fn_okG Try.func31 rfl (by show 1 ≤ _; decide) ?_
  simp (maxSteps := 1000000) -implicitDefEqProofs only [go_sem, seval, -List.reduceReplicate, Try.results31, Try.ntmps31]
  refine LoopOk.upX (fun i (x : AV × List Nat × Mem × Nat) => SlA 50 2 x.2.2.1 x.1 i (rcs (R.take i)) x.2.1 ∧ x.1 ≠ .ro i (rcs (R.take i)) ∧ Gr [] 0 x.2.2.1 x.2.2.2) R.length (fun i x => ([(4, .int .i64 (i : Nat)), (3, x.1), (0, .ro R.length (rcs R))], x.2.2.1, x.2.2.2)) (.nils, [], [], 0) ⟨.nil _ _ _, (fun e => by cases e), .refl List.nodup_nil (fun p hp => by cases hp)⟩ ?_ ?_
  · exact Le.sameT (Nat.zero_le _) ⟨rfl, rfl, rfl, trivial⟩ (memSame_slf List.nodup_nil) List.nodup_nil
  rintro i ⟨s, ns, m, nx⟩ ⟨hi, b1, b2, g⟩
  have b1 : SlA 50 2 m s i (rcs (R.take i)) ns := b1
  have b2 : s ≠ .ro i (rcs (R.take i)) := b2
  have g : Gr [] 0 m nx := g
  rcases Nat.lt_or_ge i R.length with h | h
  · have g1 : decide ((i : Int) < (R.length : Int)) = true := decide_eq_true (by omega)
    have w1 : IntKind.i64.wrap ((i : Int) + 1) = ((i + 1 : Nat) : Int) := by rw [wrap_i64] <;> omega
    obtain ⟨hg1, hg2⟩ := rcs_get R i [] h
    rw [List.append_nil] at hg1 hg2
    simp (maxSteps := 1000000) -implicitDefEqProofs only [go_sem, seval, -List.reduceReplicate, g1, w1]
    refine ⟨Fx.mixed, .inl ⟨[(0, false), (1, false), (2, false), (3, false), (4, false), (5, false), (6, false), (7, false), (8, false), (9, false), (10, false), (11, false), (12, true), (13, true), (14, false)], ns, by kernel_rfl, (fun j hj => ⟨rfl, by obtain ⟨o, ho⟩ := b1.live j hj; rw [ho]; rfl⟩), ?_⟩⟩
    have hz : zfill [AV.int .i64 0, AV.int .i64 0] 2 = [AV.int .i64 0, AV.int .i64 0] := rfl
    have hl := rcs_len R
    have hs : rcs (R.take (i + 1)) = rcs (R.take i) ++ [.int .i64 (R.getD i (0, 0)).1, .int .i64 (R.getD i (0, 0)).2] := by
      rw [List.take_add_one, List.getElem?_eq_getElem h, ← rcs_app, List.getD_eq_getElem?_getD, List.getElem?_eq_getElem h]; rfl
    simp (maxSteps := 1000000) -implicitDefEqProofs only [go_sem, seval, -List.reduceReplicate, hg1, hg2, w1, hz, byR50]
    refine ⟨by omega, by omega, by rw [List.length_drop]; omega, by omega, by omega, by rw [List.length_drop, List.length_drop]; omega, .inr trivial, ?_⟩
    refine ⟨rfl, rfl, ?_⟩
    have gc := Gr.cons g.nd g.lt (.cells [AV.int .i64 (R.getD i (0, 0)).1, AV.int .i64 (R.getD i (0, 0)).2] 50)
    refine appk_sl (j := 1) (Y := [AV.int .i64 (R.getD i (0, 0)).1, AV.int .i64 (R.getD i (0, 0)).2]) (b1.grow gc) b2 gc.nd gc.lt (fun j hj => by simp [wrD, hj]) rfl rfl (by decide) (by omega) ?_
    intro v' m' nx' ns' c1 c2 c3 c4 c5 c6 c7 c8
    rw [← hs] at c1 c2
    simp (maxSteps := 1000000) -implicitDefEqProofs only [go_sem, seval, -List.reduceReplicate, w1]
    exact UpX_normal h (v', ns', m', nx') ⟨c1, c2, ⟨Nat.zero_le _, c5, c6, fun k X e => by cases e⟩⟩ (Le.sameT (Nat.zero_le _) ⟨rfl, rfl, rfl, trivial⟩ (memSame_slf c5) c5)
  · have hik : i = R.length := by omega
    subst hik
    have g1 : decide ((R.length : Int) < (R.length : Int)) = false := decide_eq_false (by omega)
    simp (maxSteps := 1000000) -implicitDefEqProofs only [go_sem, seval, -List.reduceReplicate, g1]
    rw [List.take_length] at b1 b2
    exact Fin.bySl b1 b2 idG (fun _ _ => rfl)
/-- the reader: bytes, the place, an error -/
def rdO (b : List (BitVec 8)) (at_ bad : Int) : AObj := .cells [.ro b.length (bvs .u8 b), .int .i64 at_, .int .i64 bad] 129
/-- the reader is left so, and nothing else -/
def RdK (V : AV) (b : List (BitVec 8)) (at_ bad : Int) (m : Mem) (nx a : Nat) : Kv := fun v m' nx' => v = V ∧ m' = Eng.upd m a (rdO b at_ bad) ∧ nx' = nx
def wrB (is : Bool) (bad : Int) : Int := if is = true ∧ bad = 0 then 8 else bad
theorem wrongOk {m : Mem} {nx a : Nat} {b : List (BitVec 8)} {at_ bad : Int} (D : Rdm (fun _ => true) m nx) (h : Eng.look m a = some (rdO b at_ bad)) (is : Bool) :
    CallG false Try.prog 88 [.ptr a 0, .bool is] (fun _ => true) m nx (RdK (.tup []) b at_ (wrB is bad) m nx a) := by
  refine fn_okG Try.func88 rfl (by show 2 ≤ _; decide) ?_
  have h := h
  unfold rdO at h
  cases is with
  | false =>
    simp (maxSteps := 1000000) -implicitDefEqProofs only [go_sem, seval, -List.reduceReplicate, Try.results88, Try.ntmps88, h]
    have e : wrB false bad = bad := by rw [wrB, if_neg (fun e => by cases e.1)]
    rw [e]
    exact Fin.keepW (m0 := m) (Nat.le_refl _) (memSame_slf D.nd) D.nd D.kp ⟨rfl, by rw [rdO, upd_self h], rfl⟩
  | true =>
    by_cases hb : bad = 0
    · subst hb
      simp (maxSteps := 1000000) -implicitDefEqProofs only [go_sem, seval, -List.reduceReplicate, Try.results88, Try.ntmps88, h]
      have DU := D.upd a (rdO b at_ (wrB true 0))
      exact Fin.keepW (m0 := Eng.upd m a (rdO b at_ (wrB true 0))) (Nat.le_refl _) (memSame_slf DU.nd) DU.nd DU.kp ⟨rfl, rfl, rfl⟩
    · have g : (bad == 0) = false := by simpa using hb
      simp (maxSteps := 1000000) -implicitDefEqProofs only [go_sem, seval, -List.reduceReplicate, Try.results88, Try.ntmps88, h, g]
      have e : wrB true bad = bad := by rw [wrB, if_neg (fun e => hb e.2)]
      rw [e]
      exact Fin.keepW (m0 := m) (Nat.le_refl _) (memSame_slf D.nd) D.nd D.kp ⟨rfl, by rw [rdO, upd_self h], rfl⟩
end Go.Proofs.Ytmdeoikpiiambaa
end
section
/- An index: what a reader takes. BRIEF -/
set_option linter.unusedVariables false
set_option linter.unusedSimpArgs false
set_option maxRecDepth 100000
namespace Go.Proofs.Ytmdeoikpiiambaa
open Go Go.Eng

/-- the error behind taking so many bytes -/
def tkB (b : List (BitVec 8)) (at_ : Nat) (bad : Int) (n : Nat) : Int := if bad = 0 ∧ b.length < at_ + n then 2 else bad
def tkA (b : List (BitVec 8)) (at_ : Nat) (bad : Int) (n : Nat) : Nat := if tkB b at_ bad n = 0 then at_ + n else at_
def tkX (b : List (BitVec 8)) (at_ : Nat) (bad : Int) (n : Nat) : List (BitVec 8) := if tkB b at_ bad n = 0 then (b.drop at_).take n else List.replicate n 0
def TakeK (b : List (BitVec 8)) (at_ : Nat) (bad : Int) (n : Nat) (m : Mem) (nx a : Nat) : Kv := fun v m' nx' => ∃ ns, ByAt 5 m' v (tkX b at_ bad n) ns ∧ (∀ k ∈ ns, nx ≤ k) ∧ nx ≤ nx' ∧ (m'.map fun p => p.1).Nodup ∧ (∀ p ∈ m', p.1 < nx') ∧
  Eng.look m' a = some (rdO b ((tkA b at_ bad n : Nat) : Int) (tkB b at_ bad n)) ∧ ∀ k X, k ≠ a → Eng.look m k = some X → Eng.look m' k = some X
theorem tkZero {m : Mem} {nx a : Nat} {b : List (BitVec 8)} {at_ n : Nat} {bad : Int} (D : Rdm (fun _ => true) m nx) (hlt : ∀ p ∈ m, p.1 < nx) (h : Eng.look m a = some (rdO b (at_ : Int) bad)) (bad' : Int) (e : tkB b at_ bad n = bad') (hb : bad' ≠ 0) (hn : 1 ≤ n ∧ n ≤ 4) :
    Eng.Fin nx (fun _ => true) ((nx, .cells (List.replicate n (.int .u8 0)) 5) :: Eng.upd m a (rdO b (at_ : Int) bad')) (nx + 1) (TakeK b at_ bad n m nx a) (.sl nx 0 n n) := by
  have an : a < nx := by obtain ⟨p, hp, e⟩ := look_lt h; have := hlt p hp; omega
  have hl2 := upd_lt hlt a (rdO b (at_ : Int) bad')
  have DU := (D.upd a (rdO b (at_ : Int) bad')).cons hl2 (.cells (List.replicate n (.int .u8 0)) 5)
  refine Fin.keepW (m0 := (nx, .cells (List.replicate n (.int .u8 0)) 5) :: Eng.upd m a (rdO b (at_ : Int) bad')) (Nat.le_succ _) (memSame_slf DU.nd) DU.nd DU.kp ?_
  have hX : tkX b at_ bad n = List.replicate n 0 := by rw [tkX, e, if_neg hb]
  have hA : tkA b at_ bad n = at_ := by rw [tkA, e, if_neg hb]
  refine ⟨[nx], ?_, (fun k hk => by cases List.mem_singleton.1 hk; exact Nat.le_refl _), Nat.le_succ _, DU.nd, cons_lt hl2 _, ?_, fun k X hk hX => ?_⟩
  · rw [hX]
    exact .row (sp := []) (by rw [List.length_replicate]) (by rw [look_cons, if_pos rfl, bvs_zeros, List.append_nil]) (by rw [List.length_replicate, List.length_nil]; omega) (by show n ≤ 9223372036854775807; omega) rfl
  · rw [look_cons, if_neg (by omega), look_upd_same _ h, hA, e]
  · have : k < nx := by obtain ⟨p, hp, e⟩ := look_lt hX; have := hlt p hp; omega
    rw [look_cons, if_neg (by omega), look_upd_other _ (fun e => hk e.symm)]; exact hX
set_option maxHeartbeats 1000000 in
theorem takeOk {m : Mem} {nx a : Nat} {b : List (BitVec 8)} {at_ : Nat} {bad : Int} (D : Rdm (fun _ => true) m nx) (hlt : ∀ p ∈ m, p.1 < nx) (h : Eng.look m a = some (rdO b (at_ : Int) bad)) (n : Nat) (hn : 1 ≤ n ∧ n ≤ 4) (ha : at_ ≤ b.length) (hb : b.length ≤ 100000) :
    CallG false Try.prog 89 [.ptr a 0, .int .i64 n] (fun _ => true) m nx (TakeK b at_ bad n m nx a) := by
  refine fn_okG Try.func89 rfl (by show 2 ≤ _; decide) ?_
  have h' := h
  unfold rdO at h'
  have an : a < nx := by obtain ⟨p, hp, e⟩ := look_lt h; have := hlt p hp; omega
  have f1 : decide (nx ≤ a) = false := decide_eq_false (by omega)
  have w1 : IntKind.i64.wrap ((b.length : Int) - (at_ : Int)) = (b.length : Int) - (at_ : Int) := by rw [wrap_i64] <;> omega
  have w2 : IntKind.i64.wrap ((at_ : Int) + (n : Int)) = ((at_ + n : Nat) : Int) := by rw [wrap_i64] <;> omega
  have w3 : IntKind.i64.wrap (((at_ + n : Nat) : Int) - (n : Int)) = (at_ : Int) := by rw [wrap_i64] <;> omega
  by_cases hbad : bad = 0
  · subst hbad
    by_cases hs : b.length < at_ + n
    · have g1 : decide ((n : Int) > (b.length : Int) - (at_ : Int)) = true := decide_eq_true (by omega)
      have hu := look_upd_same (.cells [.ro b.length (bvs .u8 b), .int .i64 (at_ : Int), .int .i64 2] 129) h'
      simp (maxSteps := 1000000) -implicitDefEqProofs only [go_sem, seval, -List.reduceReplicate, Try.results89, Try.ntmps89]
      refine ⟨Fx.mixed, .inl ⟨[(0, false), (1, false), (2, false), (3, false), (4, false), (5, false), (6, false), (7, false), (8, false), (9, false), (10, false), (11, false), (12, false), (13, false), (14, false), (15, false), (16, false), (17, false), (18, false)], [], by kernel_rfl, (fun n hn => by cases hn), ?_⟩⟩
      simp (maxSteps := 1000000) -implicitDefEqProofs only [go_sem, seval, -List.reduceReplicate, h', f1, w1, g1, hu]
      refine ⟨⟨by omega, by omega⟩, ?_⟩
      have fin := tkZero (n := n) D hlt h 2 (by rw [tkB, if_pos ⟨rfl, hs⟩]) (by decide) hn
      rw [← bvs_zeros n] at fin
      exact fin
    · have g1 : decide ((n : Int) > (b.length : Int) - (at_ : Int)) = false := decide_eq_false (by omega)
      have hu := look_upd_same (.cells [.ro b.length (bvs .u8 b), .int .i64 ((at_ + n : Nat) : Int), .int .i64 0] 129) h'
      have DU := (D.upd a (rdO b ((at_ + n : Nat) : Int) 0)).drawn []
      simp (maxSteps := 1000000) -implicitDefEqProofs only [go_sem, seval, -List.reduceReplicate, Try.results89, Try.ntmps89]
      refine ⟨Fx.mixed, .inl ⟨[(0, false), (1, false), (2, false), (3, false), (4, false), (5, false), (6, false), (7, false), (8, false), (9, false), (10, false), (11, false), (12, false), (13, false), (14, false), (15, false), (16, false), (17, false), (18, false)], [], by kernel_rfl, (fun n hn => by cases hn), ?_⟩⟩
      simp (maxSteps := 1000000) -implicitDefEqProofs only [go_sem, seval, -List.reduceReplicate, h', f1, w1, g1, w2]
      refine ⟨Fx.mixed, .inl ⟨[(0, false), (1, false), (2, false), (3, false), (4, false), (5, false), (6, false), (7, false), (8, false), (9, false), (10, false), (11, false), (12, false), (13, false), (14, false), (15, false)], [], by kernel_rfl, (fun n hn => by cases hn), ?_⟩⟩
      simp (maxSteps := 1000000) -implicitDefEqProofs only [go_sem, seval, -List.reduceReplicate, hu, f1, w3]
      refine ⟨⟨by omega, by omega⟩, ?_⟩
      rw [Nat.add_sub_cancel_left]
      have DV := D.upd a (rdO b ((at_ + n : Nat) : Int) 0)
      have hB : tkB b at_ 0 n = 0 := by rw [tkB, if_neg (fun e => hs e.2)]
      have hl : ((b.drop at_).take n).length = n := by rw [List.length_take, List.length_drop]; omega
      refine Fin.keepW (m0 := Eng.upd m a (rdO b ((at_ + n : Nat) : Int) 0)) (Nat.le_refl _) (memSame_slf DV.nd) DV.nd DV.kp ?_
      refine ⟨[], .inr (.inl ⟨?_, rfl⟩), (fun k hk => by cases hk), Nat.le_refl _, DV.nd, upd_lt hlt a _, ?_, fun k X hk hX => ?_⟩
      · rw [tkX, if_pos hB, hl]
      · rw [look_upd_same _ h, tkA, if_pos hB, hB]
      · rw [look_upd_other _ (fun e => hk e.symm)]; exact hX
  · have g0 : (bad == 0) = false := by simpa using hbad
    have g0n : (bad != 0) = true := by simpa using hbad
    simp (maxSteps := 1000000) -implicitDefEqProofs only [go_sem, seval, -List.reduceReplicate, Try.results89, Try.ntmps89]
    refine ⟨Fx.mixed, .inl ⟨[(0, false), (1, false), (2, false), (3, false), (4, false), (5, false), (6, false), (7, false), (8, false), (9, false), (10, false), (11, false), (12, false), (13, false), (14, false), (15, false), (16, false), (17, false), (18, false)], [], by kernel_rfl, (fun n hn => by cases hn), ?_⟩⟩
    simp (maxSteps := 1000000) -implicitDefEqProofs only [go_sem, seval, -List.reduceReplicate, h', f1, g0, g0n]
    refine ⟨⟨by omega, by omega⟩, ?_⟩
    have fin := tkZero (n := n) D hlt h bad (by rw [tkB, if_neg (fun e => hbad e.1)]) (hbad) hn
    rw [upd_self h] at fin
    rw [← bvs_zeros n] at fin
    exact fin
end Go.Proofs.Ytmdeoikpiiambaa
end
