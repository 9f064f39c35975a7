/- A stream's ends: what a head and a foot are read as, by the document. -/
import Derived.Test.YtmdeoikpiiambaaEng35
import Derived.Test.YtmdeoikpiiambaaFlb
set_option linter.unusedVariables false
set_option linter.unusedSimpArgs false
set_option maxRecDepth 100000
namespace Go.Proofs.Ytmdeoikpiiambaa
open Go Go.Eng

def sizeZ (c : Int) : Int := if c = 0 then 0 else if c = 1 then 4 else if c = 4 then 8 else if c = 10 then 32 else -1
theorem sizeZ_neg (c : Int) : decide (sizeZ c < 0) = !isC c := by
  unfold sizeZ isC
  by_cases h0 : c = 0
  · subst h0; rfl
  by_cases h1 : c = 1
  · subst h1; rfl
  by_cases h4 : c = 4
  · subst h4; rfl
  by_cases h10 : c = 10
  · subst h10; rfl
  rw [if_neg h0, if_neg h1, if_neg h4, if_neg h10]
  simp [h0, h1, h4, h10]
theorem chk_size (c : Int) (h : isC c = true) (b : List (BitVec 8)) : ((chk c b).length : Int) = sizeZ c := by
  unfold isC at h
  simp only [Bool.or_eq_true, beq_iff_eq] at h
  rcases h with ((rfl | rfl) | rfl) | rfl
  · rfl
  · show ((lowS _ 4).length : Int) = 4; rw [lowS_len]; rfl
  · show ((lowS _ 8).length : Int) = 8; rw [lowS_len]; rfl
  · show ((shaP b).length : Int) = 32; rw [shaP_len]; rfl
theorem chk_no (c : Int) (h : isC c = false) (b : List (BitVec 8)) : chk c b = [] := by
  unfold isC at h
  simp only [Bool.or_eq_false_iff, beq_eq_false_iff_ne] at h
  rw [chk, if_neg h.1.1.2, if_neg h.1.2, if_neg h.2]
theorem sizeROk (c : Int) : CallG false Try.prog 16 [.int .i64 c] (fun _ => true) [] 0 fun v m nx => v = .int .i64 (sizeZ c) ∧ m = [] ∧ nx = 0 := by
  refine fn_okG Try.func16 rfl (by show 1 ≤ _; decide) ?_
  by_cases h0 : c = 0
  · subst h0
    simp (maxSteps := 1000000) -implicitDefEqProofs only [go_sem, Nat.reduceBEq, Nat.reduceLT, Nat.reduceLeDiff, Nat.reduceEqDiff, Nat.reduceAdd, Nat.reduceMul, Nat.reduceSub, reduceIte, reduceCtorEq, Int.reduceLT, Int.reduceLE, Int.reduceToNat, Int.reduceAdd, Int.reduceSub, Int.reduceNeg, Int.reduceEq, Int.reduceNe, Int.reduceBEq, Int.reduceBNe, BitVec.reduceBEq, BitVec.reduceBNe, BitVec.reduceOfInt, BitVec.reduceSetWidth, -List.reduceReplicate, Try.results16, Try.ntmps16]
    exact Fin.flatv (fun _ => rfl) (fun _ => rfl) ⟨rfl, rfl, rfl⟩
  have f0 : (c == 0) = false := by simpa using h0
  by_cases h1 : c = 1
  · subst h1
    simp (maxSteps := 1000000) -implicitDefEqProofs only [go_sem, Nat.reduceBEq, Nat.reduceLT, Nat.reduceLeDiff, Nat.reduceEqDiff, Nat.reduceAdd, Nat.reduceMul, Nat.reduceSub, reduceIte, reduceCtorEq, Int.reduceLT, Int.reduceLE, Int.reduceToNat, Int.reduceAdd, Int.reduceSub, Int.reduceNeg, Int.reduceEq, Int.reduceNe, Int.reduceBEq, Int.reduceBNe, BitVec.reduceBEq, BitVec.reduceBNe, BitVec.reduceOfInt, BitVec.reduceSetWidth, -List.reduceReplicate, Try.results16, Try.ntmps16]
    exact Fin.flatv (fun _ => rfl) (fun _ => rfl) ⟨rfl, rfl, rfl⟩
  have f1 : (c == 1) = false := by simpa using h1
  by_cases h4 : c = 4
  · subst h4
    simp (maxSteps := 1000000) -implicitDefEqProofs only [go_sem, Nat.reduceBEq, Nat.reduceLT, Nat.reduceLeDiff, Nat.reduceEqDiff, Nat.reduceAdd, Nat.reduceMul, Nat.reduceSub, reduceIte, reduceCtorEq, Int.reduceLT, Int.reduceLE, Int.reduceToNat, Int.reduceAdd, Int.reduceSub, Int.reduceNeg, Int.reduceEq, Int.reduceNe, Int.reduceBEq, Int.reduceBNe, BitVec.reduceBEq, BitVec.reduceBNe, BitVec.reduceOfInt, BitVec.reduceSetWidth, -List.reduceReplicate, Try.results16, Try.ntmps16]
    exact Fin.flatv (fun _ => rfl) (fun _ => rfl) ⟨rfl, rfl, rfl⟩
  have f4 : (c == 4) = false := by simpa using h4
  by_cases h10 : c = 10
  · subst h10
    simp (maxSteps := 1000000) -implicitDefEqProofs only [go_sem, Nat.reduceBEq, Nat.reduceLT, Nat.reduceLeDiff, Nat.reduceEqDiff, Nat.reduceAdd, Nat.reduceMul, Nat.reduceSub, reduceIte, reduceCtorEq, Int.reduceLT, Int.reduceLE, Int.reduceToNat, Int.reduceAdd, Int.reduceSub, Int.reduceNeg, Int.reduceEq, Int.reduceNe, Int.reduceBEq, Int.reduceBNe, BitVec.reduceBEq, BitVec.reduceBNe, BitVec.reduceOfInt, BitVec.reduceSetWidth, -List.reduceReplicate, Try.results16, Try.ntmps16]
    exact Fin.flatv (fun _ => rfl) (fun _ => rfl) ⟨rfl, rfl, rfl⟩
  have f10 : (c == 10) = false := by simpa using h10
  simp (maxSteps := 1000000) -implicitDefEqProofs only [go_sem, Nat.reduceBEq, Nat.reduceLT, Nat.reduceLeDiff, Nat.reduceEqDiff, Nat.reduceAdd, Nat.reduceMul, Nat.reduceSub, reduceIte, reduceCtorEq, Int.reduceLT, Int.reduceLE, Int.reduceToNat, Int.reduceAdd, Int.reduceSub, Int.reduceNeg, Int.reduceEq, Int.reduceNe, Int.reduceBEq, Int.reduceBNe, BitVec.reduceBEq, BitVec.reduceBNe, BitVec.reduceOfInt, BitVec.reduceSetWidth, -List.reduceReplicate, Try.results16, Try.ntmps16, f0, f1, f4, f10]
  have e : sizeZ c = -1 := by rw [sizeZ, if_neg h0, if_neg h1, if_neg h4, if_neg h10]
  rw [e]
  exact Fin.flatv (fun _ => rfl) (fun _ => rfl) ⟨rfl, rfl, rfl⟩
theorem lowS_cons (n : BitVec 64) : ∀ k, lowS n (k + 1) = n.setWidth 8 :: lowS (n >>> 8) k
  | 0 => by simp [lowS]
  | k + 1 => by
    rw [lowS, lowS_cons n k, lowS, List.cons_append]
    rw [← BitVec.shiftRight_add, show 8 + 8 * k = 8 * (k + 1) by omega]
theorem lowROk : ∀ (k : Nat) (hk : k ≤ 8) (n : BitVec 64), CallG false Try.prog 77 [.int .u64 (n.toNat : Int), .int .i64 k] (fun _ => true) [] 0 (ByK 5 idG (lowS n k) [] 0)
  | 0, hk, n => by
    refine fn_okG Try.func77 rfl (by show 2 ≤ _; decide) ?_
    simp (maxSteps := 1000000) -implicitDefEqProofs only [go_sem, Nat.reduceBEq, Nat.reduceLT, Nat.reduceLeDiff, Nat.reduceEqDiff, Nat.reduceAdd, Nat.reduceMul, Nat.reduceSub, reduceIte, reduceCtorEq, Int.reduceLT, Int.reduceLE, Int.reduceToNat, Int.reduceAdd, Int.reduceSub, Int.reduceNeg, Int.reduceEq, Int.reduceNe, Int.reduceBEq, Int.reduceBNe, BitVec.reduceBEq, BitVec.reduceBNe, BitVec.reduceOfInt, BitVec.reduceSetWidth, -List.reduceReplicate, Try.results77, Try.ntmps77]
    exact Fin.by (.nil _) (fun e => by cases e) idG (fun _ _ => rfl)
  | k + 1, hk, n => by
    refine fn_okG Try.func77 rfl (by show 2 ≤ _; decide) ?_
    have g1 : (((k + 1 : Nat) : Int) == 0) = false := by rw [beq_eq_false_iff_ne]; omega
    have w1 : IntKind.i64.wrap (((k + 1 : Nat) : Int) - 1) = (k : Int) := by rw [wrap_i64] <;> omega
    have ih := lowROk k (by omega) (n >>> 8)
    have q1 : n / 256#64 = n >>> 8 := by
      apply BitVec.eq_of_toNat_eq
      rw [BitVec.toNat_udiv, BitVec.toNat_ushiftRight, Nat.shiftRight_eq_div_pow]; rfl
    have q2 : BitVec.setWidth 8 (n % 256#64) = n.setWidth 8 := by
      apply BitVec.eq_of_toNat_eq
      rw [BitVec.toNat_setWidth, BitVec.toNat_umod, BitVec.toNat_setWidth]
      show n.toNat % 256 % 256 = n.toNat % 256
      rw [Nat.mod_mod]
    simp (maxSteps := 1000000) -implicitDefEqProofs only [go_sem, Nat.reduceBEq, Nat.reduceLT, Nat.reduceLeDiff, Nat.reduceEqDiff, Nat.reduceAdd, Nat.reduceMul, Nat.reduceSub, reduceIte, reduceCtorEq, Int.reduceLT, Int.reduceLE, Int.reduceToNat, Int.reduceAdd, Int.reduceSub, Int.reduceNeg, Int.reduceEq, Int.reduceNe, Int.reduceBEq, Int.reduceBNe, BitVec.reduceBEq, BitVec.reduceBNe, BitVec.reduceOfInt, BitVec.reduceSetWidth, -List.reduceReplicate, Try.results77, Try.ntmps77, g1, w1, q1, q2]
    refine ⟨.inr trivial, ?_⟩
    refine CallG.byK ih rfl (by simp) (fun p hp => by cases List.mem_singleton.1 hp; exact Nat.zero_lt_one) ⟨rfl, rfl, trivial⟩ ?_
    intro v m nx ns b1 b2 b3 gr
    have hrow : ByAt 5 m (.sl 0 0 1 1) [n.setWidth 8] [0] := (ByAt.row (n := 0) (X := [n.setWidth 8]) (sp := []) rfl rfl rfl (by show 1 ≤ maxI; decide) rfl).grow gr
    have hsrc := b1.src
    simp only [srcx, Nat.mul_one] at hsrc
    simp (maxSteps := 1000000) -implicitDefEqProofs only [go_sem, Nat.reduceBEq, Nat.reduceLT, Nat.reduceLeDiff, Nat.reduceEqDiff, Nat.reduceAdd, Nat.reduceMul, Nat.reduceSub, reduceIte, reduceCtorEq, Int.reduceLT, Int.reduceLE, Int.reduceToNat, Int.reduceAdd, Int.reduceSub, Int.reduceNeg, Int.reduceEq, Int.reduceNe, Int.reduceBEq, Int.reduceBNe, BitVec.reduceBEq, BitVec.reduceBNe, BitVec.reduceOfInt, BitVec.reduceSetWidth, -List.reduceReplicate, hsrc, one1_bvs]
    have hll : (lowS (n >>> 8) k).length = k := lowS_len _ _
    refine appk_by hrow (fun e => by cases e) gr.nd (fun _ _ => rfl) gr.lt (fun _ _ => rfl) (by rw [hll]; show 1 + k ≤ _; omega) ?_
    intro v' m' nx' ns' c1 c2 c3 c4 c5 c6 c7 c8
    simp (maxSteps := 1000000) -implicitDefEqProofs only [go_sem, Nat.reduceBEq, Nat.reduceLT, Nat.reduceLeDiff, Nat.reduceEqDiff, Nat.reduceAdd, Nat.reduceMul, Nat.reduceSub, reduceIte, reduceCtorEq, Int.reduceLT, Int.reduceLE, Int.reduceToNat, Int.reduceAdd, Int.reduceSub, Int.reduceNeg, Int.reduceEq, Int.reduceNe, Int.reduceBEq, Int.reduceBNe, BitVec.reduceBEq, BitVec.reduceBNe, BitVec.reduceOfInt, BitVec.reduceSetWidth, -List.reduceReplicate]
    rw [lowS_cons]
    exact Fin.by (X := n.setWidth 8 :: lowS (n >>> 8) k) c1 c2 idG (fun _ _ => rfl)
theorem CallOk.byK {ty : TypeId} {fz : Bool} {P : Program} {g : FuncId} {args0 args : List AV} {wr : Nat → Bool} {m : Mem} {nx : Nat} {K : Kv} {F : AV → AV} {X : List (BitVec 8)} (h : CallOk P g args0 (fun _ => true) [] 0 (ByK ty F X [] 0)) (hF : F = fun s => s) (nd : (m.map fun p => p.1).Nodup) (lt : ∀ p ∈ m, p.1 < nx)
    (ha : argsx m [] (rf [] nx 0) args args0) (hK : ∀ v m' nx' ns, ByAt ty m' v X ns → v ≠ .ro X.length (bvs .u8 X) → (∀ k ∈ ns, nx ≤ k) → Gr m nx m' nx' → K v m' nx') : CallG fz P g args wr m nx K := by
  subst hF
  refine (CallOk.by h nd lt ha (fun _ _ => rfl) (fun _ => rfl)).weak ?_
  rintro v m' nx' ⟨s, ns, rfl, h1, h2, h3, h4⟩
  exact hK _ _ _ ns h1 h2 h3 h4
theorem refSumOk (c : Int) (b : List (BitVec 8)) (hb : b.length ≤ 100000) : CallG false Try.prog 22 [.int .i64 c, .ro b.length (bvs .u8 b)] (fun _ => true) [] 0 (ByK 5 idG (chk c b) [] 0) := by
  refine fn_okG Try.func22 rfl (by show 2 ≤ _; decide) ?_
  by_cases h1 : c = 1
  · subst h1
    simp (maxSteps := 1000000) -implicitDefEqProofs only [go_sem, Nat.reduceBEq, Nat.reduceLT, Nat.reduceLeDiff, Nat.reduceEqDiff, Nat.reduceAdd, Nat.reduceMul, Nat.reduceSub, reduceIte, reduceCtorEq, Int.reduceLT, Int.reduceLE, Int.reduceToNat, Int.reduceAdd, Int.reduceSub, Int.reduceNeg, Int.reduceEq, Int.reduceNe, Int.reduceBEq, Int.reduceBNe, BitVec.reduceBEq, BitVec.reduceBNe, BitVec.reduceOfInt, BitVec.reduceSetWidth, -List.reduceReplicate, Try.results22, Try.ntmps22]
    refine (rsumOk32 b (by omega)).flatv (by simp only [argsx, argx_int, argx_bool, argx_fn, argx_ro, argx_nils, eq_self, true_and, and_true, and_self]; try trivial) (fun _ => rfl) rfl ?_
    simp (maxSteps := 1000000) -implicitDefEqProofs only [go_sem, Nat.reduceBEq, Nat.reduceLT, Nat.reduceLeDiff, Nat.reduceEqDiff, Nat.reduceAdd, Nat.reduceMul, Nat.reduceSub, reduceIte, reduceCtorEq, Int.reduceLT, Int.reduceLE, Int.reduceToNat, Int.reduceAdd, Int.reduceSub, Int.reduceNeg, Int.reduceEq, Int.reduceNe, Int.reduceBEq, Int.reduceBNe, BitVec.reduceBEq, BitVec.reduceBNe, BitVec.reduceOfInt, BitVec.reduceSetWidth, -List.reduceReplicate, ron32_eq]
    refine CallG.byK (lowROk 4 (by decide) ((on32 0 b).setWidth 64)) rfl nd0 lt0 (by simp only [argsx, argx_int, argx_bool, argx_fn, argx_ro, argx_nils, eq_self, true_and, and_true, and_self]; try trivial) ?_
    intro v m nx ns b1 b2 b3 gr
    simp (maxSteps := 1000000) -implicitDefEqProofs only [go_sem, Nat.reduceBEq, Nat.reduceLT, Nat.reduceLeDiff, Nat.reduceEqDiff, Nat.reduceAdd, Nat.reduceMul, Nat.reduceSub, reduceIte, reduceCtorEq, Int.reduceLT, Int.reduceLE, Int.reduceToNat, Int.reduceAdd, Int.reduceSub, Int.reduceNeg, Int.reduceEq, Int.reduceNe, Int.reduceBEq, Int.reduceBNe, BitVec.reduceBEq, BitVec.reduceBNe, BitVec.reduceOfInt, BitVec.reduceSetWidth, -List.reduceReplicate]
    exact Fin.by b1 b2 idG (fun _ _ => rfl)
  have f1 : (c == 1) = false := by simpa using h1
  by_cases h4 : c = 4
  · subst h4
    simp (maxSteps := 1000000) -implicitDefEqProofs only [go_sem, Nat.reduceBEq, Nat.reduceLT, Nat.reduceLeDiff, Nat.reduceEqDiff, Nat.reduceAdd, Nat.reduceMul, Nat.reduceSub, reduceIte, reduceCtorEq, Int.reduceLT, Int.reduceLE, Int.reduceToNat, Int.reduceAdd, Int.reduceSub, Int.reduceNeg, Int.reduceEq, Int.reduceNe, Int.reduceBEq, Int.reduceBNe, BitVec.reduceBEq, BitVec.reduceBNe, BitVec.reduceOfInt, BitVec.reduceSetWidth, -List.reduceReplicate, Try.results22, Try.ntmps22]
    refine (rsumOk64 b (by omega)).flatv (by simp only [argsx, argx_int, argx_bool, argx_fn, argx_ro, argx_nils, eq_self, true_and, and_true, and_self]; try trivial) (fun _ => rfl) rfl ?_
    simp (maxSteps := 1000000) -implicitDefEqProofs only [go_sem, Nat.reduceBEq, Nat.reduceLT, Nat.reduceLeDiff, Nat.reduceEqDiff, Nat.reduceAdd, Nat.reduceMul, Nat.reduceSub, reduceIte, reduceCtorEq, Int.reduceLT, Int.reduceLE, Int.reduceToNat, Int.reduceAdd, Int.reduceSub, Int.reduceNeg, Int.reduceEq, Int.reduceNe, Int.reduceBEq, Int.reduceBNe, BitVec.reduceBEq, BitVec.reduceBNe, BitVec.reduceOfInt, BitVec.reduceSetWidth, -List.reduceReplicate, ron64_eq]
    refine CallG.byK (lowROk 8 (by decide) (on64 0 b)) rfl nd0 lt0 (by simp only [argsx, argx_int, argx_bool, argx_fn, argx_ro, argx_nils, eq_self, true_and, and_true, and_self]; try trivial) ?_
    intro v m nx ns b1 b2 b3 gr
    simp (maxSteps := 1000000) -implicitDefEqProofs only [go_sem, Nat.reduceBEq, Nat.reduceLT, Nat.reduceLeDiff, Nat.reduceEqDiff, Nat.reduceAdd, Nat.reduceMul, Nat.reduceSub, reduceIte, reduceCtorEq, Int.reduceLT, Int.reduceLE, Int.reduceToNat, Int.reduceAdd, Int.reduceSub, Int.reduceNeg, Int.reduceEq, Int.reduceNe, Int.reduceBEq, Int.reduceBNe, BitVec.reduceBEq, BitVec.reduceBNe, BitVec.reduceOfInt, BitVec.reduceSetWidth, -List.reduceReplicate]
    exact Fin.by b1 b2 idG (fun _ _ => rfl)
  have f4 : (c == 4) = false := by simpa using h4
  by_cases h10 : c = 10
  · subst h10
    simp (maxSteps := 1000000) -implicitDefEqProofs only [go_sem, Nat.reduceBEq, Nat.reduceLT, Nat.reduceLeDiff, Nat.reduceEqDiff, Nat.reduceAdd, Nat.reduceMul, Nat.reduceSub, reduceIte, reduceCtorEq, Int.reduceLT, Int.reduceLE, Int.reduceToNat, Int.reduceAdd, Int.reduceSub, Int.reduceNeg, Int.reduceEq, Int.reduceNe, Int.reduceBEq, Int.reduceBNe, BitVec.reduceBEq, BitVec.reduceBNe, BitVec.reduceOfInt, BitVec.reduceSetWidth, -List.reduceReplicate, Try.results22, Try.ntmps22]
    refine CallOk.byK (rshaOk b hb) rfl nd0 lt0 (by simp only [argsx, argx_int, argx_bool, argx_fn, argx_ro, argx_nils, eq_self, true_and, and_true, and_self]; try trivial) ?_
    intro v m nx ns b1 b2 b3 gr
    simp (maxSteps := 1000000) -implicitDefEqProofs only [go_sem, Nat.reduceBEq, Nat.reduceLT, Nat.reduceLeDiff, Nat.reduceEqDiff, Nat.reduceAdd, Nat.reduceMul, Nat.reduceSub, reduceIte, reduceCtorEq, Int.reduceLT, Int.reduceLE, Int.reduceToNat, Int.reduceAdd, Int.reduceSub, Int.reduceNeg, Int.reduceEq, Int.reduceNe, Int.reduceBEq, Int.reduceBNe, BitVec.reduceBEq, BitVec.reduceBNe, BitVec.reduceOfInt, BitVec.reduceSetWidth, -List.reduceReplicate]
    have e : chk 10 b = shaR b := (show chk 10 b = shaP b from rfl).trans (sha_eq b)
    rw [e]
    exact Fin.by b1 b2 idG (fun _ _ => rfl)
  have f10 : (c == 10) = false := by simpa using h10
  simp (maxSteps := 1000000) -implicitDefEqProofs only [go_sem, Nat.reduceBEq, Nat.reduceLT, Nat.reduceLeDiff, Nat.reduceEqDiff, Nat.reduceAdd, Nat.reduceMul, Nat.reduceSub, reduceIte, reduceCtorEq, Int.reduceLT, Int.reduceLE, Int.reduceToNat, Int.reduceAdd, Int.reduceSub, Int.reduceNeg, Int.reduceEq, Int.reduceNe, Int.reduceBEq, Int.reduceBNe, BitVec.reduceBEq, BitVec.reduceBNe, BitVec.reduceOfInt, BitVec.reduceSetWidth, -List.reduceReplicate, Try.results22, Try.ntmps22, f1, f4, f10]
  have e : chk c b = [] := by rw [chk, if_neg h1, if_neg h4, if_neg h10]
  rw [e]
  exact Fin.by (.nil _) (fun e => by cases e) idG (fun _ _ => rfl)
theorem flagsROk (b : List (BitVec 8)) (hb : 2 ≤ b.length) : CallG false Try.prog 83 [.ro b.length (bvs .u8 b)] (fun _ => true) [] 0 fun v m nx => v = .tup [.int .i64 (rdF b).1, .int .i64 (rdF b).2] ∧ m = [] ∧ nx = 0 := by
  refine fn_okG Try.func83 rfl (by show 1 ≤ _; decide) ?_
  have w1 : IntKind.i64.wrap ((b.getD 1 0).toNat : Int) = ((b.getD 1 0).toNat : Int) := by have := (b.getD 1 0).isLt; rw [wrap_i64] <;> omega
  have hd : 0 < (List.drop 1 b).length := by rw [List.length_drop]; omega
  have sz := sizeZ_neg ((b.getD 1 0).toNat : Int)
  by_cases h0 : b.getD 0 0 = 0#8
  · have f0 : decide (((b.getD 0 0).toNat : Int) > 0) = false := by rw [h0]; rfl
    cases h1 : isC ((b.getD 1 0).toNat : Int)
    · rw [h1] at sz
      simp (maxSteps := 1000000) -implicitDefEqProofs only [go_sem, Nat.reduceBEq, Nat.reduceLT, Nat.reduceLeDiff, Nat.reduceEqDiff, Nat.reduceAdd, Nat.reduceMul, Nat.reduceSub, reduceIte, reduceCtorEq, Int.reduceLT, Int.reduceLE, Int.reduceToNat, Int.reduceAdd, Int.reduceSub, Int.reduceNeg, Int.reduceEq, Int.reduceNe, Int.reduceBEq, Int.reduceBNe, BitVec.reduceBEq, BitVec.reduceBNe, BitVec.reduceOfInt, BitVec.reduceSetWidth, -List.reduceReplicate, Try.results83, Try.ntmps83, f0, w1]
      refine ⟨by omega, by omega, by omega, by omega, by omega, hd, ?_⟩
      refine (sizeROk _).flat0 ⟨rfl, trivial⟩ (fun _ => rfl) rfl ?_
      simp (maxSteps := 1000000) -implicitDefEqProofs only [go_sem, Nat.reduceBEq, Nat.reduceLT, Nat.reduceLeDiff, Nat.reduceEqDiff, Nat.reduceAdd, Nat.reduceMul, Nat.reduceSub, reduceIte, reduceCtorEq, Int.reduceLT, Int.reduceLE, Int.reduceToNat, Int.reduceAdd, Int.reduceSub, Int.reduceNeg, Int.reduceEq, Int.reduceNe, Int.reduceBEq, Int.reduceBNe, BitVec.reduceBEq, BitVec.reduceBNe, BitVec.reduceOfInt, BitVec.reduceSetWidth, -List.reduceReplicate, sz]
      have e : rdF b = (0, 5) := by rw [rdF, if_neg (by rw [h1]; exact fun h => by cases h.2)]
      rw [e]
      exact Fin.flatv (fun _ => rfl) (fun _ => rfl) ⟨rfl, rfl, rfl⟩
    · rw [h1] at sz
      simp (maxSteps := 1000000) -implicitDefEqProofs only [go_sem, Nat.reduceBEq, Nat.reduceLT, Nat.reduceLeDiff, Nat.reduceEqDiff, Nat.reduceAdd, Nat.reduceMul, Nat.reduceSub, reduceIte, reduceCtorEq, Int.reduceLT, Int.reduceLE, Int.reduceToNat, Int.reduceAdd, Int.reduceSub, Int.reduceNeg, Int.reduceEq, Int.reduceNe, Int.reduceBEq, Int.reduceBNe, BitVec.reduceBEq, BitVec.reduceBNe, BitVec.reduceOfInt, BitVec.reduceSetWidth, -List.reduceReplicate, Try.results83, Try.ntmps83, f0, w1]
      refine ⟨by omega, by omega, by omega, by omega, by omega, hd, ?_⟩
      refine (sizeROk _).flat0 ⟨rfl, trivial⟩ (fun _ => rfl) rfl ?_
      simp (maxSteps := 1000000) -implicitDefEqProofs only [go_sem, Nat.reduceBEq, Nat.reduceLT, Nat.reduceLeDiff, Nat.reduceEqDiff, Nat.reduceAdd, Nat.reduceMul, Nat.reduceSub, reduceIte, reduceCtorEq, Int.reduceLT, Int.reduceLE, Int.reduceToNat, Int.reduceAdd, Int.reduceSub, Int.reduceNeg, Int.reduceEq, Int.reduceNe, Int.reduceBEq, Int.reduceBNe, BitVec.reduceBEq, BitVec.reduceBNe, BitVec.reduceOfInt, BitVec.reduceSetWidth, -List.reduceReplicate, sz, w1]
      refine ⟨by omega, by omega, hd, ?_⟩
      have e : rdF b = (((b.getD 1 0).toNat : Int), 0) := by rw [rdF, if_pos ⟨h0, h1⟩]
      rw [e]
      exact Fin.flatv (fun _ => rfl) (fun _ => rfl) ⟨rfl, rfl, rfl⟩
  · have f0 : decide (((b.getD 0 0).toNat : Int) > 0) = true := by
      have : (b.getD 0 0).toNat ≠ 0 := fun e => h0 (BitVec.eq_of_toNat_eq e)
      exact decide_eq_true (by omega)
    simp (maxSteps := 1000000) -implicitDefEqProofs only [go_sem, Nat.reduceBEq, Nat.reduceLT, Nat.reduceLeDiff, Nat.reduceEqDiff, Nat.reduceAdd, Nat.reduceMul, Nat.reduceSub, reduceIte, reduceCtorEq, Int.reduceLT, Int.reduceLE, Int.reduceToNat, Int.reduceAdd, Int.reduceSub, Int.reduceNeg, Int.reduceEq, Int.reduceNe, Int.reduceBEq, Int.reduceBNe, BitVec.reduceBEq, BitVec.reduceBNe, BitVec.reduceOfInt, BitVec.reduceSetWidth, -List.reduceReplicate, Try.results83, Try.ntmps83, f0]
    refine ⟨by omega, by omega, by omega, ?_⟩
    have e : rdF b = (0, 5) := by rw [rdF, if_neg (fun h => h0 h.1)]
    rw [e]
    exact Fin.flatv (fun _ => rfl) (fun _ => rfl) ⟨rfl, rfl, rfl⟩
theorem numberROk (b : List (BitVec 8)) (hb : b.length = 4) : CallG false Try.prog 84 [.ro 4 (bvs .u8 b)] (fun _ => true) [] 0 fun v m nx => v = .int .u64 ((numN b 4 : Nat) : Int) ∧ m = [] ∧ nx = 0 := by
  refine fn_okG Try.func84 rfl (by show 1 ≤ _; decide) ?_
  simp (maxSteps := 1000000) -implicitDefEqProofs only [go_sem, Nat.reduceBEq, Nat.reduceLT, Nat.reduceLeDiff, Nat.reduceEqDiff, Nat.reduceAdd, Nat.reduceMul, Nat.reduceSub, reduceIte, reduceCtorEq, Int.reduceLT, Int.reduceLE, Int.reduceToNat, Int.reduceAdd, Int.reduceSub, Int.reduceNeg, Int.reduceEq, Int.reduceNe, Int.reduceBEq, Int.reduceBNe, BitVec.reduceBEq, BitVec.reduceBNe, BitVec.reduceOfInt, BitVec.reduceSetWidth, -List.reduceReplicate, Try.results84, Try.ntmps84]
  refine LoopOk.up 4 (fun i => ([(4, .int .i64 (3 - (i : Nat))), (3, .int .u64 (((BitVec.ofNat 64 (numN b i)).toNat : Nat) : Int)), (0, .ro 4 (bvs .u8 b))], [], 0)) (Le.sameT (Nat.zero_le _) ⟨rfl, rfl, rfl, trivial⟩ (memSame_slf List.nodup_nil) List.nodup_nil) ?_
  intro i hi
  rcases Nat.lt_or_ge i 4 with h | h
  · have g2 : decide (3 - (i : Int) ≥ 0) = true := decide_eq_true (by omega)
    have w1 : IntKind.i64.wrap (3 - (i : Int) - 1) = 3 - ((i + 1 : Nat) : Int) := by rw [wrap_i64] <;> omega
    have t1 : (3 - (i : Int)).toNat = 3 - i := by omega
    have hst : 256#64 * BitVec.ofNat 64 (numN b i) + BitVec.setWidth 64 (b.getD (3 - i) 0) = BitVec.ofNat 64 (numN b (i + 1)) := by
      apply BitVec.eq_of_toNat_eq
      have := (b.getD (3 - i) 0).isLt
      rw [BitVec.toNat_add, BitVec.toNat_mul, BitVec.toNat_ofNat, BitVec.toNat_ofNat, BitVec.toNat_ofNat, BitVec.toNat_setWidth, numN]
      omega
    have hdl : 0 < (List.drop (3 - i) b).length := by rw [List.length_drop]; omega
    simp (maxSteps := 1000000) -implicitDefEqProofs only [go_sem, Nat.reduceBEq, Nat.reduceLT, Nat.reduceLeDiff, Nat.reduceEqDiff, Nat.reduceAdd, Nat.reduceMul, Nat.reduceSub, reduceIte, reduceCtorEq, Int.reduceLT, Int.reduceLE, Int.reduceToNat, Int.reduceAdd, Int.reduceSub, Int.reduceNeg, Int.reduceEq, Int.reduceNe, Int.reduceBEq, Int.reduceBNe, BitVec.reduceBEq, BitVec.reduceBNe, BitVec.reduceOfInt, BitVec.reduceSetWidth, -List.reduceReplicate, g2, w1, t1, hst]
    refine ⟨by omega, by omega, hdl, ?_⟩
    exact UpK_normal h (Le.sameT (Nat.zero_le _) ⟨rfl, rfl, rfl, trivial⟩ (memSame_slf List.nodup_nil) List.nodup_nil)
  · have hi4 : i = 4 := by omega
    subst hi4
    have hS : numN b 4 < 4294967296 := numN_lt b 4
    have g2 : decide ((-1 : Int) ≥ 0) = false := by decide
    have e : (BitVec.ofNat 64 (numN b 4)).toNat = numN b 4 := by rw [BitVec.toNat_ofNat]; omega
    simp (maxSteps := 1000000) -implicitDefEqProofs only [go_sem, Nat.reduceBEq, Nat.reduceLT, Nat.reduceLeDiff, Nat.reduceEqDiff, Nat.reduceAdd, Nat.reduceMul, Nat.reduceSub, reduceIte, reduceCtorEq, Int.reduceLT, Int.reduceLE, Int.reduceToNat, Int.reduceAdd, Int.reduceSub, Int.reduceNeg, Int.reduceEq, Int.reduceNe, Int.reduceBEq, Int.reduceBNe, BitVec.reduceBEq, BitVec.reduceBNe, BitVec.reduceOfInt, BitVec.reduceSetWidth, -List.reduceReplicate, g2]
    rw [e]
    exact Fin.flatv (fun _ => rfl) (fun _ => rfl) ⟨rfl, rfl, rfl⟩
theorem argx_roN {m : Mem} {own : List Nat} {f : Nat → Nat} {n n' : Nat} {X : List (BitVec 8)} (h : n = n') : argx m own f (.ro n (bvs .u8 X)) (.ro n' (bvs .u8 X)) := by
  show AV.ro _ _ = renA f (AV.ro _ _)
  simp only [renA, bvs_ren, h]
theorem elB : elemT Try.prog 22 = some 5 := by kernel_rfl
theorem intB : intT Try.prog 5 = some .u8 := by kernel_rfl
theorem strT9 : isStrT Try.prog 9 = true := by kernel_rfl
theorem rdF_take (b : List (BitVec 8)) : rdF (b.take 2) = rdF b := by
  have h0 : (b.take 2).getD 0 0 = b.getD 0 0 := by rw [List.getD_eq_getElem?_getD, List.getElem?_take, if_pos (by decide), ← List.getD_eq_getElem?_getD]
  have h1 : (b.take 2).getD 1 0 = b.getD 1 0 := by rw [List.getD_eq_getElem?_getD, List.getElem?_take, if_pos (by decide), ← List.getD_eq_getElem?_getD]
  unfold rdF
  rw [h0, h1]
theorem numN_take (b : List (BitVec 8)) : ∀ k, k ≤ 4 → numN (b.take 4) k = numN b k
  | 0, _ => rfl
  | k + 1, h => by
    have h1 : (b.take 4).getD (3 - k) 0 = b.getD (3 - k) 0 := by rw [List.getD_eq_getElem?_getD, List.getElem?_take, if_pos (by omega), ← List.getD_eq_getElem?_getD]
    rw [numN, numN, numN_take b k (by omega), h1]
set_option maxHeartbeats 1000000 in
theorem readHeadROk (b : List (BitVec 8)) (hb : b.length ≤ 100000) : CallG false Try.prog 26 [.ro b.length (bvs .u8 b)] (fun _ => true) [] 0 fun v m nx => v = .tup [.int .i64 (rHead b).1, .int .i64 (rHead b).2] ∧ m = [] ∧ nx = 0 := by
  refine fn_okG Try.func26 rfl (by show 1 ≤ _; decide) ?_
  have fin : ∀ {m : Mem} {nx : Nat}, Eng.Fin 0 (fun _ => true) m nx (fun v m nx => v = .tup [.int .i64 (rHead b).1, .int .i64 (rHead b).2] ∧ m = [] ∧ nx = 0) (.tup [.int .i64 (rHead b).1, .int .i64 (rHead b).2]) := Fin.flatv (fun _ => rfl) (fun _ => rfl) ⟨rfl, rfl, rfl⟩
  by_cases hl : b.length < 12
  · have g1 : decide ((b.length : Int) < 12) = true := decide_eq_true (by omega)
    simp (maxSteps := 1000000) -implicitDefEqProofs only [go_sem, Nat.reduceBEq, Nat.reduceLT, Nat.reduceLeDiff, Nat.reduceEqDiff, Nat.reduceAdd, Nat.reduceMul, Nat.reduceSub, reduceIte, reduceCtorEq, Int.reduceLT, Int.reduceLE, Int.reduceToNat, Int.reduceAdd, Int.reduceSub, Int.reduceNeg, Int.reduceEq, Int.reduceNe, Int.reduceBEq, Int.reduceBNe, BitVec.reduceBEq, BitVec.reduceBNe, BitVec.reduceOfInt, BitVec.reduceSetWidth, -List.reduceReplicate, Try.results26, Try.ntmps26, g1]
    have e : rHead b = (0, 2) := by rw [rHead, if_pos hl]
    rw [e] at fin ⊢
    exact fin
  have g1 : decide ((b.length : Int) < 12) = false := decide_eq_false (by omega)
  have l6 : (b.take 6).length = 6 := by rw [List.length_take]; omega
  have l2 : ((b.drop 6).take 2).length = 2 := by rw [List.length_take, List.length_drop]; omega
  have l4 : ((b.drop 8).take 4).length = 4 := by rw [List.length_take, List.length_drop]; omega
  have tt6 : List.take 6 (List.take 6 b) = List.take 6 b := by rw [List.take_take]; rfl
  have tt4 : List.take 4 (List.take 4 (List.drop 8 b)) = List.take 4 (List.drop 8 b) := by rw [List.take_take]; rfl
  have mg : (⟨#[253, 55, 122, 88, 90, 0]⟩ : ByteArray) = strOf magicL := rfl
  simp (maxSteps := 1000000) -implicitDefEqProofs only [go_sem, Nat.reduceBEq, Nat.reduceLT, Nat.reduceLeDiff, Nat.reduceEqDiff, Nat.reduceAdd, Nat.reduceMul, Nat.reduceSub, reduceIte, reduceCtorEq, Int.reduceLT, Int.reduceLE, Int.reduceToNat, Int.reduceAdd, Int.reduceSub, Int.reduceNeg, Int.reduceEq, Int.reduceNe, Int.reduceBEq, Int.reduceBNe, BitVec.reduceBEq, BitVec.reduceBNe, BitVec.reduceOfInt, BitVec.reduceSetWidth, -List.reduceReplicate, Try.results26, Try.ntmps26, g1, u8s_bvs, strOf_def, tt6, mg, strEq]
  refine ⟨by omega, by omega, ?_⟩
  by_cases hm : b.take 6 = magicL
  rotate_left
  · simp (maxSteps := 1000000) -implicitDefEqProofs only [go_sem, Nat.reduceBEq, Nat.reduceLT, Nat.reduceLeDiff, Nat.reduceEqDiff, Nat.reduceAdd, Nat.reduceMul, Nat.reduceSub, reduceIte, reduceCtorEq, Int.reduceLT, Int.reduceLE, Int.reduceToNat, Int.reduceAdd, Int.reduceSub, Int.reduceNeg, Int.reduceEq, Int.reduceNe, Int.reduceBEq, Int.reduceBNe, BitVec.reduceBEq, BitVec.reduceBNe, BitVec.reduceOfInt, BitVec.reduceSetWidth, -List.reduceReplicate, decide_eq_false hm]
    have e : rHead b = (0, 3) := by rw [rHead, if_neg hl, if_neg hm]
    rw [e] at fin ⊢
    exact fin
  simp (maxSteps := 1000000) -implicitDefEqProofs only [go_sem, Nat.reduceBEq, Nat.reduceLT, Nat.reduceLeDiff, Nat.reduceEqDiff, Nat.reduceAdd, Nat.reduceMul, Nat.reduceSub, reduceIte, reduceCtorEq, Int.reduceLT, Int.reduceLE, Int.reduceToNat, Int.reduceAdd, Int.reduceSub, Int.reduceNeg, Int.reduceEq, Int.reduceNe, Int.reduceBEq, Int.reduceBNe, BitVec.reduceBEq, BitVec.reduceBNe, BitVec.reduceOfInt, BitVec.reduceSetWidth, -List.reduceReplicate, decide_eq_true hm]
  refine ⟨Fx.mixed, .inl ⟨[(0, false), (1, false), (4, false), (5, false), (6, false), (2, true), (3, true), (7, false)], [], by kernel_rfl, (fun n hn => by cases hn), ?_⟩⟩
  simp (maxSteps := 1000000) -implicitDefEqProofs only [go_sem, Nat.reduceBEq, Nat.reduceLT, Nat.reduceLeDiff, Nat.reduceEqDiff, Nat.reduceAdd, Nat.reduceMul, Nat.reduceSub, reduceIte, reduceCtorEq, Int.reduceLT, Int.reduceLE, Int.reduceToNat, Int.reduceAdd, Int.reduceSub, Int.reduceNeg, Int.reduceEq, Int.reduceNe, Int.reduceBEq, Int.reduceBNe, BitVec.reduceBEq, BitVec.reduceBNe, BitVec.reduceOfInt, BitVec.reduceSetWidth, -List.reduceReplicate, u8s_bvs, strOf_def, tt4]
  refine ⟨by omega, by omega, by omega, ?_⟩
  refine CallG.byK (refSumOk 1 ((b.drop 6).take 2) (by omega)) rfl nd0 lt0 ⟨rfl, argx_roX l2.symm, trivial⟩ ?_
  intro v2 m2 nx2 ns2 d1 d2 d3 gr2
  simp (maxSteps := 1000000) -implicitDefEqProofs only [go_sem, Nat.reduceBEq, Nat.reduceLT, Nat.reduceLeDiff, Nat.reduceEqDiff, Nat.reduceAdd, Nat.reduceMul, Nat.reduceSub, reduceIte, reduceCtorEq, Int.reduceLT, Int.reduceLE, Int.reduceToNat, Int.reduceAdd, Int.reduceSub, Int.reduceNeg, Int.reduceEq, Int.reduceNe, Int.reduceBEq, Int.reduceBNe, BitVec.reduceBEq, BitVec.reduceBNe, BitVec.reduceOfInt, BitVec.reduceSetWidth, -List.reduceReplicate]
  rw [d1.cvx elB intB strT9]
  simp (maxSteps := 1000000) -implicitDefEqProofs only [go_sem, Nat.reduceBEq, Nat.reduceLT, Nat.reduceLeDiff, Nat.reduceEqDiff, Nat.reduceAdd, Nat.reduceMul, Nat.reduceSub, reduceIte, reduceCtorEq, Int.reduceLT, Int.reduceLE, Int.reduceToNat, Int.reduceAdd, Int.reduceSub, Int.reduceNeg, Int.reduceEq, Int.reduceNe, Int.reduceBEq, Int.reduceBNe, BitVec.reduceBEq, BitVec.reduceBNe, BitVec.reduceOfInt, BitVec.reduceSetWidth, -List.reduceReplicate, strEq]
  by_cases hc : (b.drop 8).take 4 = chk 1 ((b.drop 6).take 2)
  rotate_left
  · have hc' : ¬ chk 1 ((b.drop 6).take 2) = (b.drop 8).take 4 := fun e => hc e.symm
    simp (maxSteps := 1000000) -implicitDefEqProofs only [go_sem, Nat.reduceBEq, Nat.reduceLT, Nat.reduceLeDiff, Nat.reduceEqDiff, Nat.reduceAdd, Nat.reduceMul, Nat.reduceSub, reduceIte, reduceCtorEq, Int.reduceLT, Int.reduceLE, Int.reduceToNat, Int.reduceAdd, Int.reduceSub, Int.reduceNeg, Int.reduceEq, Int.reduceNe, Int.reduceBEq, Int.reduceBNe, BitVec.reduceBEq, BitVec.reduceBNe, BitVec.reduceOfInt, BitVec.reduceSetWidth, -List.reduceReplicate, decide_eq_false hc']
    have e : rHead b = (0, 4) := by rw [rHead, if_neg hl, if_pos hm, if_neg hc]
    rw [e] at fin ⊢
    exact fin
  simp (maxSteps := 1000000) -implicitDefEqProofs only [go_sem, Nat.reduceBEq, Nat.reduceLT, Nat.reduceLeDiff, Nat.reduceEqDiff, Nat.reduceAdd, Nat.reduceMul, Nat.reduceSub, reduceIte, reduceCtorEq, Int.reduceLT, Int.reduceLE, Int.reduceToNat, Int.reduceAdd, Int.reduceSub, Int.reduceNeg, Int.reduceEq, Int.reduceNe, Int.reduceBEq, Int.reduceBNe, BitVec.reduceBEq, BitVec.reduceBNe, BitVec.reduceOfInt, BitVec.reduceSetWidth, -List.reduceReplicate, decide_eq_true hc.symm]
  refine ⟨by omega, ?_⟩
  refine (flagsROk ((b.drop 6).take 2) (by omega)).flat0 ⟨argx_roX l2.symm, trivial⟩ (fun _ => rfl) rfl ?_
  simp (maxSteps := 1000000) -implicitDefEqProofs only [go_sem, Nat.reduceBEq, Nat.reduceLT, Nat.reduceLeDiff, Nat.reduceEqDiff, Nat.reduceAdd, Nat.reduceMul, Nat.reduceSub, reduceIte, reduceCtorEq, Int.reduceLT, Int.reduceLE, Int.reduceToNat, Int.reduceAdd, Int.reduceSub, Int.reduceNeg, Int.reduceEq, Int.reduceNe, Int.reduceBEq, Int.reduceBNe, BitVec.reduceBEq, BitVec.reduceBNe, BitVec.reduceOfInt, BitVec.reduceSetWidth, -List.reduceReplicate]
  have e : rHead b = rdF ((b.drop 6).take 2) := by rw [rHead, if_neg hl, if_pos hm, if_pos hc, rdF_take]
  rw [e] at fin ⊢
  exact fin
set_option maxHeartbeats 1000000 in
theorem readFootROk (b : List (BitVec 8)) (hb : b.length ≤ 100000) : CallG false Try.prog 28 [.ro b.length (bvs .u8 b)] (fun _ => true) [] 0 fun v m nx => v = .tup [.int .i64 (rFoot b).1, .int .i64 (rFoot b).2.1, .int .i64 (rFoot b).2.2] ∧ m = [] ∧ nx = 0 := by
  refine fn_okG Try.func28 rfl (by show 1 ≤ _; decide) ?_
  have fin : ∀ {m : Mem} {nx : Nat}, Eng.Fin 0 (fun _ => true) m nx (fun v m nx => v = .tup [.int .i64 (rFoot b).1, .int .i64 (rFoot b).2.1, .int .i64 (rFoot b).2.2] ∧ m = [] ∧ nx = 0) (.tup [.int .i64 (rFoot b).1, .int .i64 (rFoot b).2.1, .int .i64 (rFoot b).2.2]) := Fin.flatv (fun _ => rfl) (fun _ => rfl) ⟨rfl, rfl, rfl⟩
  by_cases hl : b.length < 12
  · have g1 : decide ((b.length : Int) < 12) = true := decide_eq_true (by omega)
    simp (maxSteps := 1000000) -implicitDefEqProofs only [go_sem, Nat.reduceBEq, Nat.reduceLT, Nat.reduceLeDiff, Nat.reduceEqDiff, Nat.reduceAdd, Nat.reduceMul, Nat.reduceSub, reduceIte, reduceCtorEq, Int.reduceLT, Int.reduceLE, Int.reduceToNat, Int.reduceAdd, Int.reduceSub, Int.reduceNeg, Int.reduceEq, Int.reduceNe, Int.reduceBEq, Int.reduceBNe, BitVec.reduceBEq, BitVec.reduceBNe, BitVec.reduceOfInt, BitVec.reduceSetWidth, -List.reduceReplicate, Try.results28, Try.ntmps28, g1]
    have e : rFoot b = (0, 0, 2) := by rw [rFoot, if_pos hl]
    rw [e] at fin ⊢
    exact fin
  have g1 : decide ((b.length : Int) < 12) = false := decide_eq_false (by omega)
  have l2 : ((b.drop 10).take 2).length = 2 := by rw [List.length_take, List.length_drop]; omega
  have l28 : ((b.drop 8).take 2).length = 2 := by rw [List.length_take, List.length_drop]; omega
  have l44 : ((b.drop 4).take 4).length = 4 := by rw [List.length_take, List.length_drop]; omega
  have l4 : (b.take 4).length = 4 := by rw [List.length_take]; omega
  have l6 : ((b.drop 4).take 6).length = 6 := by rw [List.length_take, List.length_drop]; omega
  have tt2 : List.take 2 (List.take 2 (List.drop 10 b)) = List.take 2 (List.drop 10 b) := by rw [List.take_take]; rfl
  have tt4 : List.take 4 (List.take 4 b) = List.take 4 b := by rw [List.take_take]; rfl
  have mg : (⟨#[89, 90]⟩ : ByteArray) = strOf endsL := rfl
  simp (maxSteps := 1000000) -implicitDefEqProofs only [go_sem, Nat.reduceBEq, Nat.reduceLT, Nat.reduceLeDiff, Nat.reduceEqDiff, Nat.reduceAdd, Nat.reduceMul, Nat.reduceSub, reduceIte, reduceCtorEq, Int.reduceLT, Int.reduceLE, Int.reduceToNat, Int.reduceAdd, Int.reduceSub, Int.reduceNeg, Int.reduceEq, Int.reduceNe, Int.reduceBEq, Int.reduceBNe, BitVec.reduceBEq, BitVec.reduceBNe, BitVec.reduceOfInt, BitVec.reduceSetWidth, -List.reduceReplicate, Try.results28, Try.ntmps28, g1, u8s_bvs, strOf_def, tt2, mg, strEq]
  refine ⟨by omega, by omega, ?_⟩
  by_cases hm : (b.drop 10).take 2 = endsL
  rotate_left
  · simp (maxSteps := 1000000) -implicitDefEqProofs only [go_sem, Nat.reduceBEq, Nat.reduceLT, Nat.reduceLeDiff, Nat.reduceEqDiff, Nat.reduceAdd, Nat.reduceMul, Nat.reduceSub, reduceIte, reduceCtorEq, Int.reduceLT, Int.reduceLE, Int.reduceToNat, Int.reduceAdd, Int.reduceSub, Int.reduceNeg, Int.reduceEq, Int.reduceNe, Int.reduceBEq, Int.reduceBNe, BitVec.reduceBEq, BitVec.reduceBNe, BitVec.reduceOfInt, BitVec.reduceSetWidth, -List.reduceReplicate, decide_eq_false hm]
    have e : rFoot b = (0, 0, 3) := by rw [rFoot, if_neg hl, if_neg hm]
    rw [e] at fin ⊢
    exact fin
  simp (maxSteps := 1000000) -implicitDefEqProofs only [go_sem, Nat.reduceBEq, Nat.reduceLT, Nat.reduceLeDiff, Nat.reduceEqDiff, Nat.reduceAdd, Nat.reduceMul, Nat.reduceSub, reduceIte, reduceCtorEq, Int.reduceLT, Int.reduceLE, Int.reduceToNat, Int.reduceAdd, Int.reduceSub, Int.reduceNeg, Int.reduceEq, Int.reduceNe, Int.reduceBEq, Int.reduceBNe, BitVec.reduceBEq, BitVec.reduceBNe, BitVec.reduceOfInt, BitVec.reduceSetWidth, -List.reduceReplicate, decide_eq_true hm]
  refine ⟨Fx.mixed, .inl ⟨[(0, false), (1, false), (4, false), (5, false), (6, false), (2, true), (3, true), (7, false)], [], by kernel_rfl, (fun n hn => by cases hn), ?_⟩⟩
  simp (maxSteps := 1000000) -implicitDefEqProofs only [go_sem, Nat.reduceBEq, Nat.reduceLT, Nat.reduceLeDiff, Nat.reduceEqDiff, Nat.reduceAdd, Nat.reduceMul, Nat.reduceSub, reduceIte, reduceCtorEq, Int.reduceLT, Int.reduceLE, Int.reduceToNat, Int.reduceAdd, Int.reduceSub, Int.reduceNeg, Int.reduceEq, Int.reduceNe, Int.reduceBEq, Int.reduceBNe, BitVec.reduceBEq, BitVec.reduceBNe, BitVec.reduceOfInt, BitVec.reduceSetWidth, -List.reduceReplicate, u8s_bvs, strOf_def, tt4]
  refine ⟨by omega, by omega, by omega, ?_⟩
  refine CallG.byK (refSumOk 1 ((b.drop 4).take 6) (by omega)) rfl nd0 lt0 ⟨rfl, argx_roX l6.symm, trivial⟩ ?_
  intro v2 m2 nx2 ns2 d1 d2 d3 gr2
  simp (maxSteps := 1000000) -implicitDefEqProofs only [go_sem, Nat.reduceBEq, Nat.reduceLT, Nat.reduceLeDiff, Nat.reduceEqDiff, Nat.reduceAdd, Nat.reduceMul, Nat.reduceSub, reduceIte, reduceCtorEq, Int.reduceLT, Int.reduceLE, Int.reduceToNat, Int.reduceAdd, Int.reduceSub, Int.reduceNeg, Int.reduceEq, Int.reduceNe, Int.reduceBEq, Int.reduceBNe, BitVec.reduceBEq, BitVec.reduceBNe, BitVec.reduceOfInt, BitVec.reduceSetWidth, -List.reduceReplicate]
  rw [d1.cvx elB intB strT9]
  simp (maxSteps := 1000000) -implicitDefEqProofs only [go_sem, Nat.reduceBEq, Nat.reduceLT, Nat.reduceLeDiff, Nat.reduceEqDiff, Nat.reduceAdd, Nat.reduceMul, Nat.reduceSub, reduceIte, reduceCtorEq, Int.reduceLT, Int.reduceLE, Int.reduceToNat, Int.reduceAdd, Int.reduceSub, Int.reduceNeg, Int.reduceEq, Int.reduceNe, Int.reduceBEq, Int.reduceBNe, BitVec.reduceBEq, BitVec.reduceBNe, BitVec.reduceOfInt, BitVec.reduceSetWidth, -List.reduceReplicate, strEq]
  by_cases hc : b.take 4 = chk 1 ((b.drop 4).take 6)
  rotate_left
  · have hc' : ¬ chk 1 ((b.drop 4).take 6) = b.take 4 := fun e => hc e.symm
    simp (maxSteps := 1000000) -implicitDefEqProofs only [go_sem, Nat.reduceBEq, Nat.reduceLT, Nat.reduceLeDiff, Nat.reduceEqDiff, Nat.reduceAdd, Nat.reduceMul, Nat.reduceSub, reduceIte, reduceCtorEq, Int.reduceLT, Int.reduceLE, Int.reduceToNat, Int.reduceAdd, Int.reduceSub, Int.reduceNeg, Int.reduceEq, Int.reduceNe, Int.reduceBEq, Int.reduceBNe, BitVec.reduceBEq, BitVec.reduceBNe, BitVec.reduceOfInt, BitVec.reduceSetWidth, -List.reduceReplicate, decide_eq_false hc']
    have e : rFoot b = (0, 0, 4) := by rw [rFoot, if_neg hl, if_pos hm, if_neg hc]
    rw [e] at fin ⊢
    exact fin
  simp (maxSteps := 1000000) -implicitDefEqProofs only [go_sem, Nat.reduceBEq, Nat.reduceLT, Nat.reduceLeDiff, Nat.reduceEqDiff, Nat.reduceAdd, Nat.reduceMul, Nat.reduceSub, reduceIte, reduceCtorEq, Int.reduceLT, Int.reduceLE, Int.reduceToNat, Int.reduceAdd, Int.reduceSub, Int.reduceNeg, Int.reduceEq, Int.reduceNe, Int.reduceBEq, Int.reduceBNe, BitVec.reduceBEq, BitVec.reduceBNe, BitVec.reduceOfInt, BitVec.reduceSetWidth, -List.reduceReplicate, decide_eq_true hc.symm]
  refine ⟨by omega, ?_⟩
  refine (flagsROk ((b.drop 8).take 2) (by omega)).flat0 ⟨argx_roX l28.symm, trivial⟩ (fun _ => rfl) rfl ?_
  rw [rdF_take]
  by_cases he : (rdF (b.drop 8)).2 = 0
  rotate_left
  · have f1 : ((rdF (b.drop 8)).2 != 0) = true := by simpa using he
    simp (maxSteps := 1000000) -implicitDefEqProofs only [go_sem, Nat.reduceBEq, Nat.reduceLT, Nat.reduceLeDiff, Nat.reduceEqDiff, Nat.reduceAdd, Nat.reduceMul, Nat.reduceSub, reduceIte, reduceCtorEq, Int.reduceLT, Int.reduceLE, Int.reduceToNat, Int.reduceAdd, Int.reduceSub, Int.reduceNeg, Int.reduceEq, Int.reduceNe, Int.reduceBEq, Int.reduceBNe, BitVec.reduceBEq, BitVec.reduceBNe, BitVec.reduceOfInt, BitVec.reduceSetWidth, -List.reduceReplicate, f1]
    have e : rFoot b = (0, 0, (rdF (b.drop 8)).2) := by rw [rFoot, if_neg hl, if_pos hm, if_pos hc, if_neg he]
    rw [e] at fin ⊢
    exact fin
  have f1 : ((rdF (b.drop 8)).2 != 0) = false := by rw [he]; rfl
  have e : rFoot b = ((rdF (b.drop 8)).1, ((4 * (numN (b.drop 4) 4 + 1) : Nat) : Int), 0) := by rw [rFoot, if_neg hl, if_pos hm, if_pos hc, if_pos he]
  simp (maxSteps := 1000000) -implicitDefEqProofs only [go_sem, Nat.reduceBEq, Nat.reduceLT, Nat.reduceLeDiff, Nat.reduceEqDiff, Nat.reduceAdd, Nat.reduceMul, Nat.reduceSub, reduceIte, reduceCtorEq, Int.reduceLT, Int.reduceLE, Int.reduceToNat, Int.reduceAdd, Int.reduceSub, Int.reduceNeg, Int.reduceEq, Int.reduceNe, Int.reduceBEq, Int.reduceBNe, BitVec.reduceBEq, BitVec.reduceBNe, BitVec.reduceOfInt, BitVec.reduceSetWidth, -List.reduceReplicate, f1]
  refine ⟨by omega, ?_⟩
  refine (numberROk ((b.drop 4).take 4) l44).flat0 ⟨argx_roN rfl, trivial⟩ (fun _ => rfl) rfl ?_
  rw [numN_take _ 4 (Nat.le_refl _)]
  have hN : numN (b.drop 4) 4 < 4294967296 := numN_lt (b.drop 4) 4
  have w1 : IntKind.i64.wrap ((numN (b.drop 4) 4 : Nat) : Int) = ((numN (b.drop 4) 4 : Nat) : Int) := by rw [wrap_i64] <;> omega
  have w2 : IntKind.i64.wrap (4 * ((numN (b.drop 4) 4 : Nat) : Int)) = ((4 * numN (b.drop 4) 4 : Nat) : Int) := by rw [wrap_i64] <;> omega
  have w3 : IntKind.i64.wrap (((4 * numN (b.drop 4) 4 : Nat) : Int) + 4) = ((4 * (numN (b.drop 4) 4 + 1) : Nat) : Int) := by rw [wrap_i64] <;> omega
  simp (maxSteps := 1000000) -implicitDefEqProofs only [go_sem, Nat.reduceBEq, Nat.reduceLT, Nat.reduceLeDiff, Nat.reduceEqDiff, Nat.reduceAdd, Nat.reduceMul, Nat.reduceSub, reduceIte, reduceCtorEq, Int.reduceLT, Int.reduceLE, Int.reduceToNat, Int.reduceAdd, Int.reduceSub, Int.reduceNeg, Int.reduceEq, Int.reduceNe, Int.reduceBEq, Int.reduceBNe, BitVec.reduceBEq, BitVec.reduceBNe, BitVec.reduceOfInt, BitVec.reduceSetWidth, -List.reduceReplicate, w1, w2, w3]
  rw [e] at fin ⊢
  exact fin
end Go.Proofs.Ytmdeoikpiiambaa
