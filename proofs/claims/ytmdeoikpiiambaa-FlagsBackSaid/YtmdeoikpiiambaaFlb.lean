/- A stream's ends: what a head and a foot are read as, by the program. -/
import Derived.Test.YtmdeoikpiiambaaEng35
import Derived.Test.YtmdeoikpiiambaaFla
set_option linter.unusedVariables false
set_option linter.unusedSimpArgs false
set_option maxRecDepth 100000
namespace Go.Proofs.Ytmdeoikpiiambaa
open Go Go.Eng

theorem equalOk (A B : List (BitVec 8)) : CallG false Try.prog 81 [.ro A.length (bvs .u8 A), .ro B.length (bvs .u8 B)] (fun _ => true) [] 0 fun v m nx => v = .bool (decide (A = B)) ∧ m = [] ∧ nx = 0 := by
  refine fn_okG Try.func81 rfl (by show 2 ≤ _; decide) ?_
  have ha : bvs .u8 A = List.take A.length (bvs .u8 A) := by rw [List.take_of_length_le (by rw [bvs_length]; exact Nat.le_refl _)]
  simp (maxSteps := 1000000) -implicitDefEqProofs only [go_sem, Nat.reduceBEq, Nat.reduceLT, Nat.reduceLeDiff, Nat.reduceEqDiff, Nat.reduceAdd, Nat.reduceMul, Nat.reduceSub, reduceIte, reduceCtorEq, Int.reduceLT, Int.reduceLE, Int.reduceToNat, Int.reduceAdd, Int.reduceSub, Int.reduceNeg, Int.reduceEq, Int.reduceNe, Int.reduceBEq, Int.reduceBNe, BitVec.reduceBEq, BitVec.reduceBNe, BitVec.reduceOfInt, BitVec.reduceSetWidth, -List.reduceReplicate, Try.results81, Try.ntmps81, List.take_length, u8s_bvs, strOf_def, strEq]
  exact Fin.flatv (fun _ => rfl) (fun _ => rfl) ⟨rfl, rfl, rfl⟩
def magicL : List (BitVec 8) := [253, 55, 122, 88, 90, 0]
def endsL : List (BitVec 8) := [89, 90]
theorem magicOk : CallG false Try.prog 73 [] (fun _ => true) [] 0 (ByK 5 idG magicL [] 0) := by
  refine fn_okG Try.func73 rfl (Nat.zero_le _) ?_
  simp (maxSteps := 1000000) -implicitDefEqProofs only [go_sem, Nat.reduceBEq, Nat.reduceLT, Nat.reduceLeDiff, Nat.reduceEqDiff, Nat.reduceAdd, Nat.reduceMul, Nat.reduceSub, reduceIte, reduceCtorEq, Int.reduceLT, Int.reduceLE, Int.reduceToNat, Int.reduceAdd, Int.reduceSub, Int.reduceNeg, Int.reduceEq, Int.reduceNe, Int.reduceBEq, Int.reduceBNe, BitVec.reduceBEq, BitVec.reduceBNe, BitVec.reduceOfInt, BitVec.reduceSetWidth, -List.reduceReplicate, Try.results73, Try.ntmps73]
  refine ⟨.inr trivial, ?_⟩
  exact Fin.by (X := magicL) (.row (n := 0) (sp := []) rfl rfl rfl (by decide) rfl) (fun e => by cases e) idG (fun _ _ => rfl)
theorem endsOk : CallG false Try.prog 75 [] (fun _ => true) [] 0 (ByK 5 idG endsL [] 0) := by
  refine fn_okG Try.func75 rfl (Nat.zero_le _) ?_
  simp (maxSteps := 1000000) -implicitDefEqProofs only [go_sem, Nat.reduceBEq, Nat.reduceLT, Nat.reduceLeDiff, Nat.reduceEqDiff, Nat.reduceAdd, Nat.reduceMul, Nat.reduceSub, reduceIte, reduceCtorEq, Int.reduceLT, Int.reduceLE, Int.reduceToNat, Int.reduceAdd, Int.reduceSub, Int.reduceNeg, Int.reduceEq, Int.reduceNe, Int.reduceBEq, Int.reduceBNe, BitVec.reduceBEq, BitVec.reduceBNe, BitVec.reduceOfInt, BitVec.reduceSetWidth, -List.reduceReplicate, Try.results75, Try.ntmps75]
  refine ⟨.inr trivial, ?_⟩
  exact Fin.by (X := endsL) (.row (n := 0) (sp := []) rfl rfl rfl (by decide) rfl) (fun e => by cases e) idG (fun _ _ => rfl)
/-- a check, and an error, of two bytes -/
def rdF (b : List (BitVec 8)) : Int × Int := if b.getD 0 0 = 0#8 ∧ isC ((b.getD 1 0).toNat : Int) = true then (((b.getD 1 0).toNat : Int), 0) else (0, 5)
theorem readOk (b : List (BitVec 8)) (hb : 2 ≤ b.length) : CallG false Try.prog 82 [.ro b.length (bvs .u8 b)] (fun _ => true) [] 0 fun v m nx => v = .tup [.int .i64 (rdF b).1, .int .i64 (rdF b).2] ∧ m = [] ∧ nx = 0 := by
  refine fn_okG Try.func82 rfl (by show 1 ≤ _; decide) ?_
  have w1 : IntKind.i64.wrap ((b.getD 1 0).toNat : Int) = ((b.getD 1 0).toNat : Int) := by have := (b.getD 1 0).isLt; rw [wrap_i64] <;> omega
  have hd : 0 < (List.drop 1 b).length := by rw [List.length_drop]; omega
  by_cases h0 : b.getD 0 0 = 0#8
  · have f0 : (b.getD 0 0 != 0#8) = false := by rw [h0]; rfl
    cases h1 : isC ((b.getD 1 0).toNat : Int)
    · simp (maxSteps := 1000000) -implicitDefEqProofs only [go_sem, Nat.reduceBEq, Nat.reduceLT, Nat.reduceLeDiff, Nat.reduceEqDiff, Nat.reduceAdd, Nat.reduceMul, Nat.reduceSub, reduceIte, reduceCtorEq, Int.reduceLT, Int.reduceLE, Int.reduceToNat, Int.reduceAdd, Int.reduceSub, Int.reduceNeg, Int.reduceEq, Int.reduceNe, Int.reduceBEq, Int.reduceBNe, BitVec.reduceBEq, BitVec.reduceBNe, BitVec.reduceOfInt, BitVec.reduceSetWidth, -List.reduceReplicate, Try.results82, Try.ntmps82, f0, w1]
      refine ⟨by omega, by omega, by omega, by omega, by omega, hd, ?_⟩
      refine (fineOk _).flat0 ⟨rfl, trivial⟩ (fun _ => rfl) rfl ?_
      simp (maxSteps := 1000000) -implicitDefEqProofs only [go_sem, Nat.reduceBEq, Nat.reduceLT, Nat.reduceLeDiff, Nat.reduceEqDiff, Nat.reduceAdd, Nat.reduceMul, Nat.reduceSub, reduceIte, reduceCtorEq, Int.reduceLT, Int.reduceLE, Int.reduceToNat, Int.reduceAdd, Int.reduceSub, Int.reduceNeg, Int.reduceEq, Int.reduceNe, Int.reduceBEq, Int.reduceBNe, BitVec.reduceBEq, BitVec.reduceBNe, BitVec.reduceOfInt, BitVec.reduceSetWidth, -List.reduceReplicate, h1]
      have e : rdF b = (0, 5) := by rw [rdF, if_neg (by rw [h1]; exact fun h => by cases h.2)]
      rw [e]
      exact Fin.flatv (fun _ => rfl) (fun _ => rfl) ⟨rfl, rfl, rfl⟩
    · simp (maxSteps := 1000000) -implicitDefEqProofs only [go_sem, Nat.reduceBEq, Nat.reduceLT, Nat.reduceLeDiff, Nat.reduceEqDiff, Nat.reduceAdd, Nat.reduceMul, Nat.reduceSub, reduceIte, reduceCtorEq, Int.reduceLT, Int.reduceLE, Int.reduceToNat, Int.reduceAdd, Int.reduceSub, Int.reduceNeg, Int.reduceEq, Int.reduceNe, Int.reduceBEq, Int.reduceBNe, BitVec.reduceBEq, BitVec.reduceBNe, BitVec.reduceOfInt, BitVec.reduceSetWidth, -List.reduceReplicate, Try.results82, Try.ntmps82, f0, w1]
      refine ⟨by omega, by omega, by omega, by omega, by omega, hd, ?_⟩
      refine (fineOk _).flat0 ⟨rfl, trivial⟩ (fun _ => rfl) rfl ?_
      simp (maxSteps := 1000000) -implicitDefEqProofs only [go_sem, Nat.reduceBEq, Nat.reduceLT, Nat.reduceLeDiff, Nat.reduceEqDiff, Nat.reduceAdd, Nat.reduceMul, Nat.reduceSub, reduceIte, reduceCtorEq, Int.reduceLT, Int.reduceLE, Int.reduceToNat, Int.reduceAdd, Int.reduceSub, Int.reduceNeg, Int.reduceEq, Int.reduceNe, Int.reduceBEq, Int.reduceBNe, BitVec.reduceBEq, BitVec.reduceBNe, BitVec.reduceOfInt, BitVec.reduceSetWidth, -List.reduceReplicate, h1, w1]
      refine ⟨by omega, by omega, hd, ?_⟩
      have e : rdF b = (((b.getD 1 0).toNat : Int), 0) := by rw [rdF, if_pos ⟨h0, h1⟩]
      rw [e]
      exact Fin.flatv (fun _ => rfl) (fun _ => rfl) ⟨rfl, rfl, rfl⟩
  · have f0 : (b.getD 0 0 != 0#8) = true := by simpa using h0
    simp (maxSteps := 1000000) -implicitDefEqProofs only [go_sem, Nat.reduceBEq, Nat.reduceLT, Nat.reduceLeDiff, Nat.reduceEqDiff, Nat.reduceAdd, Nat.reduceMul, Nat.reduceSub, reduceIte, reduceCtorEq, Int.reduceLT, Int.reduceLE, Int.reduceToNat, Int.reduceAdd, Int.reduceSub, Int.reduceNeg, Int.reduceEq, Int.reduceNe, Int.reduceBEq, Int.reduceBNe, BitVec.reduceBEq, BitVec.reduceBNe, BitVec.reduceOfInt, BitVec.reduceSetWidth, -List.reduceReplicate, Try.results82, Try.ntmps82, f0]
    refine ⟨by omega, by omega, by omega, ?_⟩
    have e : rdF b = (0, 5) := by rw [rdF, if_neg (fun h => h0 h.1)]
    rw [e]
    exact Fin.flatv (fun _ => rfl) (fun _ => rfl) ⟨rfl, rfl, rfl⟩
/-- a check, and an error, of a head -/
def rHead (b : List (BitVec 8)) : Int × Int :=
  if b.length < 12 then (0, 2) else if b.take 6 = magicL then (if (b.drop 8).take 4 = chk 1 ((b.drop 6).take 2) then rdF (b.drop 6) else (0, 4)) else (0, 3)
set_option maxHeartbeats 1000000 in
theorem readHeadOk (b : List (BitVec 8)) (hb : b.length ≤ 100000) : CallG false Try.prog 25 [.ro b.length (bvs .u8 b)] (fun _ => true) [] 0 fun v m nx => v = .tup [.int .i64 (rHead b).1, .int .i64 (rHead b).2] ∧ m = [] ∧ nx = 0 := by
  refine fn_okG Try.func25 rfl (by show 1 ≤ _; decide) ?_
  have fin : ∀ {m : Mem} {nx : Nat}, Eng.Fin 0 (fun _ => true) m nx (fun v m nx => v = .tup [.int .i64 (rHead b).1, .int .i64 (rHead b).2] ∧ m = [] ∧ nx = 0) (.tup [.int .i64 (rHead b).1, .int .i64 (rHead b).2]) := Fin.flatv (fun _ => rfl) (fun _ => rfl) ⟨rfl, rfl, rfl⟩
  by_cases hl : b.length < 12
  · have g1 : decide ((b.length : Int) < 12) = true := decide_eq_true (by omega)
    simp (maxSteps := 1000000) -implicitDefEqProofs only [go_sem, Nat.reduceBEq, Nat.reduceLT, Nat.reduceLeDiff, Nat.reduceEqDiff, Nat.reduceAdd, Nat.reduceMul, Nat.reduceSub, reduceIte, reduceCtorEq, Int.reduceLT, Int.reduceLE, Int.reduceToNat, Int.reduceAdd, Int.reduceSub, Int.reduceNeg, Int.reduceEq, Int.reduceNe, Int.reduceBEq, Int.reduceBNe, BitVec.reduceBEq, BitVec.reduceBNe, BitVec.reduceOfInt, BitVec.reduceSetWidth, -List.reduceReplicate, Try.results25, Try.ntmps25, g1]
    have e : rHead b = (0, 2) := by rw [rHead, if_pos hl]
    rw [e] at fin ⊢
    exact fin
  have g1 : decide ((b.length : Int) < 12) = false := decide_eq_false (by omega)
  have l6 : (b.take 6).length = 6 := by rw [List.length_take]; omega
  have l2 : ((b.drop 6).take 2).length = 2 := by rw [List.length_take, List.length_drop]; omega
  have l4 : ((b.drop 8).take 4).length = 4 := by rw [List.length_take, List.length_drop]; omega
  simp (maxSteps := 1000000) -implicitDefEqProofs only [go_sem, Nat.reduceBEq, Nat.reduceLT, Nat.reduceLeDiff, Nat.reduceEqDiff, Nat.reduceAdd, Nat.reduceMul, Nat.reduceSub, reduceIte, reduceCtorEq, Int.reduceLT, Int.reduceLE, Int.reduceToNat, Int.reduceAdd, Int.reduceSub, Int.reduceNeg, Int.reduceEq, Int.reduceNe, Int.reduceBEq, Int.reduceBNe, BitVec.reduceBEq, BitVec.reduceBNe, BitVec.reduceOfInt, BitVec.reduceSetWidth, -List.reduceReplicate, Try.results25, Try.ntmps25, g1]
  refine ⟨Fx.mixed, .inl ⟨[(0, false), (1, false), (2, true), (3, true), (4, false), (5, false)], [], by kernel_rfl, (fun n hn => by cases hn), ?_⟩⟩
  simp (maxSteps := 1000000) -implicitDefEqProofs only [go_sem, Nat.reduceBEq, Nat.reduceLT, Nat.reduceLeDiff, Nat.reduceEqDiff, Nat.reduceAdd, Nat.reduceMul, Nat.reduceSub, reduceIte, reduceCtorEq, Int.reduceLT, Int.reduceLE, Int.reduceToNat, Int.reduceAdd, Int.reduceSub, Int.reduceNeg, Int.reduceEq, Int.reduceNe, Int.reduceBEq, Int.reduceBNe, BitVec.reduceBEq, BitVec.reduceBNe, BitVec.reduceOfInt, BitVec.reduceSetWidth, -List.reduceReplicate]
  refine ⟨by omega, ?_⟩
  refine CallG.byK magicOk rfl nd0 lt0 trivial ?_
  intro v m nx ns b1 b2 b3 gr
  simp (maxSteps := 1000000) -implicitDefEqProofs only [go_sem, Nat.reduceBEq, Nat.reduceLT, Nat.reduceLeDiff, Nat.reduceEqDiff, Nat.reduceAdd, Nat.reduceMul, Nat.reduceSub, reduceIte, reduceCtorEq, Int.reduceLT, Int.reduceLE, Int.reduceToNat, Int.reduceAdd, Int.reduceSub, Int.reduceNeg, Int.reduceEq, Int.reduceNe, Int.reduceBEq, Int.reduceBNe, BitVec.reduceBEq, BitVec.reduceBNe, BitVec.reduceOfInt, BitVec.reduceSetWidth, -List.reduceReplicate]
  refine (equalOk (b.take 6) magicL).flat0 ⟨argx_roX l6.symm, b1.arg, trivial⟩ (fun _ => rfl) rfl ?_
  simp (maxSteps := 1000000) -implicitDefEqProofs only [go_sem, Nat.reduceBEq, Nat.reduceLT, Nat.reduceLeDiff, Nat.reduceEqDiff, Nat.reduceAdd, Nat.reduceMul, Nat.reduceSub, reduceIte, reduceCtorEq, Int.reduceLT, Int.reduceLE, Int.reduceToNat, Int.reduceAdd, Int.reduceSub, Int.reduceNeg, Int.reduceEq, Int.reduceNe, Int.reduceBEq, Int.reduceBNe, BitVec.reduceBEq, BitVec.reduceBNe, BitVec.reduceOfInt, BitVec.reduceSetWidth, -List.reduceReplicate]
  by_cases hm : b.take 6 = magicL
  rotate_left
  · simp (maxSteps := 1000000) -implicitDefEqProofs only [go_sem, Nat.reduceBEq, Nat.reduceLT, Nat.reduceLeDiff, Nat.reduceEqDiff, Nat.reduceAdd, Nat.reduceMul, Nat.reduceSub, reduceIte, reduceCtorEq, Int.reduceLT, Int.reduceLE, Int.reduceToNat, Int.reduceAdd, Int.reduceSub, Int.reduceNeg, Int.reduceEq, Int.reduceNe, Int.reduceBEq, Int.reduceBNe, BitVec.reduceBEq, BitVec.reduceBNe, BitVec.reduceOfInt, BitVec.reduceSetWidth, -List.reduceReplicate, decide_eq_false hm]
    have e : rHead b = (0, 3) := by rw [rHead, if_neg hl, if_neg hm]
    rw [e] at fin ⊢
    exact fin
  simp (maxSteps := 1000000) -implicitDefEqProofs only [go_sem, Nat.reduceBEq, Nat.reduceLT, Nat.reduceLeDiff, Nat.reduceEqDiff, Nat.reduceAdd, Nat.reduceMul, Nat.reduceSub, reduceIte, reduceCtorEq, Int.reduceLT, Int.reduceLE, Int.reduceToNat, Int.reduceAdd, Int.reduceSub, Int.reduceNeg, Int.reduceEq, Int.reduceNe, Int.reduceBEq, Int.reduceBNe, BitVec.reduceBEq, BitVec.reduceBNe, BitVec.reduceOfInt, BitVec.reduceSetWidth, -List.reduceReplicate, decide_eq_true hm]
  refine ⟨Fx.mixed, .inl ⟨[(0, false), (1, false), (2, false), (3, false), (4, true), (5, true), (6, false), (7, false)], [], by kernel_rfl, (fun n hn => by cases hn), ?_⟩⟩
  simp (maxSteps := 1000000) -implicitDefEqProofs only [go_sem, Nat.reduceBEq, Nat.reduceLT, Nat.reduceLeDiff, Nat.reduceEqDiff, Nat.reduceAdd, Nat.reduceMul, Nat.reduceSub, reduceIte, reduceCtorEq, Int.reduceLT, Int.reduceLE, Int.reduceToNat, Int.reduceAdd, Int.reduceSub, Int.reduceNeg, Int.reduceEq, Int.reduceNe, Int.reduceBEq, Int.reduceBNe, BitVec.reduceBEq, BitVec.reduceBNe, BitVec.reduceOfInt, BitVec.reduceSetWidth, -List.reduceReplicate]
  refine ⟨by omega, by omega, ?_⟩
  refine CallG.byK (sumOk 1 ((b.drop 6).take 2) (by omega)) rfl gr.nd gr.lt ⟨rfl, argx_roX l2.symm, trivial⟩ ?_
  intro v2 m2 nx2 ns2 d1 d2 d3 gr2
  simp (maxSteps := 1000000) -implicitDefEqProofs only [go_sem, Nat.reduceBEq, Nat.reduceLT, Nat.reduceLeDiff, Nat.reduceEqDiff, Nat.reduceAdd, Nat.reduceMul, Nat.reduceSub, reduceIte, reduceCtorEq, Int.reduceLT, Int.reduceLE, Int.reduceToNat, Int.reduceAdd, Int.reduceSub, Int.reduceNeg, Int.reduceEq, Int.reduceNe, Int.reduceBEq, Int.reduceBNe, BitVec.reduceBEq, BitVec.reduceBNe, BitVec.reduceOfInt, BitVec.reduceSetWidth, -List.reduceReplicate]
  refine (equalOk ((b.drop 8).take 4) (chk 1 ((b.drop 6).take 2))).flat0 ⟨argx_roX l4.symm, d1.arg, trivial⟩ (fun _ => rfl) rfl ?_
  by_cases hc : (b.drop 8).take 4 = chk 1 ((b.drop 6).take 2)
  rotate_left
  · simp (maxSteps := 1000000) -implicitDefEqProofs only [go_sem, Nat.reduceBEq, Nat.reduceLT, Nat.reduceLeDiff, Nat.reduceEqDiff, Nat.reduceAdd, Nat.reduceMul, Nat.reduceSub, reduceIte, reduceCtorEq, Int.reduceLT, Int.reduceLE, Int.reduceToNat, Int.reduceAdd, Int.reduceSub, Int.reduceNeg, Int.reduceEq, Int.reduceNe, Int.reduceBEq, Int.reduceBNe, BitVec.reduceBEq, BitVec.reduceBNe, BitVec.reduceOfInt, BitVec.reduceSetWidth, -List.reduceReplicate, decide_eq_false hc]
    have e : rHead b = (0, 4) := by rw [rHead, if_neg hl, if_pos hm, if_neg hc]
    rw [e] at fin ⊢
    exact fin
  simp (maxSteps := 1000000) -implicitDefEqProofs only [go_sem, Nat.reduceBEq, Nat.reduceLT, Nat.reduceLeDiff, Nat.reduceEqDiff, Nat.reduceAdd, Nat.reduceMul, Nat.reduceSub, reduceIte, reduceCtorEq, Int.reduceLT, Int.reduceLE, Int.reduceToNat, Int.reduceAdd, Int.reduceSub, Int.reduceNeg, Int.reduceEq, Int.reduceNe, Int.reduceBEq, Int.reduceBNe, BitVec.reduceBEq, BitVec.reduceBNe, BitVec.reduceOfInt, BitVec.reduceSetWidth, -List.reduceReplicate, decide_eq_true hc]
  have ld : (b.drop 6).length = b.length - 6 := List.length_drop ..
  have lt6 : List.take (b.length - 6) (List.drop 6 b) = b.drop 6 := List.take_of_length_le (by omega)
  refine ⟨by omega, ?_⟩
  rw [lt6]
  refine (readOk (b.drop 6) (by omega)).flat0 ⟨argx_roX ld.symm, trivial⟩ (fun _ => rfl) rfl ?_
  simp (maxSteps := 1000000) -implicitDefEqProofs only [go_sem, Nat.reduceBEq, Nat.reduceLT, Nat.reduceLeDiff, Nat.reduceEqDiff, Nat.reduceAdd, Nat.reduceMul, Nat.reduceSub, reduceIte, reduceCtorEq, Int.reduceLT, Int.reduceLE, Int.reduceToNat, Int.reduceAdd, Int.reduceSub, Int.reduceNeg, Int.reduceEq, Int.reduceNe, Int.reduceBEq, Int.reduceBNe, BitVec.reduceBEq, BitVec.reduceBNe, BitVec.reduceOfInt, BitVec.reduceSetWidth, -List.reduceReplicate]
  have e : rHead b = rdF (b.drop 6) := by rw [rHead, if_neg hl, if_pos hm, if_pos hc]
  rw [e] at fin ⊢
  exact fin
theorem shl8_or (S x : Nat) (hS : S < 4294967296) (hx : x < 256) : bitsI .or .i64 (shlI .i64 (S : Int) 8) (x : Int) = ((256 * S + x : Nat) : Int) := by
  have h1 : shlI .i64 (S : Int) 8 = ((256 * S : Nat) : Int) := by
    show IntKind.i64.wrap ((S : Int) * 2 ^ (min (8 : Int).toNat 64)) = _
    have : ((S : Int) * 2 ^ (min (8 : Int).toNat 64)) = ((256 * S : Nat) : Int) := by
      show (S : Int) * 256 = _
      omega
    rw [this, wrap_i64] <;> omega
  rw [h1]
  show IntKind.i64.wrap ((BitVec.ofInt 64 ((256 * S : Nat) : Int) ||| BitVec.ofInt 64 (x : Int)).toNat : Int) = _
  rw [BitVec.ofInt_natCast, BitVec.ofInt_natCast, BitVec.toNat_or, BitVec.toNat_ofNat, BitVec.toNat_ofNat, Nat.mod_eq_of_lt (by omega), Nat.mod_eq_of_lt (by omega)]
  have := Nat.two_pow_add_eq_or_of_lt (i := 8) hx S
  rw [show (256 * S ||| x) = 256 * S + x from this.symm, wrap_i64] <;> omega
/-- a number of four bytes -/
def numN (b : List (BitVec 8)) : Nat → Nat
  | 0 => 0
  | k + 1 => 256 * numN b k + (b.getD (3 - k) 0).toNat
theorem numN_lt (b : List (BitVec 8)) : ∀ k, numN b k < 256 ^ k
  | 0 => by rw [numN]; decide
  | k + 1 => by
    have := numN_lt b k
    have := (b.getD (3 - k) 0).isLt
    rw [numN, Nat.pow_succ]; omega
/-- a check, a size, and an error, of a foot -/
def rFoot (b : List (BitVec 8)) : Int × Int × Int :=
  if b.length < 12 then (0, 0, 2) else if (b.drop 10).take 2 = endsL then (if b.take 4 = chk 1 ((b.drop 4).take 6) then (if (rdF (b.drop 8)).2 = 0 then ((rdF (b.drop 8)).1, ((4 * (numN (b.drop 4) 4 + 1) : Nat) : Int), 0) else (0, 0, (rdF (b.drop 8)).2)) else (0, 0, 4)) else (0, 0, 3)
set_option maxHeartbeats 1000000 in
theorem readFootOk (b : List (BitVec 8)) (hb : b.length ≤ 100000) : CallG false Try.prog 27 [.ro b.length (bvs .u8 b)] (fun _ => true) [] 0 fun v m nx => v = .tup [.int .i64 (rFoot b).1, .int .i64 (rFoot b).2.1, .int .i64 (rFoot b).2.2] ∧ m = [] ∧ nx = 0 := by
  refine fn_okG Try.func27 rfl (by show 1 ≤ _; decide) ?_
  have fin : ∀ {m : Mem} {nx : Nat}, Eng.Fin 0 (fun _ => true) m nx (fun v m nx => v = .tup [.int .i64 (rFoot b).1, .int .i64 (rFoot b).2.1, .int .i64 (rFoot b).2.2] ∧ m = [] ∧ nx = 0) (.tup [.int .i64 (rFoot b).1, .int .i64 (rFoot b).2.1, .int .i64 (rFoot b).2.2]) := Fin.flatv (fun _ => rfl) (fun _ => rfl) ⟨rfl, rfl, rfl⟩
  by_cases hl : b.length < 12
  · have g1 : decide ((b.length : Int) < 12) = true := decide_eq_true (by omega)
    simp (maxSteps := 1000000) -implicitDefEqProofs only [go_sem, Nat.reduceBEq, Nat.reduceLT, Nat.reduceLeDiff, Nat.reduceEqDiff, Nat.reduceAdd, Nat.reduceMul, Nat.reduceSub, reduceIte, reduceCtorEq, Int.reduceLT, Int.reduceLE, Int.reduceToNat, Int.reduceAdd, Int.reduceSub, Int.reduceNeg, Int.reduceEq, Int.reduceNe, Int.reduceBEq, Int.reduceBNe, BitVec.reduceBEq, BitVec.reduceBNe, BitVec.reduceOfInt, BitVec.reduceSetWidth, -List.reduceReplicate, Try.results27, Try.ntmps27, g1]
    have e : rFoot b = (0, 0, 2) := by rw [rFoot, if_pos hl]
    rw [e] at fin ⊢
    exact fin
  have g1 : decide ((b.length : Int) < 12) = false := decide_eq_false (by omega)
  have l2 : ((b.drop 10).take 2).length = 2 := by rw [List.length_take, List.length_drop]; omega
  have l4 : (b.take 4).length = 4 := by rw [List.length_take]; omega
  have l6 : ((b.drop 4).take 6).length = 6 := by rw [List.length_take, List.length_drop]; omega
  simp (maxSteps := 1000000) -implicitDefEqProofs only [go_sem, Nat.reduceBEq, Nat.reduceLT, Nat.reduceLeDiff, Nat.reduceEqDiff, Nat.reduceAdd, Nat.reduceMul, Nat.reduceSub, reduceIte, reduceCtorEq, Int.reduceLT, Int.reduceLE, Int.reduceToNat, Int.reduceAdd, Int.reduceSub, Int.reduceNeg, Int.reduceEq, Int.reduceNe, Int.reduceBEq, Int.reduceBNe, BitVec.reduceBEq, BitVec.reduceBNe, BitVec.reduceOfInt, BitVec.reduceSetWidth, -List.reduceReplicate, Try.results27, Try.ntmps27, g1]
  refine ⟨Fx.mixed, .inl ⟨[(0, false), (1, false), (2, true), (3, true), (4, false), (5, false)], [], by kernel_rfl, (fun n hn => by cases hn), ?_⟩⟩
  simp (maxSteps := 1000000) -implicitDefEqProofs only [go_sem, Nat.reduceBEq, Nat.reduceLT, Nat.reduceLeDiff, Nat.reduceEqDiff, Nat.reduceAdd, Nat.reduceMul, Nat.reduceSub, reduceIte, reduceCtorEq, Int.reduceLT, Int.reduceLE, Int.reduceToNat, Int.reduceAdd, Int.reduceSub, Int.reduceNeg, Int.reduceEq, Int.reduceNe, Int.reduceBEq, Int.reduceBNe, BitVec.reduceBEq, BitVec.reduceBNe, BitVec.reduceOfInt, BitVec.reduceSetWidth, -List.reduceReplicate]
  refine ⟨by omega, ?_⟩
  refine CallG.byK endsOk rfl nd0 lt0 trivial ?_
  intro v m nx ns b1 b2 b3 gr
  simp (maxSteps := 1000000) -implicitDefEqProofs only [go_sem, Nat.reduceBEq, Nat.reduceLT, Nat.reduceLeDiff, Nat.reduceEqDiff, Nat.reduceAdd, Nat.reduceMul, Nat.reduceSub, reduceIte, reduceCtorEq, Int.reduceLT, Int.reduceLE, Int.reduceToNat, Int.reduceAdd, Int.reduceSub, Int.reduceNeg, Int.reduceEq, Int.reduceNe, Int.reduceBEq, Int.reduceBNe, BitVec.reduceBEq, BitVec.reduceBNe, BitVec.reduceOfInt, BitVec.reduceSetWidth, -List.reduceReplicate]
  refine (equalOk ((b.drop 10).take 2) endsL).flat0 ⟨argx_roX l2.symm, b1.arg, trivial⟩ (fun _ => rfl) rfl ?_
  simp (maxSteps := 1000000) -implicitDefEqProofs only [go_sem, Nat.reduceBEq, Nat.reduceLT, Nat.reduceLeDiff, Nat.reduceEqDiff, Nat.reduceAdd, Nat.reduceMul, Nat.reduceSub, reduceIte, reduceCtorEq, Int.reduceLT, Int.reduceLE, Int.reduceToNat, Int.reduceAdd, Int.reduceSub, Int.reduceNeg, Int.reduceEq, Int.reduceNe, Int.reduceBEq, Int.reduceBNe, BitVec.reduceBEq, BitVec.reduceBNe, BitVec.reduceOfInt, BitVec.reduceSetWidth, -List.reduceReplicate]
  by_cases hm : (b.drop 10).take 2 = endsL
  rotate_left
  · simp (maxSteps := 1000000) -implicitDefEqProofs only [go_sem, Nat.reduceBEq, Nat.reduceLT, Nat.reduceLeDiff, Nat.reduceEqDiff, Nat.reduceAdd, Nat.reduceMul, Nat.reduceSub, reduceIte, reduceCtorEq, Int.reduceLT, Int.reduceLE, Int.reduceToNat, Int.reduceAdd, Int.reduceSub, Int.reduceNeg, Int.reduceEq, Int.reduceNe, Int.reduceBEq, Int.reduceBNe, BitVec.reduceBEq, BitVec.reduceBNe, BitVec.reduceOfInt, BitVec.reduceSetWidth, -List.reduceReplicate, decide_eq_false hm]
    have e : rFoot b = (0, 0, 3) := by rw [rFoot, if_neg hl, if_neg hm]
    rw [e] at fin ⊢
    exact fin
  simp (maxSteps := 1000000) -implicitDefEqProofs only [go_sem, Nat.reduceBEq, Nat.reduceLT, Nat.reduceLeDiff, Nat.reduceEqDiff, Nat.reduceAdd, Nat.reduceMul, Nat.reduceSub, reduceIte, reduceCtorEq, Int.reduceLT, Int.reduceLE, Int.reduceToNat, Int.reduceAdd, Int.reduceSub, Int.reduceNeg, Int.reduceEq, Int.reduceNe, Int.reduceBEq, Int.reduceBNe, BitVec.reduceBEq, BitVec.reduceBNe, BitVec.reduceOfInt, BitVec.reduceSetWidth, -List.reduceReplicate, decide_eq_true hm]
  refine ⟨Fx.mixed, .inl ⟨[(0, false), (1, false), (2, false), (3, false), (4, true), (5, true), (6, false), (7, false)], [], by kernel_rfl, (fun n hn => by cases hn), ?_⟩⟩
  simp (maxSteps := 1000000) -implicitDefEqProofs only [go_sem, Nat.reduceBEq, Nat.reduceLT, Nat.reduceLeDiff, Nat.reduceEqDiff, Nat.reduceAdd, Nat.reduceMul, Nat.reduceSub, reduceIte, reduceCtorEq, Int.reduceLT, Int.reduceLE, Int.reduceToNat, Int.reduceAdd, Int.reduceSub, Int.reduceNeg, Int.reduceEq, Int.reduceNe, Int.reduceBEq, Int.reduceBNe, BitVec.reduceBEq, BitVec.reduceBNe, BitVec.reduceOfInt, BitVec.reduceSetWidth, -List.reduceReplicate]
  refine ⟨by omega, by omega, ?_⟩
  refine CallG.byK (sumOk 1 ((b.drop 4).take 6) (by omega)) rfl gr.nd gr.lt ⟨rfl, argx_roX l6.symm, trivial⟩ ?_
  intro v2 m2 nx2 ns2 d1 d2 d3 gr2
  simp (maxSteps := 1000000) -implicitDefEqProofs only [go_sem, Nat.reduceBEq, Nat.reduceLT, Nat.reduceLeDiff, Nat.reduceEqDiff, Nat.reduceAdd, Nat.reduceMul, Nat.reduceSub, reduceIte, reduceCtorEq, Int.reduceLT, Int.reduceLE, Int.reduceToNat, Int.reduceAdd, Int.reduceSub, Int.reduceNeg, Int.reduceEq, Int.reduceNe, Int.reduceBEq, Int.reduceBNe, BitVec.reduceBEq, BitVec.reduceBNe, BitVec.reduceOfInt, BitVec.reduceSetWidth, -List.reduceReplicate]
  refine (equalOk (b.take 4) (chk 1 ((b.drop 4).take 6))).flat0 ⟨argx_roX l4.symm, d1.arg, trivial⟩ (fun _ => rfl) rfl ?_
  by_cases hc : b.take 4 = chk 1 ((b.drop 4).take 6)
  rotate_left
  · simp (maxSteps := 1000000) -implicitDefEqProofs only [go_sem, Nat.reduceBEq, Nat.reduceLT, Nat.reduceLeDiff, Nat.reduceEqDiff, Nat.reduceAdd, Nat.reduceMul, Nat.reduceSub, reduceIte, reduceCtorEq, Int.reduceLT, Int.reduceLE, Int.reduceToNat, Int.reduceAdd, Int.reduceSub, Int.reduceNeg, Int.reduceEq, Int.reduceNe, Int.reduceBEq, Int.reduceBNe, BitVec.reduceBEq, BitVec.reduceBNe, BitVec.reduceOfInt, BitVec.reduceSetWidth, -List.reduceReplicate, decide_eq_false hc]
    have e : rFoot b = (0, 0, 4) := by rw [rFoot, if_neg hl, if_pos hm, if_neg hc]
    rw [e] at fin ⊢
    exact fin
  simp (maxSteps := 1000000) -implicitDefEqProofs only [go_sem, Nat.reduceBEq, Nat.reduceLT, Nat.reduceLeDiff, Nat.reduceEqDiff, Nat.reduceAdd, Nat.reduceMul, Nat.reduceSub, reduceIte, reduceCtorEq, Int.reduceLT, Int.reduceLE, Int.reduceToNat, Int.reduceAdd, Int.reduceSub, Int.reduceNeg, Int.reduceEq, Int.reduceNe, Int.reduceBEq, Int.reduceBNe, BitVec.reduceBEq, BitVec.reduceBNe, BitVec.reduceOfInt, BitVec.reduceSetWidth, -List.reduceReplicate, decide_eq_true hc]
  have ld : (b.drop 8).length = b.length - 8 := List.length_drop ..
  have lt8 : List.take (b.length - 8) (List.drop 8 b) = b.drop 8 := List.take_of_length_le (by omega)
  refine ⟨by omega, ?_⟩
  rw [lt8]
  refine (readOk (b.drop 8) (by omega)).flat0 ⟨argx_roX ld.symm, trivial⟩ (fun _ => rfl) rfl ?_
  by_cases he : (rdF (b.drop 8)).2 = 0
  rotate_left
  · have f1 : ((rdF (b.drop 8)).2 != 0) = true := by simpa using he
    simp (maxSteps := 1000000) -implicitDefEqProofs only [go_sem, Nat.reduceBEq, Nat.reduceLT, Nat.reduceLeDiff, Nat.reduceEqDiff, Nat.reduceAdd, Nat.reduceMul, Nat.reduceSub, reduceIte, reduceCtorEq, Int.reduceLT, Int.reduceLE, Int.reduceToNat, Int.reduceAdd, Int.reduceSub, Int.reduceNeg, Int.reduceEq, Int.reduceNe, Int.reduceBEq, Int.reduceBNe, BitVec.reduceBEq, BitVec.reduceBNe, BitVec.reduceOfInt, BitVec.reduceSetWidth, -List.reduceReplicate, f1]
    have e : rFoot b = (0, 0, (rdF (b.drop 8)).2) := by rw [rFoot, if_neg hl, if_pos hm, if_pos hc, if_neg he]
    rw [e] at fin ⊢
    exact fin
  have f1 : ((rdF (b.drop 8)).2 != 0) = false := by rw [he]; rfl
  simp (maxSteps := 1000000) -implicitDefEqProofs only [go_sem, Nat.reduceBEq, Nat.reduceLT, Nat.reduceLeDiff, Nat.reduceEqDiff, Nat.reduceAdd, Nat.reduceMul, Nat.reduceSub, reduceIte, reduceCtorEq, Int.reduceLT, Int.reduceLE, Int.reduceToNat, Int.reduceAdd, Int.reduceSub, Int.reduceNeg, Int.reduceEq, Int.reduceNe, Int.reduceBEq, Int.reduceBNe, BitVec.reduceBEq, BitVec.reduceBNe, BitVec.reduceOfInt, BitVec.reduceSetWidth, -List.reduceReplicate, f1]
  have e : rFoot b = ((rdF (b.drop 8)).1, ((4 * (numN (b.drop 4) 4 + 1) : Nat) : Int), 0) := by rw [rFoot, if_neg hl, if_pos hm, if_pos hc, if_pos he]
  refine LoopOk.up 4 (fun i => ([(8, .int .i64 (7 - (i : Nat))), (7, .int .i64 ((numN (b.drop 4) i : Nat) : Int)), (5, .int .i64 (rdF (b.drop 8)).1), (0, .ro b.length (bvs .u8 b))], m2, nx2)) (Le.sameT (Nat.zero_le _) ⟨rfl, rfl, rfl, rfl, trivial⟩ (memSame_slf gr2.nd) gr2.nd) ?_
  intro i hi
  have hlt := numN_lt (b.drop 4) i
  rcases Nat.lt_or_ge i 4 with h | h
  · have g2 : decide (7 - (i : Int) ≥ 4) = true := decide_eq_true (by omega)
    have w1 : IntKind.i64.wrap (7 - (i : Int) - 1) = 7 - ((i + 1 : Nat) : Int) := by rw [wrap_i64] <;> omega
    have t1 : (7 - (i : Int)).toNat = 7 - i := by omega
    have w2 : IntKind.i64.wrap ((b.getD (7 - i) 0).toNat : Int) = ((b.getD (7 - i) 0).toNat : Int) := by have := (b.getD (7 - i) 0).isLt; rw [wrap_i64] <;> omega
    have hS : numN (b.drop 4) i < 4294967296 := Nat.lt_of_lt_of_le hlt (Nat.pow_le_pow_right (by decide) (by omega) : 256 ^ i ≤ 256 ^ 4)
    have o1 := shl8_or (numN (b.drop 4) i) (b.getD (7 - i) 0).toNat hS (b.getD (7 - i) 0).isLt
    have e2 : 256 * numN (b.drop 4) i + (b.getD (7 - i) 0).toNat = numN (b.drop 4) (i + 1) := by
      rw [numN]
      have : (b.drop 4).getD (3 - i) 0 = b.getD (7 - i) 0 := by rw [List.getD_eq_getElem?_getD, List.getElem?_drop, ← List.getD_eq_getElem?_getD, show 4 + (3 - i) = 7 - i by omega]
      rw [this]
    rw [e2] at o1
    have hdl : 0 < (List.drop (7 - i) b).length := by rw [List.length_drop]; omega
    simp (maxSteps := 1000000) -implicitDefEqProofs only [go_sem, Nat.reduceBEq, Nat.reduceLT, Nat.reduceLeDiff, Nat.reduceEqDiff, Nat.reduceAdd, Nat.reduceMul, Nat.reduceSub, reduceIte, reduceCtorEq, Int.reduceLT, Int.reduceLE, Int.reduceToNat, Int.reduceAdd, Int.reduceSub, Int.reduceNeg, Int.reduceEq, Int.reduceNe, Int.reduceBEq, Int.reduceBNe, BitVec.reduceBEq, BitVec.reduceBNe, BitVec.reduceOfInt, BitVec.reduceSetWidth, -List.reduceReplicate, g2, w1, t1, w2, o1]
    refine ⟨by omega, by omega, hdl, ?_⟩
    exact UpK_normal h (Le.sameT (Nat.zero_le _) ⟨rfl, rfl, rfl, rfl, trivial⟩ (memSame_slf gr2.nd) gr2.nd)
  · have hi4 : i = 4 := by omega
    subst hi4
    have hS : numN (b.drop 4) 4 < 4294967296 := hlt
    have g2 : decide ((3 : Int) ≥ 4) = false := by decide
    have w1 : IntKind.i64.wrap (((numN (b.drop 4) 4 : Nat) : Int) + 1) = ((numN (b.drop 4) 4 + 1 : Nat) : Int) := by rw [wrap_i64] <;> omega
    have w2 : IntKind.i64.wrap (4 * ((numN (b.drop 4) 4 + 1 : Nat) : Int)) = ((4 * (numN (b.drop 4) 4 + 1) : Nat) : Int) := by rw [wrap_i64] <;> omega
    simp (maxSteps := 1000000) -implicitDefEqProofs only [go_sem, Nat.reduceBEq, Nat.reduceLT, Nat.reduceLeDiff, Nat.reduceEqDiff, Nat.reduceAdd, Nat.reduceMul, Nat.reduceSub, reduceIte, reduceCtorEq, Int.reduceLT, Int.reduceLE, Int.reduceToNat, Int.reduceAdd, Int.reduceSub, Int.reduceNeg, Int.reduceEq, Int.reduceNe, Int.reduceBEq, Int.reduceBNe, BitVec.reduceBEq, BitVec.reduceBNe, BitVec.reduceOfInt, BitVec.reduceSetWidth, -List.reduceReplicate, g2, w1, w2]
    rw [e] at fin ⊢
    exact fin
end Go.Proofs.Ytmdeoikpiiambaa
