/- A stream's ends: a number's bytes; what checks are. -/
import Derived.Test.YtmdeoikpiiambaaEng35
import Derived.Test.YtmdeoikpiiambaaEng34
import Derived.Test.YtmdeoikpiiambaaMa
import Derived.Test.YtmdeoikpiiambaaMd
set_option linter.unusedVariables false
set_option linter.unusedSimpArgs false
set_option maxRecDepth 100000
namespace Go.Proofs.Ytmdeoikpiiambaa
open Go Go.Eng

/-- a number's bytes, the lowest first -/
def lowS (n : BitVec 64) : Nat → List (BitVec 8)
  | 0 => []
  | k + 1 => lowS n k ++ [(n >>> (8 * k)).setWidth 8]
theorem lowS_len (n : BitVec 64) : ∀ k, (lowS n k).length = k
  | 0 => rfl
  | k + 1 => by rw [lowS, List.length_append, lowS_len n k]; rfl
theorem lowOk (n : BitVec 64) (k : Nat) (hk : k ≤ 8) : CallG false Try.prog 74 [.int .u64 (n.toNat : Int), .int .i64 k] (fun _ => true) [] 0 (ByK 5 idG (lowS n k) [] 0) := by
  refine fn_okG Try.func74 rfl (by show 2 ≤ _; decide) ?_
  simp (maxSteps := 1000000) -implicitDefEqProofs only [go_sem, Nat.reduceBEq, Nat.reduceLT, Nat.reduceLeDiff, Nat.reduceEqDiff, Nat.reduceAdd, Nat.reduceMul, Nat.reduceSub, reduceIte, reduceCtorEq, Int.reduceLT, Int.reduceLE, Int.reduceToNat, Int.reduceAdd, Int.reduceSub, Int.reduceNeg, Int.reduceEq, Int.reduceNe, Int.reduceBEq, Int.reduceBNe, BitVec.reduceBEq, BitVec.reduceBNe, BitVec.reduceOfInt, BitVec.reduceSetWidth, -List.reduceReplicate, Try.results74, Try.ntmps74]
  refine LoopOk.upX (fun i (x : AV × List Nat × Mem × Nat) => ByAt 5 x.2.2.1 x.1 (lowS n i) x.2.1 ∧ x.1 ≠ .ro (lowS n i).length (bvs .u8 (lowS n i)) ∧ Gr [] 0 x.2.2.1 x.2.2.2) k (fun i x => ([(7, .int .i64 (i : Nat)), (6, .int .i64 (k : Nat)), (5, x.1), (0, .int .u64 ((n >>> (8 * i)).toNat : Int))], x.2.2.1, x.2.2.2)) (.nils, [], [], 0) ⟨.nil _, (fun e => by cases e), .refl List.nodup_nil (fun p hp => by cases hp)⟩ ?_ ?_
  · exact Le.sameT (Nat.zero_le _) ⟨rfl, rfl, rfl, rfl, trivial⟩ (memSame_slf List.nodup_nil) List.nodup_nil
  rintro i ⟨s, ns, m, nx⟩ ⟨hi, b1, b2, g⟩
  have b1 : ByAt 5 m s (lowS n i) ns := b1
  have b2 : s ≠ .ro (lowS n i).length (bvs .u8 (lowS n i)) := b2
  have g : Gr [] 0 m nx := g
  rcases Nat.lt_or_ge i k with h | h
  · have g1 : decide ((i : Int) < (k : Int)) = true := decide_eq_true (by omega)
    have w1 : IntKind.i64.wrap ((i : Int) + 1) = ((i + 1 : Nat) : Int) := by rw [wrap_i64] <;> omega
    simp (maxSteps := 1000000) -implicitDefEqProofs only [go_sem, Nat.reduceBEq, Nat.reduceLT, Nat.reduceLeDiff, Nat.reduceEqDiff, Nat.reduceAdd, Nat.reduceMul, Nat.reduceSub, reduceIte, reduceCtorEq, Int.reduceLT, Int.reduceLE, Int.reduceToNat, Int.reduceAdd, Int.reduceSub, Int.reduceNeg, Int.reduceEq, Int.reduceNe, Int.reduceBEq, Int.reduceBNe, BitVec.reduceBEq, BitVec.reduceBNe, BitVec.reduceOfInt, BitVec.reduceSetWidth, -List.reduceReplicate, g1, w1]
    have gc := Gr.cons g.nd g.lt (.cells (bvs .u8 ((List.replicate 1 0).set 0 (BitVec.setWidth 8 (n >>> (8 * i))))) 5)
    refine ⟨.inr trivial, rfl, ?_⟩
    refine appk_by (Y := [(n >>> (8 * i)).setWidth 8]) (b1.grow gc) b2 gc.nd (fun _ _ => rfl) gc.lt (fun _ _ => rfl) (by rw [lowS_len]; show i + 1 ≤ _; omega) ?_
    intro v' m' nx' ns' c1 c2 c3 c4 c5 c6 c7 c8
    have hs : n >>> (8 * i) >>> 8 = n >>> (8 * (i + 1)) := by rw [← BitVec.shiftRight_add]; rfl
    simp (maxSteps := 1000000) -implicitDefEqProofs only [go_sem, Nat.reduceBEq, Nat.reduceLT, Nat.reduceLeDiff, Nat.reduceEqDiff, Nat.reduceAdd, Nat.reduceMul, Nat.reduceSub, reduceIte, reduceCtorEq, Int.reduceLT, Int.reduceLE, Int.reduceToNat, Int.reduceAdd, Int.reduceSub, Int.reduceNeg, Int.reduceEq, Int.reduceNe, Int.reduceBEq, Int.reduceBNe, BitVec.reduceBEq, BitVec.reduceBNe, BitVec.reduceOfInt, BitVec.reduceSetWidth, -List.reduceReplicate, w1, hs]
    exact UpX_normal h (v', ns', m', nx') ⟨c1, c2, ⟨Nat.zero_le _, c5, c6, fun k X e => by cases e⟩⟩ (Le.sameT (Nat.zero_le _) ⟨rfl, rfl, rfl, rfl, trivial⟩ (memSame_slf c5) c5)
  · have hik : i = k := by omega
    subst hik
    have g1 : decide ((i : Int) < (i : Int)) = false := decide_eq_false (by omega)
    simp (maxSteps := 1000000) -implicitDefEqProofs only [go_sem, Nat.reduceBEq, Nat.reduceLT, Nat.reduceLeDiff, Nat.reduceEqDiff, Nat.reduceAdd, Nat.reduceMul, Nat.reduceSub, reduceIte, reduceCtorEq, Int.reduceLT, Int.reduceLE, Int.reduceToNat, Int.reduceAdd, Int.reduceSub, Int.reduceNeg, Int.reduceEq, Int.reduceNe, Int.reduceBEq, Int.reduceBNe, BitVec.reduceBEq, BitVec.reduceBNe, BitVec.reduceOfInt, BitVec.reduceSetWidth, -List.reduceReplicate, g1]
    exact Fin.by b1 b2 idG (fun _ _ => rfl)
/-- is it a check? -/
def isC (c : Int) : Bool := c == 0 || c == 1 || c == 4 || c == 10
/-- a check's bytes -/
def chk (c : Int) (b : List (BitVec 8)) : List (BitVec 8) := if c = 1 then lowS ((on32 0 b).setWidth 64) 4 else if c = 4 then lowS (on64 0 b) 8 else if c = 10 then shaP b else []
/-- what its row's type is -/
def chT (c : Int) : TypeId := if c = 10 then 199 else 5
def fnC (g : FuncId) : AV := .fn (.func g) [] []
def sumL : List AV := [fnC 128, fnC 129, fnC 131, fnC 133]
theorem mxTf : mxT Try.prog 118 = none := by kernel_rfl
theorem sumsOk : CallG false Try.prog 76 [] (fun _ => true) [] 0 fun v m nx => v = .map 0 ∧ m = [(0, .mp .i64 [0, 1, 4, 10] sumL)] ∧ nx = 1 := by
  refine fn_okG Try.func76 rfl (Nat.zero_le _) ?_
  simp (maxSteps := 1000000) -implicitDefEqProofs only [go_sem, Nat.reduceBEq, Nat.reduceLT, Nat.reduceLeDiff, Nat.reduceEqDiff, Nat.reduceAdd, Nat.reduceMul, Nat.reduceSub, reduceIte, reduceCtorEq, Int.reduceLT, Int.reduceLE, Int.reduceToNat, Int.reduceAdd, Int.reduceSub, Int.reduceNeg, Int.reduceEq, Int.reduceNe, Int.reduceBEq, Int.reduceBNe, BitVec.reduceBEq, BitVec.reduceBNe, BitVec.reduceOfInt, BitVec.reduceSetWidth, -List.reduceReplicate, Try.results76, Try.ntmps76, mxTf]
  exact Fin.keep (Nat.zero_le _) (memSame_slf (by simp)) (by simp) ⟨rfl, rfl, rfl⟩
theorem nilOk (b : List (BitVec 8)) : CallG false Try.prog 128 [.ro b.length (bvs .u8 b)] (fun _ => true) [] 0 (ByK 5 idG [] [] 0) := by
  refine fn_okG Try.func128 rfl (by show 1 ≤ _; decide) ?_
  simp (maxSteps := 1000000) -implicitDefEqProofs only [go_sem, Nat.reduceBEq, Nat.reduceLT, Nat.reduceLeDiff, Nat.reduceEqDiff, Nat.reduceAdd, Nat.reduceMul, Nat.reduceSub, reduceIte, reduceCtorEq, Int.reduceLT, Int.reduceLE, Int.reduceToNat, Int.reduceAdd, Int.reduceSub, Int.reduceNeg, Int.reduceEq, Int.reduceNe, Int.reduceBEq, Int.reduceBNe, BitVec.reduceBEq, BitVec.reduceBNe, BitVec.reduceOfInt, BitVec.reduceSetWidth, -List.reduceReplicate, Try.results128, Try.ntmps128]
  exact Fin.by (.nil _) (fun e => by cases e) idG (fun _ _ => rfl)
theorem crcOk (b : List (BitVec 8)) (hb : b.length ≤ 100000) : CallG false Try.prog 129 [.ro b.length (bvs .u8 b)] (fun _ => true) [] 0 (ByK 5 idG (lowS ((on32 0 b).setWidth 64) 4) [] 0) := by
  refine fn_okG Try.func129 rfl (by show 1 ≤ _; decide) ?_
  simp (maxSteps := 1000000) -implicitDefEqProofs only [go_sem, Nat.reduceBEq, Nat.reduceLT, Nat.reduceLeDiff, Nat.reduceEqDiff, Nat.reduceAdd, Nat.reduceMul, Nat.reduceSub, reduceIte, reduceCtorEq, Int.reduceLT, Int.reduceLE, Int.reduceToNat, Int.reduceAdd, Int.reduceSub, Int.reduceNeg, Int.reduceEq, Int.reduceNe, Int.reduceBEq, Int.reduceBNe, BitVec.reduceBEq, BitVec.reduceBNe, BitVec.reduceOfInt, BitVec.reduceSetWidth, -List.reduceReplicate, Try.results129, Try.ntmps129]
  refine (sumOk32 b (by omega)).flatv (by simp only [argsx, argx_int, argx_bool, argx_fn, argx_ro, argx_nils, eq_self, true_and, and_true, and_self]; try trivial) (fun _ => rfl) rfl ?_
  simp (maxSteps := 1000000) -implicitDefEqProofs only [go_sem, Nat.reduceBEq, Nat.reduceLT, Nat.reduceLeDiff, Nat.reduceEqDiff, Nat.reduceAdd, Nat.reduceMul, Nat.reduceSub, reduceIte, reduceCtorEq, Int.reduceLT, Int.reduceLE, Int.reduceToNat, Int.reduceAdd, Int.reduceSub, Int.reduceNeg, Int.reduceEq, Int.reduceNe, Int.reduceBEq, Int.reduceBNe, BitVec.reduceBEq, BitVec.reduceBNe, BitVec.reduceOfInt, BitVec.reduceSetWidth, -List.reduceReplicate]
  refine (CallG.by1 (lowOk ((on32 0 b).setWidth 64) 4 (by decide)) rfl nd0 lt0 (by simp only [argsx, argx_int, argx_bool, argx_fn, argx_ro, argx_nils, eq_self, true_and, and_true, and_self]; try trivial)).weak ?_
  rintro v m nx ⟨ns, b1, b2, b3, g⟩
  simp (maxSteps := 1000000) -implicitDefEqProofs only [go_sem, Nat.reduceBEq, Nat.reduceLT, Nat.reduceLeDiff, Nat.reduceEqDiff, Nat.reduceAdd, Nat.reduceMul, Nat.reduceSub, reduceIte, reduceCtorEq, Int.reduceLT, Int.reduceLE, Int.reduceToNat, Int.reduceAdd, Int.reduceSub, Int.reduceNeg, Int.reduceEq, Int.reduceNe, Int.reduceBEq, Int.reduceBNe, BitVec.reduceBEq, BitVec.reduceBNe, BitVec.reduceOfInt, BitVec.reduceSetWidth, -List.reduceReplicate]
  exact Fin.by b1 b2 idG (fun _ _ => rfl)
theorem crc64Ok (b : List (BitVec 8)) (hb : b.length ≤ 100000) : CallG false Try.prog 131 [.ro b.length (bvs .u8 b)] (fun _ => true) [] 0 (ByK 5 idG (lowS (on64 0 b) 8) [] 0) := by
  refine fn_okG Try.func131 rfl (by show 1 ≤ _; decide) ?_
  simp (maxSteps := 1000000) -implicitDefEqProofs only [go_sem, Nat.reduceBEq, Nat.reduceLT, Nat.reduceLeDiff, Nat.reduceEqDiff, Nat.reduceAdd, Nat.reduceMul, Nat.reduceSub, reduceIte, reduceCtorEq, Int.reduceLT, Int.reduceLE, Int.reduceToNat, Int.reduceAdd, Int.reduceSub, Int.reduceNeg, Int.reduceEq, Int.reduceNe, Int.reduceBEq, Int.reduceBNe, BitVec.reduceBEq, BitVec.reduceBNe, BitVec.reduceOfInt, BitVec.reduceSetWidth, -List.reduceReplicate, Try.results131, Try.ntmps131]
  refine (sumOk64 b (by omega)).flatv (by simp only [argsx, argx_int, argx_bool, argx_fn, argx_ro, argx_nils, eq_self, true_and, and_true, and_self]; try trivial) (fun _ => rfl) rfl ?_
  simp (maxSteps := 1000000) -implicitDefEqProofs only [go_sem, Nat.reduceBEq, Nat.reduceLT, Nat.reduceLeDiff, Nat.reduceEqDiff, Nat.reduceAdd, Nat.reduceMul, Nat.reduceSub, reduceIte, reduceCtorEq, Int.reduceLT, Int.reduceLE, Int.reduceToNat, Int.reduceAdd, Int.reduceSub, Int.reduceNeg, Int.reduceEq, Int.reduceNe, Int.reduceBEq, Int.reduceBNe, BitVec.reduceBEq, BitVec.reduceBNe, BitVec.reduceOfInt, BitVec.reduceSetWidth, -List.reduceReplicate]
  refine (CallG.by1 (lowOk (on64 0 b) 8 (by decide)) rfl nd0 lt0 (by simp only [argsx, argx_int, argx_bool, argx_fn, argx_ro, argx_nils, eq_self, true_and, and_true, and_self]; try trivial)).weak ?_
  rintro v m nx ⟨ns, b1, b2, b3, g⟩
  simp (maxSteps := 1000000) -implicitDefEqProofs only [go_sem, Nat.reduceBEq, Nat.reduceLT, Nat.reduceLeDiff, Nat.reduceEqDiff, Nat.reduceAdd, Nat.reduceMul, Nat.reduceSub, reduceIte, reduceCtorEq, Int.reduceLT, Int.reduceLE, Int.reduceToNat, Int.reduceAdd, Int.reduceSub, Int.reduceNeg, Int.reduceEq, Int.reduceNe, Int.reduceBEq, Int.reduceBNe, BitVec.reduceBEq, BitVec.reduceBNe, BitVec.reduceOfInt, BitVec.reduceSetWidth, -List.reduceReplicate]
  exact Fin.by b1 b2 idG (fun _ _ => rfl)
theorem shaOk (b : List (BitVec 8)) (hb : b.length ≤ 100000) : CallG false Try.prog 133 [.ro b.length (bvs .u8 b)] (fun _ => true) [] 0 (ByK 199 idG (shaP b) [] 0) := by
  refine fn_okG Try.func133 rfl (by show 1 ≤ _; decide) ?_
  simp (maxSteps := 1000000) -implicitDefEqProofs only [go_sem, Nat.reduceBEq, Nat.reduceLT, Nat.reduceLeDiff, Nat.reduceEqDiff, Nat.reduceAdd, Nat.reduceMul, Nat.reduceSub, reduceIte, reduceCtorEq, Int.reduceLT, Int.reduceLE, Int.reduceToNat, Int.reduceAdd, Int.reduceSub, Int.reduceNeg, Int.reduceEq, Int.reduceNe, Int.reduceBEq, Int.reduceBNe, BitVec.reduceBEq, BitVec.reduceBNe, BitVec.reduceOfInt, BitVec.reduceSetWidth, -List.reduceReplicate, Try.results133, Try.ntmps133]
  refine (shaSumOk b hb).flatv (by simp only [argsx, argx_int, argx_bool, argx_fn, argx_ro, argx_nils, eq_self, true_and, and_true, and_self]; try trivial) (fun f => by simp only [renA, bvs_ren]) (by simp only [noRo, bvs_noRo]) ?_
  have hl := shaP_len b
  simp (maxSteps := 1000000) -implicitDefEqProofs only [go_sem, Nat.reduceBEq, Nat.reduceLT, Nat.reduceLeDiff, Nat.reduceEqDiff, Nat.reduceAdd, Nat.reduceMul, Nat.reduceSub, reduceIte, reduceCtorEq, Int.reduceLT, Int.reduceLE, Int.reduceToNat, Int.reduceAdd, Int.reduceSub, Int.reduceNeg, Int.reduceEq, Int.reduceNe, Int.reduceBEq, Int.reduceBNe, BitVec.reduceBEq, BitVec.reduceBNe, BitVec.reduceOfInt, BitVec.reduceSetWidth, -List.reduceReplicate, hl]
  exact Fin.by (.row (n := 0) (sp := []) hl.symm (by rw [List.append_nil, look_cons, if_pos rfl]) (by rw [List.length_nil, Nat.add_zero]; exact hl) (by decide) rfl) (fun e => by cases e) idG (fun _ _ => rfl)
/-- a check's bytes, by its number -/
theorem sumOk (c : Int) (b : List (BitVec 8)) (hb : b.length ≤ 100000) : CallG false Try.prog 21 [.int .i64 c, .ro b.length (bvs .u8 b)] (fun _ => true) [] 0 (ByK (chT c) idG (chk c b) [] 0) := by
  refine fn_okG Try.func21 rfl (by show 2 ≤ _; decide) ?_
  simp (maxSteps := 1000000) -implicitDefEqProofs only [go_sem, Nat.reduceBEq, Nat.reduceLT, Nat.reduceLeDiff, Nat.reduceEqDiff, Nat.reduceAdd, Nat.reduceMul, Nat.reduceSub, reduceIte, reduceCtorEq, Int.reduceLT, Int.reduceLE, Int.reduceToNat, Int.reduceAdd, Int.reduceSub, Int.reduceNeg, Int.reduceEq, Int.reduceNe, Int.reduceBEq, Int.reduceBNe, BitVec.reduceBEq, BitVec.reduceBNe, BitVec.reduceOfInt, BitVec.reduceSetWidth, -List.reduceReplicate, Try.results21, Try.ntmps21]
  refine sumsOk.newE rfl ?_
  rintro v m nx ⟨rfl, rfl, rfl⟩
  have hmem : renM (fun n => n + 0) [(0, AObj.mp .i64 [0, 1, 4, 10] sumL)] ++ [] = [(0, AObj.mp .i64 [0, 1, 4, 10] sumL)] := rfl
  have hmp : renA (fun n => n + 0) (AV.map 0) = .map 0 := rfl
  rw [hmem, hmp]
  by_cases h0 : c = 0
  · subst h0
    simp (maxSteps := 1000000) -implicitDefEqProofs only [go_sem, Nat.reduceBEq, Nat.reduceLT, Nat.reduceLeDiff, Nat.reduceEqDiff, Nat.reduceAdd, Nat.reduceMul, Nat.reduceSub, reduceIte, reduceCtorEq, Int.reduceLT, Int.reduceLE, Int.reduceToNat, Int.reduceAdd, Int.reduceSub, Int.reduceNeg, Int.reduceEq, Int.reduceNe, Int.reduceBEq, Int.reduceBNe, BitVec.reduceBEq, BitVec.reduceBNe, BitVec.reduceOfInt, BitVec.reduceSetWidth, -List.reduceReplicate, sumL, fnC]
    refine (CallG.by1 (nilOk b) rfl (by simp) (fun p hp => by cases List.mem_singleton.1 hp; exact Nat.zero_lt_one) (by simp only [argsx, argx_int, argx_bool, argx_fn, argx_ro, argx_nils, eq_self, true_and, and_true, and_self]; try trivial)).weak ?_
    rintro v m nx ⟨ns, b1, b2, b3, g⟩
    simp (maxSteps := 1000000) -implicitDefEqProofs only [go_sem, Nat.reduceBEq, Nat.reduceLT, Nat.reduceLeDiff, Nat.reduceEqDiff, Nat.reduceAdd, Nat.reduceMul, Nat.reduceSub, reduceIte, reduceCtorEq, Int.reduceLT, Int.reduceLE, Int.reduceToNat, Int.reduceAdd, Int.reduceSub, Int.reduceNeg, Int.reduceEq, Int.reduceNe, Int.reduceBEq, Int.reduceBNe, BitVec.reduceBEq, BitVec.reduceBNe, BitVec.reduceOfInt, BitVec.reduceSetWidth, -List.reduceReplicate]
    exact Fin.by b1 b2 idG (fun _ _ => rfl)
  by_cases h1 : c = 1
  · subst h1
    simp (maxSteps := 1000000) -implicitDefEqProofs only [go_sem, Nat.reduceBEq, Nat.reduceLT, Nat.reduceLeDiff, Nat.reduceEqDiff, Nat.reduceAdd, Nat.reduceMul, Nat.reduceSub, reduceIte, reduceCtorEq, Int.reduceLT, Int.reduceLE, Int.reduceToNat, Int.reduceAdd, Int.reduceSub, Int.reduceNeg, Int.reduceEq, Int.reduceNe, Int.reduceBEq, Int.reduceBNe, BitVec.reduceBEq, BitVec.reduceBNe, BitVec.reduceOfInt, BitVec.reduceSetWidth, -List.reduceReplicate, sumL, fnC]
    refine (CallG.by1 (crcOk b hb) rfl (by simp) (fun p hp => by cases List.mem_singleton.1 hp; exact Nat.zero_lt_one) (by simp only [argsx, argx_int, argx_bool, argx_fn, argx_ro, argx_nils, eq_self, true_and, and_true, and_self]; try trivial)).weak ?_
    rintro v m nx ⟨ns, b1, b2, b3, g⟩
    simp (maxSteps := 1000000) -implicitDefEqProofs only [go_sem, Nat.reduceBEq, Nat.reduceLT, Nat.reduceLeDiff, Nat.reduceEqDiff, Nat.reduceAdd, Nat.reduceMul, Nat.reduceSub, reduceIte, reduceCtorEq, Int.reduceLT, Int.reduceLE, Int.reduceToNat, Int.reduceAdd, Int.reduceSub, Int.reduceNeg, Int.reduceEq, Int.reduceNe, Int.reduceBEq, Int.reduceBNe, BitVec.reduceBEq, BitVec.reduceBNe, BitVec.reduceOfInt, BitVec.reduceSetWidth, -List.reduceReplicate]
    exact Fin.by b1 b2 idG (fun _ _ => rfl)
  by_cases h4 : c = 4
  · subst h4
    simp (maxSteps := 1000000) -implicitDefEqProofs only [go_sem, Nat.reduceBEq, Nat.reduceLT, Nat.reduceLeDiff, Nat.reduceEqDiff, Nat.reduceAdd, Nat.reduceMul, Nat.reduceSub, reduceIte, reduceCtorEq, Int.reduceLT, Int.reduceLE, Int.reduceToNat, Int.reduceAdd, Int.reduceSub, Int.reduceNeg, Int.reduceEq, Int.reduceNe, Int.reduceBEq, Int.reduceBNe, BitVec.reduceBEq, BitVec.reduceBNe, BitVec.reduceOfInt, BitVec.reduceSetWidth, -List.reduceReplicate, sumL, fnC]
    refine (CallG.by1 (crc64Ok b hb) rfl (by simp) (fun p hp => by cases List.mem_singleton.1 hp; exact Nat.zero_lt_one) (by simp only [argsx, argx_int, argx_bool, argx_fn, argx_ro, argx_nils, eq_self, true_and, and_true, and_self]; try trivial)).weak ?_
    rintro v m nx ⟨ns, b1, b2, b3, g⟩
    simp (maxSteps := 1000000) -implicitDefEqProofs only [go_sem, Nat.reduceBEq, Nat.reduceLT, Nat.reduceLeDiff, Nat.reduceEqDiff, Nat.reduceAdd, Nat.reduceMul, Nat.reduceSub, reduceIte, reduceCtorEq, Int.reduceLT, Int.reduceLE, Int.reduceToNat, Int.reduceAdd, Int.reduceSub, Int.reduceNeg, Int.reduceEq, Int.reduceNe, Int.reduceBEq, Int.reduceBNe, BitVec.reduceBEq, BitVec.reduceBNe, BitVec.reduceOfInt, BitVec.reduceSetWidth, -List.reduceReplicate]
    exact Fin.by b1 b2 idG (fun _ _ => rfl)
  by_cases h10 : c = 10
  · subst h10
    simp (maxSteps := 1000000) -implicitDefEqProofs only [go_sem, Nat.reduceBEq, Nat.reduceLT, Nat.reduceLeDiff, Nat.reduceEqDiff, Nat.reduceAdd, Nat.reduceMul, Nat.reduceSub, reduceIte, reduceCtorEq, Int.reduceLT, Int.reduceLE, Int.reduceToNat, Int.reduceAdd, Int.reduceSub, Int.reduceNeg, Int.reduceEq, Int.reduceNe, Int.reduceBEq, Int.reduceBNe, BitVec.reduceBEq, BitVec.reduceBNe, BitVec.reduceOfInt, BitVec.reduceSetWidth, -List.reduceReplicate, sumL, fnC]
    refine (CallG.by1 (shaOk b hb) rfl (by simp) (fun p hp => by cases List.mem_singleton.1 hp; exact Nat.zero_lt_one) (by simp only [argsx, argx_int, argx_bool, argx_fn, argx_ro, argx_nils, eq_self, true_and, and_true, and_self]; try trivial)).weak ?_
    rintro v m nx ⟨ns, b1, b2, b3, g⟩
    simp (maxSteps := 1000000) -implicitDefEqProofs only [go_sem, Nat.reduceBEq, Nat.reduceLT, Nat.reduceLeDiff, Nat.reduceEqDiff, Nat.reduceAdd, Nat.reduceMul, Nat.reduceSub, reduceIte, reduceCtorEq, Int.reduceLT, Int.reduceLE, Int.reduceToNat, Int.reduceAdd, Int.reduceSub, Int.reduceNeg, Int.reduceEq, Int.reduceNe, Int.reduceBEq, Int.reduceBNe, BitVec.reduceBEq, BitVec.reduceBNe, BitVec.reduceOfInt, BitVec.reduceSetWidth, -List.reduceReplicate]
    exact Fin.by b1 b2 idG (fun _ _ => rfl)
  have f0 : ((0 : Int) = c) = False := eq_false (fun e => h0 e.symm)
  have f1 : ((1 : Int) = c) = False := eq_false (fun e => h1 e.symm)
  have f4 : ((4 : Int) = c) = False := eq_false (fun e => h4 e.symm)
  have f10 : ((10 : Int) = c) = False := eq_false (fun e => h10 e.symm)
  simp (maxSteps := 1000000) -implicitDefEqProofs only [go_sem, Nat.reduceBEq, Nat.reduceLT, Nat.reduceLeDiff, Nat.reduceEqDiff, Nat.reduceAdd, Nat.reduceMul, Nat.reduceSub, reduceIte, reduceCtorEq, Int.reduceLT, Int.reduceLE, Int.reduceToNat, Int.reduceAdd, Int.reduceSub, Int.reduceNeg, Int.reduceEq, Int.reduceNe, Int.reduceBEq, Int.reduceBNe, BitVec.reduceBEq, BitVec.reduceBNe, BitVec.reduceOfInt, BitVec.reduceSetWidth, -List.reduceReplicate, sumL, fnC, f0, f1, f4, f10]
  have e : chk c b = [] := by rw [chk, if_neg h1, if_neg h4, if_neg h10]
  rw [e]
  exact Fin.by (.nil _) (fun e => by cases e) idG (fun _ _ => rfl)
theorem fineOk (c : Int) : CallG false Try.prog 19 [.int .i64 c] (fun _ => true) [] 0 fun v m nx => v = .bool (isC c) ∧ m = [] ∧ nx = 0 := by
  refine fn_okG Try.func19 rfl (by show 1 ≤ _; decide) ?_
  simp (maxSteps := 1000000) -implicitDefEqProofs only [go_sem, Nat.reduceBEq, Nat.reduceLT, Nat.reduceLeDiff, Nat.reduceEqDiff, Nat.reduceAdd, Nat.reduceMul, Nat.reduceSub, reduceIte, reduceCtorEq, Int.reduceLT, Int.reduceLE, Int.reduceToNat, Int.reduceAdd, Int.reduceSub, Int.reduceNeg, Int.reduceEq, Int.reduceNe, Int.reduceBEq, Int.reduceBNe, BitVec.reduceBEq, BitVec.reduceBNe, BitVec.reduceOfInt, BitVec.reduceSetWidth, -List.reduceReplicate, Try.results19, Try.ntmps19]
  refine sumsOk.newE rfl ?_
  rintro v m nx ⟨rfl, rfl, rfl⟩
  have hmem : renM (fun n => n + 0) [(0, AObj.mp .i64 [0, 1, 4, 10] sumL)] ++ [] = [(0, AObj.mp .i64 [0, 1, 4, 10] sumL)] := rfl
  have hmp : renA (fun n => n + 0) (AV.map 0) = .map 0 := rfl
  rw [hmem, hmp]
  by_cases h0 : c = 0
  · subst h0
    simp (maxSteps := 1000000) -implicitDefEqProofs only [go_sem, Nat.reduceBEq, Nat.reduceLT, Nat.reduceLeDiff, Nat.reduceEqDiff, Nat.reduceAdd, Nat.reduceMul, Nat.reduceSub, reduceIte, reduceCtorEq, Int.reduceLT, Int.reduceLE, Int.reduceToNat, Int.reduceAdd, Int.reduceSub, Int.reduceNeg, Int.reduceEq, Int.reduceNe, Int.reduceBEq, Int.reduceBNe, BitVec.reduceBEq, BitVec.reduceBNe, BitVec.reduceOfInt, BitVec.reduceSetWidth, -List.reduceReplicate, sumL, fnC]
    exact Fin.flatv (fun _ => rfl) (fun _ => rfl) ⟨rfl, rfl, rfl⟩
  by_cases h1 : c = 1
  · subst h1
    simp (maxSteps := 1000000) -implicitDefEqProofs only [go_sem, Nat.reduceBEq, Nat.reduceLT, Nat.reduceLeDiff, Nat.reduceEqDiff, Nat.reduceAdd, Nat.reduceMul, Nat.reduceSub, reduceIte, reduceCtorEq, Int.reduceLT, Int.reduceLE, Int.reduceToNat, Int.reduceAdd, Int.reduceSub, Int.reduceNeg, Int.reduceEq, Int.reduceNe, Int.reduceBEq, Int.reduceBNe, BitVec.reduceBEq, BitVec.reduceBNe, BitVec.reduceOfInt, BitVec.reduceSetWidth, -List.reduceReplicate, sumL, fnC]
    exact Fin.flatv (fun _ => rfl) (fun _ => rfl) ⟨rfl, rfl, rfl⟩
  by_cases h4 : c = 4
  · subst h4
    simp (maxSteps := 1000000) -implicitDefEqProofs only [go_sem, Nat.reduceBEq, Nat.reduceLT, Nat.reduceLeDiff, Nat.reduceEqDiff, Nat.reduceAdd, Nat.reduceMul, Nat.reduceSub, reduceIte, reduceCtorEq, Int.reduceLT, Int.reduceLE, Int.reduceToNat, Int.reduceAdd, Int.reduceSub, Int.reduceNeg, Int.reduceEq, Int.reduceNe, Int.reduceBEq, Int.reduceBNe, BitVec.reduceBEq, BitVec.reduceBNe, BitVec.reduceOfInt, BitVec.reduceSetWidth, -List.reduceReplicate, sumL, fnC]
    exact Fin.flatv (fun _ => rfl) (fun _ => rfl) ⟨rfl, rfl, rfl⟩
  by_cases h10 : c = 10
  · subst h10
    simp (maxSteps := 1000000) -implicitDefEqProofs only [go_sem, Nat.reduceBEq, Nat.reduceLT, Nat.reduceLeDiff, Nat.reduceEqDiff, Nat.reduceAdd, Nat.reduceMul, Nat.reduceSub, reduceIte, reduceCtorEq, Int.reduceLT, Int.reduceLE, Int.reduceToNat, Int.reduceAdd, Int.reduceSub, Int.reduceNeg, Int.reduceEq, Int.reduceNe, Int.reduceBEq, Int.reduceBNe, BitVec.reduceBEq, BitVec.reduceBNe, BitVec.reduceOfInt, BitVec.reduceSetWidth, -List.reduceReplicate, sumL, fnC]
    exact Fin.flatv (fun _ => rfl) (fun _ => rfl) ⟨rfl, rfl, rfl⟩
  have f0 : ((0 : Int) = c) = False := eq_false (fun e => h0 e.symm)
  have f1 : ((1 : Int) = c) = False := eq_false (fun e => h1 e.symm)
  have f4 : ((4 : Int) = c) = False := eq_false (fun e => h4 e.symm)
  have f10 : ((10 : Int) = c) = False := eq_false (fun e => h10 e.symm)
  have e : isC c = false := by simp [isC, h0, h1, h4, h10]
  simp (maxSteps := 1000000) -implicitDefEqProofs only [go_sem, Nat.reduceBEq, Nat.reduceLT, Nat.reduceLeDiff, Nat.reduceEqDiff, Nat.reduceAdd, Nat.reduceMul, Nat.reduceSub, reduceIte, reduceCtorEq, Int.reduceLT, Int.reduceLE, Int.reduceToNat, Int.reduceAdd, Int.reduceSub, Int.reduceNeg, Int.reduceEq, Int.reduceNe, Int.reduceBEq, Int.reduceBNe, BitVec.reduceBEq, BitVec.reduceBNe, BitVec.reduceOfInt, BitVec.reduceSetWidth, -List.reduceReplicate, sumL, fnC, f0, f1, f4, f10]
  rw [e]
  exact Fin.flatv (fun _ => rfl) (fun _ => rfl) ⟨rfl, rfl, rfl⟩
theorem sizeOk (c : Int) : CallG false Try.prog 20 [.int .i64 c] (fun _ => true) [] 0 fun v m nx => v = .int .i64 ((chk c []).length : Nat) ∧ m = [] ∧ nx = 0 := by
  refine fn_okG Try.func20 rfl (by show 1 ≤ _; decide) ?_
  simp (maxSteps := 1000000) -implicitDefEqProofs only [go_sem, Nat.reduceBEq, Nat.reduceLT, Nat.reduceLeDiff, Nat.reduceEqDiff, Nat.reduceAdd, Nat.reduceMul, Nat.reduceSub, reduceIte, reduceCtorEq, Int.reduceLT, Int.reduceLE, Int.reduceToNat, Int.reduceAdd, Int.reduceSub, Int.reduceNeg, Int.reduceEq, Int.reduceNe, Int.reduceBEq, Int.reduceBNe, BitVec.reduceBEq, BitVec.reduceBNe, BitVec.reduceOfInt, BitVec.reduceSetWidth, -List.reduceReplicate, Try.results20, Try.ntmps20]
  refine (CallG.by1 (args := [.int .i64 c, .nils]) (sumOk c [] (by decide)) rfl nd0 lt0 ⟨rfl, ⟨rfl, rfl⟩, trivial⟩).weak ?_
  rintro v m nx ⟨ns, b1, b2, b3, g⟩
  obtain ⟨q1, q2, q3, q4, q5⟩ := b1.facts
  have q6 := b1.len Try.prog 22
  simp (maxSteps := 1000000) -implicitDefEqProofs only [go_sem, Nat.reduceBEq, Nat.reduceLT, Nat.reduceLeDiff, Nat.reduceEqDiff, Nat.reduceAdd, Nat.reduceMul, Nat.reduceSub, reduceIte, reduceCtorEq, Int.reduceLT, Int.reduceLE, Int.reduceToNat, Int.reduceAdd, Int.reduceSub, Int.reduceNeg, Int.reduceEq, Int.reduceNe, Int.reduceBEq, Int.reduceBNe, BitVec.reduceBEq, BitVec.reduceBNe, BitVec.reduceOfInt, BitVec.reduceSetWidth, -List.reduceReplicate, q1, q2, q3, q4, q6]
  exact Fin.flatv (fun _ => rfl) (fun _ => rfl) ⟨rfl, rfl, rfl⟩
end Go.Proofs.Ytmdeoikpiiambaa
