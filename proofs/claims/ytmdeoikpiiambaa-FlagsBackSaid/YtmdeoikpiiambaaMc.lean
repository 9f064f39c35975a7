/- SHA-256: the document: roots, bytes that are padded. -/
import Derived.Test.YtmdeoikpiiambaaEng35
import Derived.Test.YtmdeoikpiiambaaMb
set_option linter.unusedVariables false
set_option linter.unusedSimpArgs false
set_option maxRecDepth 100000
/-! Shg -/
namespace Go.Proofs.Ytmdeoikpiiambaa
open Go Go.Eng
def pw (n : Nat) : BitVec 64 := BitVec.ofNat 64 (256 ^ (7 - n))
theorem pw_step : ∀ n : Fin 8, (pw n.val / 256#64).toNat = if n.val + 1 < 8 then (pw (n.val + 1)).toNat else 0 := by decide
theorem pw_pos : ∀ n : Fin 8, 0 < (pw n.val).toNat := by decide
/-- eight bytes of a number, by its quotients -/
def ry8 (m : BitVec 64) : Nat → List (BitVec 8)
  | 0 => []
  | n + 1 => ry8 m n ++ [(m / pw n % 256#64).setWidth 8]
theorem ry8_len (m : BitVec 64) (n : Nat) : (ry8 m n).length = n := by
  induction n with
  | zero => rfl
  | succ n ih => simp [ry8, ih]
def rpE (b : List (BitVec 8)) (m : BitVec 64) (n : Nat) : List (BitVec 8) := padZ b (zN b.length) ++ ry8 m n
theorem rpE_len (b : List (BitVec 8)) (m : BitVec 64) (n : Nat) : (rpE b m n).length = b.length + 1 + zN b.length + n := by simp [rpE, padZ_len, ry8_len]
theorem rpE_succ (b : List (BitVec 8)) (m : BitVec 64) (n : Nat) : rpE b m n ++ [(m / pw n % 256#64).setWidth 8] = rpE b m (n + 1) := by simp [rpE, ry8]
def padR (b : List (BitVec 8)) : List (BitVec 8) := rpE b (8#64 * BitVec.ofNat 64 b.length) 8
set_option maxHeartbeats 800000 in
theorem rpadOk (b : List (BitVec 8)) (hb : b.length ≤ 100000) : CallOk Try.prog 138 [.ro b.length (bvs .u8 b)] (fun _ => true) [] 0 (Rets idG .u8 (padR b) 5) := by
  refine fn_ok Try.func138 rfl (by show 1 ≤ _; decide) ?_
  have hzN : zN b.length < 64 := Nat.mod_lt _ (by decide)
  simp (maxSteps := 1000000) -implicitDefEqProofs only [go_sem, Nat.reduceBEq, Nat.reduceLT, Nat.reduceLeDiff, Nat.reduceEqDiff, Nat.reduceAdd, Nat.reduceMul, Nat.reduceSub, reduceIte, reduceCtorEq, Int.reduceLT, Int.reduceLE, Int.reduceToNat, Int.reduceAdd, Int.reduceSub, Int.reduceNeg, Int.reduceEq, Int.reduceNe, Int.reduceBEq, Int.reduceBNe, BitVec.reduceBEq, BitVec.reduceBNe, BitVec.reduceOfInt, BitVec.reduceSetWidth, -List.reduceReplicate, Try.results138, Try.ntmps138, List.take_length]
  refine ⟨.inl trivial, ?_⟩
  refine appk_bvs (x := ([] : List (BitVec 8))) (sp := []) rfl rfl rfl (by decide) (by decide) (by rw [List.length_nil]; omega) fun cap1 sp1 g1 g2 => ?_
  simp only [List.nil_append] at g1
  simp (maxSteps := 1000000) -implicitDefEqProofs only [go_sem, Nat.reduceBEq, Nat.reduceLT, Nat.reduceLeDiff, Nat.reduceEqDiff, Nat.reduceAdd, Nat.reduceMul, Nat.reduceSub, reduceIte, reduceCtorEq, Int.reduceLT, Int.reduceLE, Int.reduceToNat, Int.reduceAdd, Int.reduceSub, Int.reduceNeg, Int.reduceEq, Int.reduceNe, Int.reduceBEq, Int.reduceBNe, BitVec.reduceBEq, BitVec.reduceBNe, BitVec.reduceOfInt, BitVec.reduceSetWidth, -List.reduceReplicate]
  refine ⟨.inr trivial, rfl, rfl, ?_⟩
  refine appk_bvs (x := b) (y := [128#8]) (sp := sp1) (n := 1) rfl rfl g1 g2 (by decide) (by simp only [List.length_cons, List.length_nil]; omega) fun cap2 sp2 g3 g4 => ?_
  have hp0 : b ++ [128#8] = padZ b 0 := by simp [padZ]
  rw [hp0]
  rw [hp0] at g3
  simp (maxSteps := 1000000) -implicitDefEqProofs only [go_sem, Nat.reduceBEq, Nat.reduceLT, Nat.reduceLeDiff, Nat.reduceEqDiff, Nat.reduceAdd, Nat.reduceMul, Nat.reduceSub, reduceIte, reduceCtorEq, Int.reduceLT, Int.reduceLE, Int.reduceToNat, Int.reduceAdd, Int.reduceSub, Int.reduceNeg, Int.reduceEq, Int.reduceNe, Int.reduceBEq, Int.reduceBNe, BitVec.reduceBEq, BitVec.reduceBNe, BitVec.reduceOfInt, BitVec.reduceSetWidth, -List.reduceReplicate]
  refine LoopOk.upX (fun n x => (padZ b n).length + x.2.length = x.1 ∧ x.1 ≤ maxI) (zN b.length) (fun n x => ([(3, .sl 0 0 (padZ b n).length x.1), (0, .ro b.length (bvs .u8 b))], [(0, .cells (bvs .u8 (padZ b n) ++ x.2.map AV.val) 5)], 1)) (cap2, sp2) ⟨g3, g4⟩ ?_ ?_
  · exact Le.ap (n := 3) rfl (look_hd _ _ _) rfl ⟨rfl, trivial⟩ (by simp only [List.all_cons, List.all_nil, flatro, flatroL_bvs, Bool.and_self])
  intro n x ⟨hn, hq1, hq2⟩
  have hzl := padZ_len b n
  have hzm : ((padZ b n).length : Int).tmod 64 = (((b.length + 1 + n) % 64 : Nat) : Int) := by rw [hzl, Int.tmod_eq_emod_of_nonneg (by omega)]; omega
  rcases Nat.lt_or_ge n (zN b.length) with h' | h'
  · have f1 : ((((b.length + 1 + n) % 64 : Nat) : Int) != 56) = true := by
      rw [bne_iff_ne]; unfold zN at h'; omega
    simp (maxSteps := 1000000) -implicitDefEqProofs only [go_sem, Nat.reduceBEq, Nat.reduceLT, Nat.reduceLeDiff, Nat.reduceEqDiff, Nat.reduceAdd, Nat.reduceMul, Nat.reduceSub, reduceIte, reduceCtorEq, Int.reduceLT, Int.reduceLE, Int.reduceToNat, Int.reduceAdd, Int.reduceSub, Int.reduceNeg, Int.reduceEq, Int.reduceNe, Int.reduceBEq, Int.reduceBNe, BitVec.reduceBEq, BitVec.reduceBNe, BitVec.reduceOfInt, BitVec.reduceSetWidth, -List.reduceReplicate, hzm, f1]
    refine ⟨.inr trivial, rfl, rfl, ?_⟩
    refine appk_bvs (x := padZ b n) (y := [0#8]) (sp := x.2) (n := 0) rfl rfl hq1 hq2 (by decide) (by simp only [List.length_cons, List.length_nil]; omega) fun cap3 sp3 g5 g6 => ?_
    rw [padZ_succ]
    rw [padZ_succ] at g5
    simp (maxSteps := 1000000) -implicitDefEqProofs only [go_sem, Nat.reduceBEq, Nat.reduceLT, Nat.reduceLeDiff, Nat.reduceEqDiff, Nat.reduceAdd, Nat.reduceMul, Nat.reduceSub, reduceIte, reduceCtorEq, Int.reduceLT, Int.reduceLE, Int.reduceToNat, Int.reduceAdd, Int.reduceSub, Int.reduceNeg, Int.reduceEq, Int.reduceNe, Int.reduceBEq, Int.reduceBNe, BitVec.reduceBEq, BitVec.reduceBNe, BitVec.reduceOfInt, BitVec.reduceSetWidth, -List.reduceReplicate]
    refine UpX_normal h' (cap3, sp3) ⟨g5, g6⟩ (Le.ap (n := 2) rfl (look_hd _ _ _) rfl ⟨rfl, trivial⟩ (by simp only [List.all_cons, List.all_nil, flatro, flatroL_bvs, Bool.and_self]))
  · have hnz : n = zN b.length := by omega
    subst hnz
    have f1 : ((((b.length + 1 + zN b.length) % 64 : Nat) : Int) != 56) = false := by
      have : (b.length + 1 + zN b.length) % 64 = 56 := by unfold zN; omega
      rw [this]; rfl
    have he0 : padZ b (zN b.length) = rpE b (8#64 * BitVec.ofNat 64 b.length) 0 := by simp [rpE, ry8]
    have hR : padR b = rpE b (8#64 * BitVec.ofNat 64 b.length) 8 := rfl
    rw [hR]
    simp (maxSteps := 1000000) -implicitDefEqProofs only [go_sem, Nat.reduceBEq, Nat.reduceLT, Nat.reduceLeDiff, Nat.reduceEqDiff, Nat.reduceAdd, Nat.reduceMul, Nat.reduceSub, reduceIte, reduceCtorEq, Int.reduceLT, Int.reduceLE, Int.reduceToNat, Int.reduceAdd, Int.reduceSub, Int.reduceNeg, Int.reduceEq, Int.reduceNe, Int.reduceBEq, Int.reduceBNe, BitVec.reduceBEq, BitVec.reduceBNe, BitVec.reduceOfInt, BitVec.reduceSetWidth, -List.reduceReplicate, hzm, f1]
    rw [he0]
    rw [he0] at hq1
    generalize 8#64 * BitVec.ofNat 64 b.length = m8 at *
    refine LoopOk.upX (fun n x => (rpE b m8 n).length + x.2.length = x.1 ∧ x.1 ≤ maxI) 8 (fun n x => ([(3, .sl 0 0 (rpE b m8 n).length x.1), (6, .int .i64 n), (5, .int .u64 ((if n < 8 then (pw n).toNat else 0 : Nat) : Int)), (4, .int .u64 (m8.toNat : Int)), (0, .ro b.length (bvs .u8 b))], [(0, .cells (bvs .u8 (rpE b m8 n) ++ x.2.map AV.val) 5)], 1)) x ⟨hq1, hq2⟩ ?_ ?_
    · exact Le.ap (n := 0) rfl (look_hd _ _ _) rfl ⟨rfl, rfl, rfl, rfl, trivial⟩ (by simp only [List.all_cons, List.all_nil, flatro, flatroL_bvs, Bool.and_self])
    clear hzl hzm hq1 hq2 he0 f1
    intro n x ⟨hn, hq1, hq2⟩
    have hel := rpE_len b m8 n
    have wn : IntKind.i64.wrap ((n : Int) + 1) = ((n + 1 : Nat) : Int) := by rw [wrap_i64] <;> omega
    rcases Nat.lt_or_ge n 8 with h8 | h8
    · have f1 : decide ((n : Int) < 8) = true := by simp; omega
      have hpn : (if n < 8 then (pw n).toNat else 0 : Nat) = (pw n).toNat := if_pos h8
      rw [hpn]
      have hdv : (m8.toNat : Int).tdiv ((pw n).toNat : Int) = ((m8 / pw n).toNat : Int) := by
        rw [Int.tdiv_eq_ediv_of_nonneg (by omega), BitVec.toNat_udiv, Int.natCast_ediv]
      have hps := pw_step ⟨n, h8⟩
      have hp0 := pw_pos ⟨n, h8⟩
      simp only at hps hp0
      simp (maxSteps := 1000000) -implicitDefEqProofs only [go_sem, Nat.reduceBEq, Nat.reduceLT, Nat.reduceLeDiff, Nat.reduceEqDiff, Nat.reduceAdd, Nat.reduceMul, Nat.reduceSub, reduceIte, reduceCtorEq, Int.reduceLT, Int.reduceLE, Int.reduceToNat, Int.reduceAdd, Int.reduceSub, Int.reduceNeg, Int.reduceEq, Int.reduceNe, Int.reduceBEq, Int.reduceBNe, BitVec.reduceBEq, BitVec.reduceBNe, BitVec.reduceOfInt, BitVec.reduceSetWidth, -List.reduceReplicate, f1, hdv]
      refine ⟨by omega, .inr trivial, rfl, ?_⟩
      refine appk_bvs (x := rpE b m8 n) (y := [(m8 / pw n % 256#64).setWidth 8]) (sp := x.2) (n := 0) rfl rfl hq1 hq2 (by decide) (by simp only [List.length_cons, List.length_nil]; omega) fun cap3 sp3 g5 g6 => ?_
      rw [rpE_succ]
      rw [rpE_succ] at g5
      simp (maxSteps := 1000000) -implicitDefEqProofs only [go_sem, Nat.reduceBEq, Nat.reduceLT, Nat.reduceLeDiff, Nat.reduceEqDiff, Nat.reduceAdd, Nat.reduceMul, Nat.reduceSub, reduceIte, reduceCtorEq, Int.reduceLT, Int.reduceLE, Int.reduceToNat, Int.reduceAdd, Int.reduceSub, Int.reduceNeg, Int.reduceEq, Int.reduceNe, Int.reduceBEq, Int.reduceBNe, BitVec.reduceBEq, BitVec.reduceBNe, BitVec.reduceOfInt, BitVec.reduceSetWidth, -List.reduceReplicate, wn]
      refine UpX_normal h8 (cap3, sp3) ⟨g5, g6⟩ (Le.ap (n := 2) rfl (look_hd _ _ _) rfl ⟨rfl, ?_, rfl, rfl, trivial⟩ (by simp only [List.all_cons, List.all_nil, flatro, flatroL_bvs, Bool.and_self]))
      rw [← hps]
      rfl
    · have hn8 : n = 8 := by omega
      subst hn8
      have f1 : decide ((8 : Int) < 8) = false := rfl
      simp (maxSteps := 1000000) -implicitDefEqProofs only [go_sem, Nat.reduceBEq, Nat.reduceLT, Nat.reduceLeDiff, Nat.reduceEqDiff, Nat.reduceAdd, Nat.reduceMul, Nat.reduceSub, reduceIte, reduceCtorEq, Int.reduceLT, Int.reduceLE, Int.reduceToNat, Int.reduceAdd, Int.reduceSub, Int.reduceNeg, Int.reduceEq, Int.reduceNe, Int.reduceBEq, Int.reduceBNe, BitVec.reduceBEq, BitVec.reduceBNe, BitVec.reduceOfInt, BitVec.reduceSetWidth, -List.reduceReplicate, f1]
      exact Fin.sl rfl idG (fun _ _ => rfl) (fun _ => rfl) (look_hd _ _ _)
end Go.Proofs.Ytmdeoikpiiambaa
/-! Shh -/
namespace Go.Proofs.Ytmdeoikpiiambaa
open Go Go.Eng
def mulM (a b : BitVec 64) : BitVec 64 := a % 4294967296#64 * (b % 4294967296#64) / 4294967296#64 + a / 4294967296#64 * (b % 4294967296#64) % 4294967296#64 + a % 4294967296#64 * (b / 4294967296#64) % 4294967296#64
def mulH (a b : BitVec 64) : BitVec 64 := a / 4294967296#64 * (b / 4294967296#64) + a / 4294967296#64 * (b % 4294967296#64) / 4294967296#64 + a % 4294967296#64 * (b / 4294967296#64) / 4294967296#64 + mulM a b / 4294967296#64
def mulL (a b : BitVec 64) : BitVec 64 := mulM a b % 4294967296#64 * 4294967296#64 + a % 4294967296#64 * (b % 4294967296#64) % 4294967296#64
theorem mulOk (a b : BitVec 64) : CallOk Try.prog 201 [.int .u64 (a.toNat : Int), .int .u64 (b.toNat : Int)] (fun _ => true) [] 0 fun v m nx => v = .tup [.int .u64 ((mulH a b).toNat : Int), .int .u64 ((mulL a b).toNat : Int)] ∧ m = [] ∧ nx = 0 := by
  refine fn_ok Try.func201 rfl (by show 2 ≤ _; decide) ?_
  simp (maxSteps := 1000000) -implicitDefEqProofs only [go_sem, Nat.reduceBEq, Nat.reduceLT, Nat.reduceLeDiff, Nat.reduceEqDiff, Nat.reduceAdd, Nat.reduceMul, Nat.reduceSub, reduceIte, reduceCtorEq, Int.reduceLT, Int.reduceLE, Int.reduceToNat, Int.reduceAdd, Int.reduceSub, Int.reduceNeg, Int.reduceEq, Int.reduceNe, Int.reduceBEq, Int.reduceBNe, BitVec.reduceBEq, BitVec.reduceBNe, BitVec.reduceOfInt, BitVec.reduceSetWidth, -List.reduceReplicate, Try.results201, Try.ntmps201]
  exact Fin.flatv (fun _ => rfl) (fun f => rfl) ⟨rfl, rfl, rfl⟩
def bitS (k : Nat) : BitVec 64 := 68719476736#64 >>> k
def sqN (v : BitVec 64) : Nat → BitVec 64
  | 0 => 0#64
  | k + 1 => if decide (((mulH (sqN v k + bitS k) (sqN v k + bitS k)).toNat : Int) < (v.toNat : Int)) then sqN v k + bitS k else sqN v k
def squareW (v : BitVec 64) : BitVec 32 := (sqN v 37 % 4294967296#64).setWidth 32
theorem bitS_succ (k : Nat) : bitS k / 2#64 = bitS (k + 1) := by
  apply BitVec.eq_of_toNat_eq
  have e2 : (2#64).toNat = 2 := rfl
  rw [bitS, bitS, BitVec.toNat_udiv, BitVec.toNat_ushiftRight, BitVec.toNat_ushiftRight, e2, Nat.shiftRight_succ]
theorem bitS_pos : ∀ k : Fin 37, decide (((bitS k.val).toNat : Int) > 0) = true := by decide
theorem squareOk (v : BitVec 64) : CallOk Try.prog 181 [.int .u64 (v.toNat : Int)] (fun _ => true) [] 0 fun r m nx => r = .int .u32 ((squareW v).toNat : Int) ∧ m = [] ∧ nx = 0 := by
  refine fn_ok Try.func181 rfl (by show 1 ≤ _; decide) ?_
  simp (maxSteps := 1000000) -implicitDefEqProofs only [go_sem, Nat.reduceBEq, Nat.reduceLT, Nat.reduceLeDiff, Nat.reduceEqDiff, Nat.reduceAdd, Nat.reduceMul, Nat.reduceSub, reduceIte, reduceCtorEq, Int.reduceLT, Int.reduceLE, Int.reduceToNat, Int.reduceAdd, Int.reduceSub, Int.reduceNeg, Int.reduceEq, Int.reduceNe, Int.reduceBEq, Int.reduceBNe, BitVec.reduceBEq, BitVec.reduceBNe, BitVec.reduceOfInt, BitVec.reduceSetWidth, -List.reduceReplicate, Try.results181, Try.ntmps181]
  refine LoopOk.up 37 (fun k => ([(4, .int .u64 ((bitS k).toNat : Int)), (3, .int .u64 ((sqN v k).toNat : Int)), (0, .int .u64 (v.toNat : Int))], [], 0)) (Le.sameM ⟨rfl, rfl, rfl, trivial⟩ List.nodup_nil) ?_
  intro k hk
  have hbs := bitS_succ k
  have hnx : sqN v (k + 1) = if decide (((mulH (sqN v k + bitS k) (sqN v k + bitS k)).toNat : Int) < (v.toNat : Int)) then sqN v k + bitS k else sqN v k := rfl
  rcases Nat.lt_or_ge k 37 with h' | h'
  · have f1 : decide (((bitS k).toNat : Int) > 0) = true := bitS_pos ⟨k, h'⟩
    simp (maxSteps := 1000000) -implicitDefEqProofs only [go_sem, Nat.reduceBEq, Nat.reduceLT, Nat.reduceLeDiff, Nat.reduceEqDiff, Nat.reduceAdd, Nat.reduceMul, Nat.reduceSub, reduceIte, reduceCtorEq, Int.reduceLT, Int.reduceLE, Int.reduceToNat, Int.reduceAdd, Int.reduceSub, Int.reduceNeg, Int.reduceEq, Int.reduceNe, Int.reduceBEq, Int.reduceBNe, BitVec.reduceBEq, BitVec.reduceBNe, BitVec.reduceOfInt, BitVec.reduceSetWidth, -List.reduceReplicate, f1]
    refine (mulOk (sqN v k + bitS k) (sqN v k + bitS k)).flatv (by simp only [argsx, argx_int, argx_bool, argx_fn, argx_ro, argx_nils, eq_self, true_and, and_true, and_self]; try trivial) (fun _ => rfl) rfl ?_
    cases f2 : decide (((mulH (sqN v k + bitS k) (sqN v k + bitS k)).toNat : Int) < (v.toNat : Int)) with
    | true =>
      rw [f2, if_pos rfl] at hnx
      simp (maxSteps := 1000000) -implicitDefEqProofs only [go_sem, Nat.reduceBEq, Nat.reduceLT, Nat.reduceLeDiff, Nat.reduceEqDiff, Nat.reduceAdd, Nat.reduceMul, Nat.reduceSub, reduceIte, reduceCtorEq, Int.reduceLT, Int.reduceLE, Int.reduceToNat, Int.reduceAdd, Int.reduceSub, Int.reduceNeg, Int.reduceEq, Int.reduceNe, Int.reduceBEq, Int.reduceBNe, BitVec.reduceBEq, BitVec.reduceBNe, BitVec.reduceOfInt, BitVec.reduceSetWidth, -List.reduceReplicate, f2, hbs]
      exact UpK_normal h' (Le.sameM ⟨rfl, by rw [hnx]; rfl, rfl, trivial⟩ List.nodup_nil)
    | false =>
      rw [f2, if_neg (by decide)] at hnx
      simp (maxSteps := 1000000) -implicitDefEqProofs only [go_sem, Nat.reduceBEq, Nat.reduceLT, Nat.reduceLeDiff, Nat.reduceEqDiff, Nat.reduceAdd, Nat.reduceMul, Nat.reduceSub, reduceIte, reduceCtorEq, Int.reduceLT, Int.reduceLE, Int.reduceToNat, Int.reduceAdd, Int.reduceSub, Int.reduceNeg, Int.reduceEq, Int.reduceNe, Int.reduceBEq, Int.reduceBNe, BitVec.reduceBEq, BitVec.reduceBNe, BitVec.reduceOfInt, BitVec.reduceSetWidth, -List.reduceReplicate, f2, hbs]
      exact UpK_normal h' (Le.sameM ⟨rfl, by rw [hnx]; rfl, rfl, trivial⟩ List.nodup_nil)
  · have hk : k = 37 := by omega
    subst hk
    have f1 : decide (((bitS 37).toNat : Int) > 0) = false := by decide
    simp (maxSteps := 1000000) -implicitDefEqProofs only [go_sem, Nat.reduceBEq, Nat.reduceLT, Nat.reduceLeDiff, Nat.reduceEqDiff, Nat.reduceAdd, Nat.reduceMul, Nat.reduceSub, reduceIte, reduceCtorEq, Int.reduceLT, Int.reduceLE, Int.reduceToNat, Int.reduceAdd, Int.reduceSub, Int.reduceNeg, Int.reduceEq, Int.reduceNe, Int.reduceBEq, Int.reduceBNe, BitVec.reduceBEq, BitVec.reduceBNe, BitVec.reduceOfInt, BitVec.reduceSetWidth, -List.reduceReplicate, f1]
    exact Fin.flatv (fun _ => rfl) (fun f => rfl) ⟨rfl, rfl, rfl⟩
def bitC (k : Nat) : BitVec 64 := 34359738368#64 >>> k
def cbA (y : BitVec 64) : BitVec 64 := mulH (mulH y y) y
def cbB (y : BitVec 64) : BitVec 64 := mulL (mulH y y) y
def cbC (y : BitVec 64) : BitVec 64 := mulH (mulL y y) y
def cbT (v y : BitVec 64) : Bool := if decide (((cbB y + cbC y).toNat : Int) < ((cbB y).toNat : Int)) then (cbA y + 1#64 == 0#64) && decide ((((cbB y + cbC y) / 4294967296#64).toNat : Int) < (v.toNat : Int)) else (cbA y == 0#64) && decide ((((cbB y + cbC y) / 4294967296#64).toNat : Int) < (v.toNat : Int))
def cbN (v : BitVec 64) : Nat → BitVec 64
  | 0 => 0#64
  | k + 1 => if cbT v (cbN v k + bitC k) then cbN v k + bitC k else cbN v k
def cubeW (v : BitVec 64) : BitVec 32 := (cbN v 36 % 4294967296#64).setWidth 32
theorem bitC_succ (k : Nat) : bitC k / 2#64 = bitC (k + 1) := by
  apply BitVec.eq_of_toNat_eq
  have e2 : (2#64).toNat = 2 := rfl
  rw [bitC, bitC, BitVec.toNat_udiv, BitVec.toNat_ushiftRight, BitVec.toNat_ushiftRight, e2, Nat.shiftRight_succ]
theorem bitC_pos : ∀ k : Fin 36, decide (((bitC k.val).toNat : Int) > 0) = true := by decide
set_option maxHeartbeats 800000 in
theorem cubeOk (v : BitVec 64) : CallOk Try.prog 182 [.int .u64 (v.toNat : Int)] (fun _ => true) [] 0 fun r m nx => r = .int .u32 ((cubeW v).toNat : Int) ∧ m = [] ∧ nx = 0 := by
  refine fn_ok Try.func182 rfl (by show 1 ≤ _; decide) ?_
  simp (maxSteps := 1000000) -implicitDefEqProofs only [go_sem, Nat.reduceBEq, Nat.reduceLT, Nat.reduceLeDiff, Nat.reduceEqDiff, Nat.reduceAdd, Nat.reduceMul, Nat.reduceSub, reduceIte, reduceCtorEq, Int.reduceLT, Int.reduceLE, Int.reduceToNat, Int.reduceAdd, Int.reduceSub, Int.reduceNeg, Int.reduceEq, Int.reduceNe, Int.reduceBEq, Int.reduceBNe, BitVec.reduceBEq, BitVec.reduceBNe, BitVec.reduceOfInt, BitVec.reduceSetWidth, -List.reduceReplicate, Try.results182, Try.ntmps182]
  refine LoopOk.up 36 (fun k => ([(4, .int .u64 ((bitC k).toNat : Int)), (3, .int .u64 ((cbN v k).toNat : Int)), (0, .int .u64 (v.toNat : Int))], [], 0)) (Le.sameM ⟨rfl, rfl, rfl, trivial⟩ List.nodup_nil) ?_
  intro k hk
  have hbs := bitC_succ k
  have hnx : cbN v (k + 1) = if cbT v (cbN v k + bitC k) then cbN v k + bitC k else cbN v k := rfl
  rcases Nat.lt_or_ge k 36 with h' | h'
  · have f1 : decide (((bitC k).toNat : Int) > 0) = true := bitC_pos ⟨k, h'⟩
    simp (maxSteps := 1000000) -implicitDefEqProofs only [go_sem, Nat.reduceBEq, Nat.reduceLT, Nat.reduceLeDiff, Nat.reduceEqDiff, Nat.reduceAdd, Nat.reduceMul, Nat.reduceSub, reduceIte, reduceCtorEq, Int.reduceLT, Int.reduceLE, Int.reduceToNat, Int.reduceAdd, Int.reduceSub, Int.reduceNeg, Int.reduceEq, Int.reduceNe, Int.reduceBEq, Int.reduceBNe, BitVec.reduceBEq, BitVec.reduceBNe, BitVec.reduceOfInt, BitVec.reduceSetWidth, -List.reduceReplicate, f1]
    obtain ⟨y, hy⟩ : ∃ y, y = cbN v k + bitC k := ⟨_, rfl⟩
    rw [← hy] at hnx ⊢
    have hA : mulH (mulH y y) y = cbA y := rfl
    have hB : mulL (mulH y y) y = cbB y := rfl
    have hC : mulH (mulL y y) y = cbC y := rfl
    refine (mulOk y y).flatv (by simp only [argsx, argx_int, argx_bool, argx_fn, argx_ro, argx_nils, eq_self, true_and, and_true, and_self]; try trivial) (fun _ => rfl) rfl ?_
    simp (maxSteps := 1000000) -implicitDefEqProofs only [go_sem, Nat.reduceBEq, Nat.reduceLT, Nat.reduceLeDiff, Nat.reduceEqDiff, Nat.reduceAdd, Nat.reduceMul, Nat.reduceSub, reduceIte, reduceCtorEq, Int.reduceLT, Int.reduceLE, Int.reduceToNat, Int.reduceAdd, Int.reduceSub, Int.reduceNeg, Int.reduceEq, Int.reduceNe, Int.reduceBEq, Int.reduceBNe, BitVec.reduceBEq, BitVec.reduceBNe, BitVec.reduceOfInt, BitVec.reduceSetWidth, -List.reduceReplicate]
    refine (mulOk (mulH y y) y).flatv (by simp only [argsx, argx_int, argx_bool, argx_fn, argx_ro, argx_nils, eq_self, true_and, and_true, and_self]; try trivial) (fun _ => rfl) rfl ?_
    simp (maxSteps := 1000000) -implicitDefEqProofs only [go_sem, Nat.reduceBEq, Nat.reduceLT, Nat.reduceLeDiff, Nat.reduceEqDiff, Nat.reduceAdd, Nat.reduceMul, Nat.reduceSub, reduceIte, reduceCtorEq, Int.reduceLT, Int.reduceLE, Int.reduceToNat, Int.reduceAdd, Int.reduceSub, Int.reduceNeg, Int.reduceEq, Int.reduceNe, Int.reduceBEq, Int.reduceBNe, BitVec.reduceBEq, BitVec.reduceBNe, BitVec.reduceOfInt, BitVec.reduceSetWidth, -List.reduceReplicate]
    refine (mulOk (mulL y y) y).flatv (by simp only [argsx, argx_int, argx_bool, argx_fn, argx_ro, argx_nils, eq_self, true_and, and_true, and_self]; try trivial) (fun _ => rfl) rfl ?_
    rw [hA, hB, hC]
    cases f2 : decide (((cbB y + cbC y).toNat : Int) < ((cbB y).toNat : Int)) with
    | true =>
      have hT : cbT v y = ((cbA y + 1#64 == 0#64) && decide ((((cbB y + cbC y) / 4294967296#64).toNat : Int) < (v.toNat : Int))) := by rw [cbT, f2, if_pos rfl]
      cases f3 : (cbA y + 1#64 == 0#64) with
      | true =>
        cases f4 : decide ((((cbB y + cbC y) / 4294967296#64).toNat : Int) < (v.toNat : Int)) with
        | true =>
          rw [hT, f3, f4] at hnx
          simp (maxSteps := 1000000) -implicitDefEqProofs only [go_sem, Nat.reduceBEq, Nat.reduceLT, Nat.reduceLeDiff, Nat.reduceEqDiff, Nat.reduceAdd, Nat.reduceMul, Nat.reduceSub, reduceIte, reduceCtorEq, Int.reduceLT, Int.reduceLE, Int.reduceToNat, Int.reduceAdd, Int.reduceSub, Int.reduceNeg, Int.reduceEq, Int.reduceNe, Int.reduceBEq, Int.reduceBNe, BitVec.reduceBEq, BitVec.reduceBNe, BitVec.reduceOfInt, BitVec.reduceSetWidth, -List.reduceReplicate, f2, f3, f4, hbs]
          exact UpK_normal h' (Le.sameM ⟨rfl, by rw [hnx]; rfl, rfl, trivial⟩ List.nodup_nil)
        | false =>
          rw [hT, f3, f4] at hnx
          simp (maxSteps := 1000000) -implicitDefEqProofs only [go_sem, Nat.reduceBEq, Nat.reduceLT, Nat.reduceLeDiff, Nat.reduceEqDiff, Nat.reduceAdd, Nat.reduceMul, Nat.reduceSub, reduceIte, reduceCtorEq, Int.reduceLT, Int.reduceLE, Int.reduceToNat, Int.reduceAdd, Int.reduceSub, Int.reduceNeg, Int.reduceEq, Int.reduceNe, Int.reduceBEq, Int.reduceBNe, BitVec.reduceBEq, BitVec.reduceBNe, BitVec.reduceOfInt, BitVec.reduceSetWidth, -List.reduceReplicate, f2, f3, f4, hbs]
          exact UpK_normal h' (Le.sameM ⟨rfl, by rw [hnx]; rfl, rfl, trivial⟩ List.nodup_nil)
      | false =>
        rw [hT, f3] at hnx
        simp (maxSteps := 1000000) -implicitDefEqProofs only [go_sem, Nat.reduceBEq, Nat.reduceLT, Nat.reduceLeDiff, Nat.reduceEqDiff, Nat.reduceAdd, Nat.reduceMul, Nat.reduceSub, reduceIte, reduceCtorEq, Int.reduceLT, Int.reduceLE, Int.reduceToNat, Int.reduceAdd, Int.reduceSub, Int.reduceNeg, Int.reduceEq, Int.reduceNe, Int.reduceBEq, Int.reduceBNe, BitVec.reduceBEq, BitVec.reduceBNe, BitVec.reduceOfInt, BitVec.reduceSetWidth, -List.reduceReplicate, f2, f3, hbs]
        exact UpK_normal h' (Le.sameM ⟨rfl, by rw [hnx]; rfl, rfl, trivial⟩ List.nodup_nil)
    | false =>
      have hT : cbT v y = ((cbA y == 0#64) && decide ((((cbB y + cbC y) / 4294967296#64).toNat : Int) < (v.toNat : Int))) := by rw [cbT, f2, if_neg (by decide)]
      cases f3 : (cbA y == 0#64) with
      | true =>
        cases f4 : decide ((((cbB y + cbC y) / 4294967296#64).toNat : Int) < (v.toNat : Int)) with
        | true =>
          rw [hT, f3, f4] at hnx
          simp (maxSteps := 1000000) -implicitDefEqProofs only [go_sem, Nat.reduceBEq, Nat.reduceLT, Nat.reduceLeDiff, Nat.reduceEqDiff, Nat.reduceAdd, Nat.reduceMul, Nat.reduceSub, reduceIte, reduceCtorEq, Int.reduceLT, Int.reduceLE, Int.reduceToNat, Int.reduceAdd, Int.reduceSub, Int.reduceNeg, Int.reduceEq, Int.reduceNe, Int.reduceBEq, Int.reduceBNe, BitVec.reduceBEq, BitVec.reduceBNe, BitVec.reduceOfInt, BitVec.reduceSetWidth, -List.reduceReplicate, f2, f3, f4, hbs]
          exact UpK_normal h' (Le.sameM ⟨rfl, by rw [hnx]; rfl, rfl, trivial⟩ List.nodup_nil)
        | false =>
          rw [hT, f3, f4] at hnx
          simp (maxSteps := 1000000) -implicitDefEqProofs only [go_sem, Nat.reduceBEq, Nat.reduceLT, Nat.reduceLeDiff, Nat.reduceEqDiff, Nat.reduceAdd, Nat.reduceMul, Nat.reduceSub, reduceIte, reduceCtorEq, Int.reduceLT, Int.reduceLE, Int.reduceToNat, Int.reduceAdd, Int.reduceSub, Int.reduceNeg, Int.reduceEq, Int.reduceNe, Int.reduceBEq, Int.reduceBNe, BitVec.reduceBEq, BitVec.reduceBNe, BitVec.reduceOfInt, BitVec.reduceSetWidth, -List.reduceReplicate, f2, f3, f4, hbs]
          exact UpK_normal h' (Le.sameM ⟨rfl, by rw [hnx]; rfl, rfl, trivial⟩ List.nodup_nil)
      | false =>
        rw [hT, f3] at hnx
        simp (maxSteps := 1000000) -implicitDefEqProofs only [go_sem, Nat.reduceBEq, Nat.reduceLT, Nat.reduceLeDiff, Nat.reduceEqDiff, Nat.reduceAdd, Nat.reduceMul, Nat.reduceSub, reduceIte, reduceCtorEq, Int.reduceLT, Int.reduceLE, Int.reduceToNat, Int.reduceAdd, Int.reduceSub, Int.reduceNeg, Int.reduceEq, Int.reduceNe, Int.reduceBEq, Int.reduceBNe, BitVec.reduceBEq, BitVec.reduceBNe, BitVec.reduceOfInt, BitVec.reduceSetWidth, -List.reduceReplicate, f2, f3, hbs]
        exact UpK_normal h' (Le.sameM ⟨rfl, by rw [hnx]; rfl, rfl, trivial⟩ List.nodup_nil)
  · have hk : k = 36 := by omega
    subst hk
    have f1 : decide (((bitC 36).toNat : Int) > 0) = false := by decide
    simp (maxSteps := 1000000) -implicitDefEqProofs only [go_sem, Nat.reduceBEq, Nat.reduceLT, Nat.reduceLeDiff, Nat.reduceEqDiff, Nat.reduceAdd, Nat.reduceMul, Nat.reduceSub, reduceIte, reduceCtorEq, Int.reduceLT, Int.reduceLE, Int.reduceToNat, Int.reduceAdd, Int.reduceSub, Int.reduceNeg, Int.reduceEq, Int.reduceNe, Int.reduceBEq, Int.reduceBNe, BitVec.reduceBEq, BitVec.reduceBNe, BitVec.reduceOfInt, BitVec.reduceSetWidth, -List.reduceReplicate, f1]
    exact Fin.flatv (fun _ => rfl) (fun f => rfl) ⟨rfl, rfl, rfl⟩
end Go.Proofs.Ytmdeoikpiiambaa
/-! Shi -/
namespace Go.Proofs.Ytmdeoikpiiambaa
open Go Go.Eng
def isJ (l : List (BitVec 64)) (n : BitVec 64) : Nat → Bool
  | 0 => true
  | j + 1 => if n % l.getD j 0 == 0#64 then false else isJ l n j
def prL : Nat → List (BitVec 64)
  | 0 => []
  | i + 1 => if isJ (prL i) (BitVec.ofNat 64 (i + 2)) (prL i).length then prL i ++ [BitVec.ofNat 64 (i + 2)] else prL i
def primesL : List (BitVec 64) := [2#64, 3#64, 5#64, 7#64, 11#64, 13#64, 17#64, 19#64, 23#64, 29#64, 31#64, 37#64, 41#64, 43#64, 47#64, 53#64, 59#64, 61#64, 67#64, 71#64, 73#64, 79#64, 83#64, 89#64, 97#64, 101#64, 103#64, 107#64, 109#64, 113#64, 127#64, 131#64, 137#64, 139#64, 149#64, 151#64, 157#64, 163#64, 167#64, 173#64, 179#64, 181#64, 191#64, 193#64, 197#64, 199#64, 211#64, 223#64, 227#64, 229#64, 233#64, 239#64, 241#64, 251#64, 257#64, 263#64, 269#64, 271#64, 277#64, 281#64, 283#64, 293#64, 307#64, 311#64]
theorem prL_len_mono (i : Nat) : (prL i).length ≤ (prL (i + 1)).length := by
  rw [prL]
  split
  · rw [List.length_append]; omega
  · exact Nat.le_refl _
theorem prL_mono (i j : Nat) (h : i ≤ j) : (prL i).length ≤ (prL j).length := by
  induction j with
  | zero => have : i = 0 := by omega
            rw [this]; exact Nat.le_refl _
  | succ j ih =>
    rcases Nat.lt_or_ge i (j + 1) with h' | h'
    · exact Nat.le_trans (ih (by omega)) (prL_len_mono j)
    · have : i = j + 1 := by omega
      rw [this]; exact Nat.le_refl _
theorem prL_309 : (prL 309).length = 63 := by kernel_rfl
theorem prL_310 : prL 310 = primesL := by kernel_rfl
theorem prL_nz (i : Nat) (hi : i ≤ 310) : ∀ x ∈ prL i, x.toNat ≠ 0 := by
  induction i with
  | zero => intro x hx; cases hx
  | succ i ih =>
    intro x hx
    rw [prL] at hx
    split at hx
    · rcases List.mem_append.1 hx with h | h
      · exact ih (by omega) x h
      · rw [List.mem_singleton.1 h, BitVec.toNat_ofNat]; omega
    · exact ih (by omega) x hx
theorem ApI_map {k : IntKind} {ty w : Nat} {X : List (BitVec w)} {x : AV × Mem × Nat} (h : ApI k ty X x) : mapOf [x.1] = none := by
  rcases h with ⟨_, rfl⟩ | ⟨cap, sp, rfl, _⟩
  · rfl
  · rfl
theorem ApI_len {P : Program} {k : IntKind} {ty w : Nat} {X : List (BitVec w)} {x : AV × Mem × Nat} (h : ApI k ty X x) (t : TypeId) (K : AV → Prop) : lenx P t x.1 K = ((elemT P t).isSome = true ∧ K (.int .i64 X.length)) := by
  rcases h with ⟨rfl, rfl⟩ | ⟨cap, sp, rfl, _⟩
  · rfl
  · rfl
theorem nat_step (i : Nat) : BitVec.ofNat 64 (i + 2) + 1#64 = BitVec.ofNat 64 (i + 1 + 2) := by
  apply BitVec.eq_of_toNat_eq
  rw [BitVec.toNat_add, BitVec.toNat_ofNat, BitVec.toNat_ofNat, BitVec.toNat_ofNat]
  omega
set_option maxHeartbeats 800000 in
theorem primesOk : CallOk Try.prog 180 [.int .i64 64] (fun _ => true) [] 0 (Rets idG .u64 primesL 116) := by
  refine fn_ok Try.func180 rfl (by show 1 ≤ _; decide) ?_
  simp (maxSteps := 1000000) -implicitDefEqProofs only [go_sem, Nat.reduceBEq, Nat.reduceLT, Nat.reduceLeDiff, Nat.reduceEqDiff, Nat.reduceAdd, Nat.reduceMul, Nat.reduceSub, reduceIte, reduceCtorEq, Int.reduceLT, Int.reduceLE, Int.reduceToNat, Int.reduceAdd, Int.reduceSub, Int.reduceNeg, Int.reduceEq, Int.reduceNe, Int.reduceBEq, Int.reduceBNe, BitVec.reduceBEq, BitVec.reduceBNe, BitVec.reduceOfInt, BitVec.reduceSetWidth, -List.reduceReplicate, Try.results180, Try.ntmps180]
  refine LoopOk.upX (fun i x => ApI .u64 116 (prL i) x) 310 (fun i x => ((3, x.1) :: [(4, .int .u64 ((BitVec.ofNat 64 (i + 2)).toNat : Int)), (0, .int .i64 64)], x.2.1, x.2.2)) (.nils, [], 0) (ApI.nil _ _) (Le.sameT (by decide) (by simp only [-List.reduceReplicate, slotsSame, Eng.look, Nat.reduceEqDiff, reduceIte, reduceCtorEq, if_true, if_false, eq_self, true_and, and_true, Option.some.injEq, AV.int.injEq]; (try simp (disch := omega) only [wrap_i64]); (try simp [-List.reduceReplicate]); (try omega)) (by simp only [-List.reduceReplicate, memSame, Eng.look, Nat.reduceEqDiff, reduceIte, reduceCtorEq, if_true, if_false, eq_self, true_and, and_true, Option.some.injEq, AObj.cells.injEq, bvs_rep8, bvs_rep16, bvs_rep32, bvs_rep64, bvs_flat_rep, Nat.reduceMul, bvs_append, List.replicate_append_replicate, Nat.reduceAdd, bvs_inj]; try simp [-List.reduceReplicate]) (by simp [-List.reduceReplicate])) ?_
  intro i x ⟨hi, hq⟩
  have hlen := fun (K : AV → Prop) => ApI_len (P := Try.prog) hq 240 K
  have hmp := ApI_map hq
  rcases Nat.lt_or_ge i 310 with h' | h'
  · have hl63 : (prL i).length ≤ 63 := by rw [← prL_309]; exact prL_mono i 309 (by omega)
    have f1 : decide (((prL i).length : Int) < 64) = true := by simp; omega
    have hst := nat_step i
    have hnz := prL_nz i hi
    have hnext : prL (i + 1) = if isJ (prL i) (BitVec.ofNat 64 (i + 2)) (prL i).length then prL i ++ [BitVec.ofNat 64 (i + 2)] else prL i := rfl
    simp (maxSteps := 1000000) -implicitDefEqProofs only [go_sem, Nat.reduceBEq, Nat.reduceLT, Nat.reduceLeDiff, Nat.reduceEqDiff, Nat.reduceAdd, Nat.reduceMul, Nat.reduceSub, reduceIte, reduceCtorEq, Int.reduceLT, Int.reduceLE, Int.reduceToNat, Int.reduceAdd, Int.reduceSub, Int.reduceNeg, Int.reduceEq, Int.reduceNe, Int.reduceBEq, Int.reduceBNe, BitVec.reduceBEq, BitVec.reduceBNe, BitVec.reduceOfInt, BitVec.reduceSetWidth, -List.reduceReplicate, hmp, hlen, f1]
    refine LoopOk.up (prL i).length (fun j => ([(6, .int .i64 j), (5, .bool (isJ (prL i) (BitVec.ofNat 64 (i + 2)) j)), (3, x.1), (4, .int .u64 ((BitVec.ofNat 64 (i + 2)).toNat : Int)), (0, .int .i64 64)], x.2.1, x.2.2)) (Le.sameM ⟨rfl, rfl, rfl, rfl, rfl, trivial⟩ (ApI_nodup hq)) ?_
    intro j hj
    have wj : IntKind.i64.wrap ((j : Int) + 1) = ((j + 1 : Nat) : Int) := by rw [wrap_i64] <;> omega
    rcases Nat.lt_or_ge j (prL i).length with g | g
    · have f2 : decide ((j : Int) < ((prL i).length : Int)) = true := by simp; omega
      have hnd := ApI_nodup hq
      have hjn : isJ (prL i) (BitVec.ofNat 64 (i + 2)) (j + 1) = if BitVec.ofNat 64 (i + 2) % (prL i).getD j 0 == 0#64 then false else isJ (prL i) (BitVec.ofNat 64 (i + 2)) j := rfl
      have hgz : ((prL i).getD j 0).toNat ≠ 0 := by
        refine hnz _ ?_
        rw [List.getD_eq_getElem?_getD, List.getElem?_eq_getElem g]
        exact List.getElem_mem g
      rcases hq with ⟨hnil, rfl⟩ | ⟨cap, sp, rfl, hc1, hc2⟩
      · rw [hnil] at g; cases g
      have hgd := bvsS_getD .u64 (prL i) (sp.map AV.val) j g
      have htm : ((BitVec.ofNat 64 (i + 2)).toNat : Int).tmod (((prL i).getD j 0).toNat : Int) = ((BitVec.ofNat 64 (i + 2) % (prL i).getD j 0).toNat : Int) := by
        rw [Int.tmod_eq_emod_of_nonneg (by omega), BitVec.toNat_umod, Int.natCast_emod]
      cases f3 : (BitVec.ofNat 64 (i + 2) % (prL i).getD j 0 == 0#64) with
      | true =>
        rw [f3, if_pos rfl] at hjn
        simp (maxSteps := 1000000) -implicitDefEqProofs only [go_sem, Nat.reduceBEq, Nat.reduceLT, Nat.reduceLeDiff, Nat.reduceEqDiff, Nat.reduceAdd, Nat.reduceMul, Nat.reduceSub, reduceIte, reduceCtorEq, Int.reduceLT, Int.reduceLE, Int.reduceToNat, Int.reduceAdd, Int.reduceSub, Int.reduceNeg, Int.reduceEq, Int.reduceNe, Int.reduceBEq, Int.reduceBNe, BitVec.reduceBEq, BitVec.reduceBNe, BitVec.reduceOfInt, BitVec.reduceSetWidth, -List.reduceReplicate, f2, hgd, htm, f3, wj]
        exact ⟨by omega, by omega, by omega, UpK_normal g (Le.sameM ⟨rfl, by rw [hjn]; rfl, rfl, rfl, rfl, trivial⟩ hnd)⟩
      | false =>
        rw [f3, if_neg (by decide)] at hjn
        simp (maxSteps := 1000000) -implicitDefEqProofs only [go_sem, Nat.reduceBEq, Nat.reduceLT, Nat.reduceLeDiff, Nat.reduceEqDiff, Nat.reduceAdd, Nat.reduceMul, Nat.reduceSub, reduceIte, reduceCtorEq, Int.reduceLT, Int.reduceLE, Int.reduceToNat, Int.reduceAdd, Int.reduceSub, Int.reduceNeg, Int.reduceEq, Int.reduceNe, Int.reduceBEq, Int.reduceBNe, BitVec.reduceBEq, BitVec.reduceBNe, BitVec.reduceOfInt, BitVec.reduceSetWidth, -List.reduceReplicate, f2, hgd, htm, f3, wj]
        exact ⟨by omega, by omega, by omega, UpK_normal g (Le.sameM ⟨rfl, by rw [hjn]; rfl, rfl, rfl, rfl, trivial⟩ hnd)⟩
    · have hjl : j = (prL i).length := by omega
      subst hjl
      have f2 : decide (((prL i).length : Int) < ((prL i).length : Int)) = false := by simp
      cases f3 : isJ (prL i) (BitVec.ofNat 64 (i + 2)) (prL i).length with
      | true =>
        rw [f3, if_pos rfl] at hnext
        simp (maxSteps := 1000000) -implicitDefEqProofs only [go_sem, Nat.reduceBEq, Nat.reduceLT, Nat.reduceLeDiff, Nat.reduceEqDiff, Nat.reduceAdd, Nat.reduceMul, Nat.reduceSub, reduceIte, reduceCtorEq, Int.reduceLT, Int.reduceLE, Int.reduceToNat, Int.reduceAdd, Int.reduceSub, Int.reduceNeg, Int.reduceEq, Int.reduceNe, Int.reduceBEq, Int.reduceBNe, BitVec.reduceBEq, BitVec.reduceBNe, BitVec.reduceOfInt, BitVec.reduceSetWidth, -List.reduceReplicate, hmp, hlen, f2, f3]
        refine ⟨.inr trivial, rfl, ?_⟩
        refine appk_ap (y := [BitVec.ofNat 64 (i + 2)]) hq (fun o h => ApI_hd hq h) (fun _ => rfl) (by simp) (by decide) (by simp only [List.length_cons, List.length_nil]; omega) fun cap sp m3 c1 c2 => ?_
        simp (maxSteps := 1000000) -implicitDefEqProofs only [go_sem, Nat.reduceBEq, Nat.reduceLT, Nat.reduceLeDiff, Nat.reduceEqDiff, Nat.reduceAdd, Nat.reduceMul, Nat.reduceSub, reduceIte, reduceCtorEq, Int.reduceLT, Int.reduceLE, Int.reduceToNat, Int.reduceAdd, Int.reduceSub, Int.reduceNeg, Int.reduceEq, Int.reduceNe, Int.reduceBEq, Int.reduceBNe, BitVec.reduceBEq, BitVec.reduceBNe, BitVec.reduceOfInt, BitVec.reduceSetWidth, -List.reduceReplicate, hst]
        refine UpX_normal h' (_, _, _) (ApI.some (X := prL (i + 1)) (by rw [hnext]; exact c1) c2) ?_
        exact Le.ap (n := x.2.2 + 1) (by rw [hnext, List.length_append]; rfl) (by rw [hnext]; exact look_hd _ _ _) rfl ⟨rfl, rfl, trivial⟩ (by simp only [List.all_cons, List.all_nil, flatro, Bool.and_self])
      | false =>
        rw [f3, if_neg (by decide)] at hnext
        simp (maxSteps := 1000000) -implicitDefEqProofs only [go_sem, Nat.reduceBEq, Nat.reduceLT, Nat.reduceLeDiff, Nat.reduceEqDiff, Nat.reduceAdd, Nat.reduceMul, Nat.reduceSub, reduceIte, reduceCtorEq, Int.reduceLT, Int.reduceLE, Int.reduceToNat, Int.reduceAdd, Int.reduceSub, Int.reduceNeg, Int.reduceEq, Int.reduceNe, Int.reduceBEq, Int.reduceBNe, BitVec.reduceBEq, BitVec.reduceBNe, BitVec.reduceOfInt, BitVec.reduceSetWidth, -List.reduceReplicate, hmp, hlen, f2, f3, hst]
        refine UpX_normal h' x (by rw [hnext]; exact hq) (Le.sameM ⟨rfl, rfl, rfl, trivial⟩ (ApI_nodup hq))
  · have hii : i = 310 := by omega
    subst hii
    have hl : (prL 310).length = 64 := by rw [prL_310]; rfl
    have f1 : decide ((64 : Int) < 64) = false := rfl
    rw [hl] at hlen
    rw [prL_310] at hq
    simp (maxSteps := 1000000) -implicitDefEqProofs only [go_sem, Nat.reduceBEq, Nat.reduceLT, Nat.reduceLeDiff, Nat.reduceEqDiff, Nat.reduceAdd, Nat.reduceMul, Nat.reduceSub, reduceIte, reduceCtorEq, Int.reduceLT, Int.reduceLE, Int.reduceToNat, Int.reduceAdd, Int.reduceSub, Int.reduceNeg, Int.reduceEq, Int.reduceNe, Int.reduceBEq, Int.reduceBNe, BitVec.reduceBEq, BitVec.reduceBNe, BitVec.reduceOfInt, BitVec.reduceSetWidth, -List.reduceReplicate, hmp, hlen, f1]
    exact Fin.ap hq idG (fun _ _ => rfl) (fun _ => rfl)
end Go.Proofs.Ytmdeoikpiiambaa
/-! Shj -/
namespace Go.Proofs.Ytmdeoikpiiambaa
open Go Go.Eng
theorem beginL_roots : (primesL.take 8).map squareW = beginL := by kernel_rfl
theorem rootsL_roots : primesL.map cubeW = rootsL := by kernel_rfl
def hX (i : Nat) : List (BitVec 32) := (primesL.take (min i 8)).map squareW
def qX (i : Nat) : List (BitVec 32) := (primesL.take i).map cubeW
theorem primesL_len : primesL.length = 64 := rfl
theorem take_succ' (i : Nat) (h : i < 64) : primesL.take (i + 1) = primesL.take i ++ [primesL.getD i 0] := by
  rw [List.take_add_one, List.getD_eq_getElem?_getD, List.getElem?_eq_getElem (by rw [primesL_len]; exact h)]
  rfl
theorem hX_succ (i : Nat) (h : i < 8) : hX (i + 1) = hX i ++ [squareW (primesL.getD i 0)] := by
  rw [hX, hX, Nat.min_eq_left (by omega), Nat.min_eq_left (by omega), take_succ' i (by omega), List.map_append]; rfl
theorem hX_stay (i : Nat) (h : 8 ≤ i) : hX (i + 1) = hX i := by
  rw [hX, hX, Nat.min_eq_right (by omega), Nat.min_eq_right (by omega)]
theorem qX_succ (i : Nat) (h : i < 64) : qX (i + 1) = qX i ++ [cubeW (primesL.getD i 0)] := by
  rw [qX, qX, take_succ' i h, List.map_append]; rfl
theorem hX_len (i : Nat) : (hX i).length = min i 8 := by rw [hX, List.length_map, List.length_take, primesL_len]; omega
theorem qX_len (i : Nat) : (qX i).length = min i 64 := by rw [qX, List.length_map, List.length_take, primesL_len]
theorem Le.two {n1 n2 : Nat} {t t' : Slots} {m : Mem} {nx : Nat} {o1 o2 : AObj} (hne : n1 ≠ n2) (hs : slotsLe (rf [(0, n1), (1, n2)] nx 2) t t') (h1 : Eng.look m n1 = some (renO (rf [(0, n1), (1, n2)] nx 2) o1)) (h2 : Eng.look m n2 = some (renO (rf [(0, n1), (1, n2)] nx 2) o2)) :
    ∃ l, Le 0 l (fun _ => true) t m nx t' [(0, o1), (1, o2)] 2 :=
  ⟨[(0, n1), (1, n2)], rfl, Nat.zero_le _, hs, ⟨h1, rfl, h2, rfl, trivial⟩, by
    have : n2 ≠ n1 := fun e => hne e.symm
    simp [injOn, rf, Eng.look, hne, this], (fun n e => by cases e), fun _ _ => rfl⟩
/-- two rows of words, both appended to, or none yet -/
def Two (X Y : List (BitVec 32)) (x : AV × AV × Mem × Nat) : Prop :=
  (X = [] ∧ Y = [] ∧ x = (.nils, .nils, [], 0)) ∨ ∃ (c1 : Nat) (s1 : List Value) (c2 : Nat) (s2 : List Value), x = (.sl 0 0 X.length c1, .sl 1 0 Y.length c2, [(0, .cells (bvs .u32 X ++ s1.map AV.val) 108), (1, .cells (bvs .u32 Y ++ s2.map AV.val) 108)], 2) ∧ X.length + s1.length = c1 ∧ c1 ≤ maxI ∧ Y.length + s2.length = c2 ∧ c2 ≤ maxI
def RootsK : Kv := fun v m nx => ∃ (c1 : Nat) (s1 : List Value) (c2 : Nat) (s2 : List Value), v = .tup [.sl 0 0 8 c1, .sl 1 0 64 c2] ∧ m = [(0, .cells (bvs .u32 beginL ++ s1.map AV.val) 108), (1, .cells (bvs .u32 rootsL ++ s2.map AV.val) 108)] ∧ nx = 2
set_option maxHeartbeats 800000 in
theorem rootsROk : CallOk Try.prog 137 [] (fun _ => true) [] 0 RootsK := by
  refine fn_ok Try.func137 rfl (by show 0 ≤ _; decide) ?_
  simp (maxSteps := 1000000) -implicitDefEqProofs only [go_sem, Nat.reduceBEq, Nat.reduceLT, Nat.reduceLeDiff, Nat.reduceEqDiff, Nat.reduceAdd, Nat.reduceMul, Nat.reduceSub, reduceIte, reduceCtorEq, Int.reduceLT, Int.reduceLE, Int.reduceToNat, Int.reduceAdd, Int.reduceSub, Int.reduceNeg, Int.reduceEq, Int.reduceNe, Int.reduceBEq, Int.reduceBNe, BitVec.reduceBEq, BitVec.reduceBNe, BitVec.reduceOfInt, BitVec.reduceSetWidth, -List.reduceReplicate, Try.results137, Try.ntmps137]
  refine primesOk.bytes (by simp only [argsx, argx_int, argx_bool, argx_fn, argx_ro, argx_nils, eq_self, true_and, and_true, and_self]; try trivial) (fun _ _ => rfl) (fun _ _ => rfl) (fun _ => rfl) ?_
  rw [primesL_len]
  simp (maxSteps := 1000000) -implicitDefEqProofs only [go_sem, Nat.reduceBEq, Nat.reduceLT, Nat.reduceLeDiff, Nat.reduceEqDiff, Nat.reduceAdd, Nat.reduceMul, Nat.reduceSub, reduceIte, reduceCtorEq, Int.reduceLT, Int.reduceLE, Int.reduceToNat, Int.reduceAdd, Int.reduceSub, Int.reduceNeg, Int.reduceEq, Int.reduceNe, Int.reduceBEq, Int.reduceBNe, BitVec.reduceBEq, BitVec.reduceBNe, BitVec.reduceOfInt, BitVec.reduceSetWidth, -List.reduceReplicate]
  refine LoopOk.upX (fun i x => Two (hX i) (qX i) x) 64 (fun i x => ([(3, x.1), (4, x.2.1), (5, .int .i64 i), (2, .ro 64 (bvs .u64 primesL))], x.2.2.1, x.2.2.2)) (.nils, .nils, [], 0) (.inl ⟨rfl, rfl, rfl⟩) ?_ ?_
  · exact ⟨[], rfl, Nat.zero_le _, ⟨rfl, rfl, rfl, by simp only [renA, bvs_ren]; rfl, trivial⟩, trivial, List.nodup_nil, (fun n e => by cases e), fun _ _ => rfl⟩
  intro i x ⟨hi, hq⟩
  have wi : IntKind.i64.wrap ((i : Int) + 1) = ((i + 1 : Nat) : Int) := by rw [wrap_i64] <;> omega
  have hgd : ∀ h : i < 64, (bvs .u64 primesL).getD i (.int .u64 0) = .int .u64 ((primesL.getD i 0).toNat : Int) := fun h => bvs_getD ..
  rcases Nat.lt_or_ge i 64 with h' | h'
  · have f1 : decide ((i : Int) < 64) = true := by simp; omega
    have hq2 := qX_succ i h'
    have hgd := hgd h'
    rcases Nat.lt_or_ge i 8 with h8 | h8
    · have f2 : decide ((i : Int) < 8) = true := by simp; omega
      have hh2 := hX_succ i h8
      rcases hq with ⟨hn1, hn2, rfl⟩ | ⟨c1, s1, c2, s2, rfl, g1, g2, g3, g4⟩
      · rw [hn1, List.nil_append] at hh2
        rw [hn2, List.nil_append] at hq2
        simp (maxSteps := 1000000) -implicitDefEqProofs only [go_sem, Nat.reduceBEq, Nat.reduceLT, Nat.reduceLeDiff, Nat.reduceEqDiff, Nat.reduceAdd, Nat.reduceMul, Nat.reduceSub, reduceIte, reduceCtorEq, Int.reduceLT, Int.reduceLE, Int.reduceToNat, Int.reduceAdd, Int.reduceSub, Int.reduceNeg, Int.reduceEq, Int.reduceNe, Int.reduceBEq, Int.reduceBNe, BitVec.reduceBEq, BitVec.reduceBNe, BitVec.reduceOfInt, BitVec.reduceSetWidth, -List.reduceReplicate, f1, f2, hgd]
        refine ⟨by omega, by rw [primesL_len]; omega, by rw [List.length_drop, primesL_len]; omega, ?_⟩
        refine (squareOk (primesL.getD i 0)).flatv (by simp only [argsx, argx_int, argx_bool, argx_fn, argx_ro, argx_nils, eq_self, true_and, and_true, and_self]; try trivial) (fun _ => rfl) rfl ?_
        simp (maxSteps := 1000000) -implicitDefEqProofs only [go_sem, Nat.reduceBEq, Nat.reduceLT, Nat.reduceLeDiff, Nat.reduceEqDiff, Nat.reduceAdd, Nat.reduceMul, Nat.reduceSub, reduceIte, reduceCtorEq, Int.reduceLT, Int.reduceLE, Int.reduceToNat, Int.reduceAdd, Int.reduceSub, Int.reduceNeg, Int.reduceEq, Int.reduceNe, Int.reduceBEq, Int.reduceBNe, BitVec.reduceBEq, BitVec.reduceBNe, BitVec.reduceOfInt, BitVec.reduceSetWidth, -List.reduceReplicate]
        refine ⟨.inr trivial, rfl, by show 1 * 4 ≤ _; decide, by show 1 ≤ _; decide, (fun e => by cases e), fun _ c1 s1 a1 g2 b1 => ?_⟩
        have g1 : 1 + s1.length = c1 := by
          change 1 ≤ c1 at a1
          change s1.length = (c1 - 1) * 1 at b1
          omega
        simp (maxSteps := 1000000) -implicitDefEqProofs only [go_sem, Nat.reduceBEq, Nat.reduceLT, Nat.reduceLeDiff, Nat.reduceEqDiff, Nat.reduceAdd, Nat.reduceMul, Nat.reduceSub, reduceIte, reduceCtorEq, Int.reduceLT, Int.reduceLE, Int.reduceToNat, Int.reduceAdd, Int.reduceSub, Int.reduceNeg, Int.reduceEq, Int.reduceNe, Int.reduceBEq, Int.reduceBNe, BitVec.reduceBEq, BitVec.reduceBNe, BitVec.reduceOfInt, BitVec.reduceSetWidth, -List.reduceReplicate, hgd]
        refine ⟨by omega, by rw [primesL_len]; omega, by rw [List.length_drop, primesL_len]; omega, ?_⟩
        refine (cubeOk (primesL.getD i 0)).flatv (by simp only [argsx, argx_int, argx_bool, argx_fn, argx_ro, argx_nils, eq_self, true_and, and_true, and_self]; try trivial) (fun _ => rfl) rfl ?_
        simp (maxSteps := 1000000) -implicitDefEqProofs only [go_sem, Nat.reduceBEq, Nat.reduceLT, Nat.reduceLeDiff, Nat.reduceEqDiff, Nat.reduceAdd, Nat.reduceMul, Nat.reduceSub, reduceIte, reduceCtorEq, Int.reduceLT, Int.reduceLE, Int.reduceToNat, Int.reduceAdd, Int.reduceSub, Int.reduceNeg, Int.reduceEq, Int.reduceNe, Int.reduceBEq, Int.reduceBNe, BitVec.reduceBEq, BitVec.reduceBNe, BitVec.reduceOfInt, BitVec.reduceSetWidth, -List.reduceReplicate]
        refine ⟨.inr trivial, rfl, by show 1 * 4 ≤ _; decide, by show 1 ≤ _; decide, (fun e => by cases e), fun _ c2 s2 a2 g4 b2 => ?_⟩
        have g3 : 1 + s2.length = c2 := by
          change 1 ≤ c2 at a2
          change s2.length = (c2 - 1) * 1 at b2
          omega
        simp (maxSteps := 1000000) -implicitDefEqProofs only [go_sem, Nat.reduceBEq, Nat.reduceLT, Nat.reduceLeDiff, Nat.reduceEqDiff, Nat.reduceAdd, Nat.reduceMul, Nat.reduceSub, reduceIte, reduceCtorEq, Int.reduceLT, Int.reduceLE, Int.reduceToNat, Int.reduceAdd, Int.reduceSub, Int.reduceNeg, Int.reduceEq, Int.reduceNe, Int.reduceBEq, Int.reduceBNe, BitVec.reduceBEq, BitVec.reduceBNe, BitVec.reduceOfInt, BitVec.reduceSetWidth, -List.reduceReplicate, wi]
        refine UpX_normal h' (_, _, _, _) (.inr ⟨c1, s1, c2, s2, rfl, by rw [hh2]; exact g1, g2, by rw [hq2]; exact g3, g4⟩) ?_
        exact Le.two (n1 := 1) (n2 := 3) (by decide) ⟨by rw [hh2]; rfl, by rw [hq2]; rfl, rfl, by simp only [renA, bvs_ren]; rfl, trivial⟩ (by rw [hh2]; simp only [renO, renL_vals']; rfl) (by rw [hq2]; simp only [renO, renL_vals']; rfl)
      · simp (maxSteps := 1000000) -implicitDefEqProofs only [go_sem, Nat.reduceBEq, Nat.reduceLT, Nat.reduceLeDiff, Nat.reduceEqDiff, Nat.reduceAdd, Nat.reduceMul, Nat.reduceSub, reduceIte, reduceCtorEq, Int.reduceLT, Int.reduceLE, Int.reduceToNat, Int.reduceAdd, Int.reduceSub, Int.reduceNeg, Int.reduceEq, Int.reduceNe, Int.reduceBEq, Int.reduceBNe, BitVec.reduceBEq, BitVec.reduceBNe, BitVec.reduceOfInt, BitVec.reduceSetWidth, -List.reduceReplicate, f1, f2, hgd]
        refine ⟨by omega, by rw [primesL_len]; omega, by rw [List.length_drop, primesL_len]; omega, ?_⟩
        refine (squareOk (primesL.getD i 0)).flatv (by simp only [argsx, argx_int, argx_bool, argx_fn, argx_ro, argx_nils, eq_self, true_and, and_true, and_self]; try trivial) (fun _ => rfl) rfl ?_
        simp (maxSteps := 1000000) -implicitDefEqProofs only [go_sem, Nat.reduceBEq, Nat.reduceLT, Nat.reduceLeDiff, Nat.reduceEqDiff, Nat.reduceAdd, Nat.reduceMul, Nat.reduceSub, reduceIte, reduceCtorEq, Int.reduceLT, Int.reduceLE, Int.reduceToNat, Int.reduceAdd, Int.reduceSub, Int.reduceNeg, Int.reduceEq, Int.reduceNe, Int.reduceBEq, Int.reduceBNe, BitVec.reduceBEq, BitVec.reduceBNe, BitVec.reduceOfInt, BitVec.reduceSetWidth, -List.reduceReplicate]
        refine ⟨.inr trivial, rfl, ?_⟩
        refine appk_bvs (x := hX i) (y := [squareW (primesL.getD i 0)]) (n := 0) (sp := s1) rfl rfl g1 g2 (bt := 4) (by decide) (by simp only [List.length_cons, List.length_nil, hX_len]; omega) fun c1 s1 g1 g2 => ?_
        rw [← hh2]
        rw [← hh2] at g1
        simp (maxSteps := 1000000) -implicitDefEqProofs only [go_sem, Nat.reduceBEq, Nat.reduceLT, Nat.reduceLeDiff, Nat.reduceEqDiff, Nat.reduceAdd, Nat.reduceMul, Nat.reduceSub, reduceIte, reduceCtorEq, Int.reduceLT, Int.reduceLE, Int.reduceToNat, Int.reduceAdd, Int.reduceSub, Int.reduceNeg, Int.reduceEq, Int.reduceNe, Int.reduceBEq, Int.reduceBNe, BitVec.reduceBEq, BitVec.reduceBNe, BitVec.reduceOfInt, BitVec.reduceSetWidth, -List.reduceReplicate, hgd]
        refine ⟨by omega, by rw [primesL_len]; omega, by rw [List.length_drop, primesL_len]; omega, ?_⟩
        refine (cubeOk (primesL.getD i 0)).flatv (by simp only [argsx, argx_int, argx_bool, argx_fn, argx_ro, argx_nils, eq_self, true_and, and_true, and_self]; try trivial) (fun _ => rfl) rfl ?_
        simp (maxSteps := 1000000) -implicitDefEqProofs only [go_sem, Nat.reduceBEq, Nat.reduceLT, Nat.reduceLeDiff, Nat.reduceEqDiff, Nat.reduceAdd, Nat.reduceMul, Nat.reduceSub, reduceIte, reduceCtorEq, Int.reduceLT, Int.reduceLE, Int.reduceToNat, Int.reduceAdd, Int.reduceSub, Int.reduceNeg, Int.reduceEq, Int.reduceNe, Int.reduceBEq, Int.reduceBNe, BitVec.reduceBEq, BitVec.reduceBNe, BitVec.reduceOfInt, BitVec.reduceSetWidth, -List.reduceReplicate]
        refine ⟨.inr trivial, rfl, ?_⟩
        refine appk_bvs (x := qX i) (y := [cubeW (primesL.getD i 0)]) (n := 1) (sp := s2) rfl rfl g3 g4 (bt := 4) (by decide) (by simp only [List.length_cons, List.length_nil, qX_len]; omega) fun c2 s2 g3 g4 => ?_
        rw [← hq2]
        rw [← hq2] at g3
        simp (maxSteps := 1000000) -implicitDefEqProofs only [go_sem, Nat.reduceBEq, Nat.reduceLT, Nat.reduceLeDiff, Nat.reduceEqDiff, Nat.reduceAdd, Nat.reduceMul, Nat.reduceSub, reduceIte, reduceCtorEq, Int.reduceLT, Int.reduceLE, Int.reduceToNat, Int.reduceAdd, Int.reduceSub, Int.reduceNeg, Int.reduceEq, Int.reduceNe, Int.reduceBEq, Int.reduceBNe, BitVec.reduceBEq, BitVec.reduceBNe, BitVec.reduceOfInt, BitVec.reduceSetWidth, -List.reduceReplicate, wi]
        refine UpX_normal h' (_, _, _, _) (.inr ⟨c1, s1, c2, s2, rfl, g1, g2, g3, g4⟩) ?_
        exact Le.two (n1 := 3) (n2 := 5) (by decide) ⟨rfl, rfl, rfl, by simp only [renA, bvs_ren]; rfl, trivial⟩ (by simp only [renO, renL_vals']; rfl) (by simp only [renO, renL_vals']; rfl)
    · have f2 : decide ((i : Int) < 8) = false := by simp; omega
      have hh2 := hX_stay i h8
      rcases hq with ⟨hn1, hn2, rfl⟩ | ⟨c1, s1, c2, s2, rfl, g1, g2, g3, g4⟩
      · have := hX_len i; rw [hn1, List.length_nil] at this; omega
      · simp (maxSteps := 1000000) -implicitDefEqProofs only [go_sem, Nat.reduceBEq, Nat.reduceLT, Nat.reduceLeDiff, Nat.reduceEqDiff, Nat.reduceAdd, Nat.reduceMul, Nat.reduceSub, reduceIte, reduceCtorEq, Int.reduceLT, Int.reduceLE, Int.reduceToNat, Int.reduceAdd, Int.reduceSub, Int.reduceNeg, Int.reduceEq, Int.reduceNe, Int.reduceBEq, Int.reduceBNe, BitVec.reduceBEq, BitVec.reduceBNe, BitVec.reduceOfInt, BitVec.reduceSetWidth, -List.reduceReplicate, f1, f2, hgd]
        refine ⟨by omega, by rw [primesL_len]; omega, by rw [List.length_drop, primesL_len]; omega, ?_⟩
        refine (cubeOk (primesL.getD i 0)).flatv (by simp only [argsx, argx_int, argx_bool, argx_fn, argx_ro, argx_nils, eq_self, true_and, and_true, and_self]; try trivial) (fun _ => rfl) rfl ?_
        simp (maxSteps := 1000000) -implicitDefEqProofs only [go_sem, Nat.reduceBEq, Nat.reduceLT, Nat.reduceLeDiff, Nat.reduceEqDiff, Nat.reduceAdd, Nat.reduceMul, Nat.reduceSub, reduceIte, reduceCtorEq, Int.reduceLT, Int.reduceLE, Int.reduceToNat, Int.reduceAdd, Int.reduceSub, Int.reduceNeg, Int.reduceEq, Int.reduceNe, Int.reduceBEq, Int.reduceBNe, BitVec.reduceBEq, BitVec.reduceBNe, BitVec.reduceOfInt, BitVec.reduceSetWidth, -List.reduceReplicate]
        refine ⟨.inr trivial, rfl, ?_⟩
        refine appk_bvs (x := qX i) (y := [cubeW (primesL.getD i 0)]) (n := 1) (sp := s2) rfl rfl g3 g4 (bt := 4) (by decide) (by simp only [List.length_cons, List.length_nil, qX_len]; omega) fun c2 s2 g3 g4 => ?_
        rw [← hq2]
        rw [← hq2] at g3
        simp (maxSteps := 1000000) -implicitDefEqProofs only [go_sem, Nat.reduceBEq, Nat.reduceLT, Nat.reduceLeDiff, Nat.reduceEqDiff, Nat.reduceAdd, Nat.reduceMul, Nat.reduceSub, reduceIte, reduceCtorEq, Int.reduceLT, Int.reduceLE, Int.reduceToNat, Int.reduceAdd, Int.reduceSub, Int.reduceNeg, Int.reduceEq, Int.reduceNe, Int.reduceBEq, Int.reduceBNe, BitVec.reduceBEq, BitVec.reduceBNe, BitVec.reduceOfInt, BitVec.reduceSetWidth, -List.reduceReplicate, wi]
        refine UpX_normal h' (_, _, _, _) (.inr ⟨c1, s1, c2, s2, rfl, by rw [hh2]; exact g1, g2, g3, g4⟩) ?_
        exact Le.two (n1 := 0) (n2 := 3) (by decide) ⟨by rw [hh2]; rfl, rfl, rfl, by simp only [renA, bvs_ren]; rfl, trivial⟩ (by rw [hh2]; simp only [renO, renL_vals']; rfl) (by simp only [renO, renL_vals']; rfl)
  · have hii : i = 64 := by omega
    subst hii
    have f1 : decide ((64 : Int) < 64) = false := rfl
    have e1 : hX 64 = beginL := beginL_roots
    have e2 : qX 64 = rootsL := rootsL_roots
    rw [e1, e2] at hq
    rcases hq with ⟨hn1, hn2, rfl⟩ | ⟨c1, s1, c2, s2, rfl, g1, g2, g3, g4⟩
    · exact absurd hn1 (by decide)
    simp (maxSteps := 1000000) -implicitDefEqProofs only [go_sem, Nat.reduceBEq, Nat.reduceLT, Nat.reduceLeDiff, Nat.reduceEqDiff, Nat.reduceAdd, Nat.reduceMul, Nat.reduceSub, reduceIte, reduceCtorEq, Int.reduceLT, Int.reduceLE, Int.reduceToNat, Int.reduceAdd, Int.reduceSub, Int.reduceNeg, Int.reduceEq, Int.reduceNe, Int.reduceBEq, Int.reduceBNe, BitVec.reduceBEq, BitVec.reduceBNe, BitVec.reduceOfInt, BitVec.reduceSetWidth, -List.reduceReplicate, f1]
    exact ⟨[(0, 0), (1, 1)], .tup [.sl 0 0 8 c1, .sl 1 0 64 c2], [(0, .cells (bvs .u32 beginL ++ s1.map AV.val) 108), (1, .cells (bvs .u32 rootsL ++ s2.map AV.val) 108)], 2, ⟨rfl, by decide⟩, rfl, ⟨by simp only [renO, renL_vals']; rfl, rfl, by simp only [renO, renL_vals']; rfl, rfl, trivial⟩, by simp [injOn, rf, Eng.look], (fun n e => by cases e), c1, s1, c2, s2, rfl, rfl, rfl⟩
end Go.Proofs.Ytmdeoikpiiambaa
