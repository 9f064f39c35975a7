/- SHA-256: the document; both are alike. -/
import Derived.Test.YtmdeoikpiiambaaEng35
import Derived.Test.YtmdeoikpiiambaaEng34
import Derived.Test.YtmdeoikpiiambaaMc
set_option linter.unusedVariables false
set_option linter.unusedSimpArgs false
set_option maxRecDepth 100000
/-! Shk -/
namespace Go.Eng
theorem LoopOk.upXF {X : Type} (Q : Nat → X → Prop) {nf : Nat} {E : Ex} {wr : Nat → Bool} {t : Slots} {m : Mem} {nx : Nat} {K : Kx} (n : Nat) (S : Nat → X → Slots × Mem × Nat) (x0 : X) (hq : Q 0 x0)
    (h0 : LeF nf wr t m nx (S 0 x0).1 (S 0 x0).2.1 (S 0 x0).2.2) (hr : ∀ i x (hi : i ≤ n ∧ Q i x), E (S i x).1 (S i x).2.1 (S i x).2.2 (UpX Q nf wr S n i x hi K)) : LoopOk true nf E wr t m nx K :=
  ⟨{ p : Nat × X // p.1 ≤ n ∧ Q p.1 p.2 }, fun p => S p.1.1 p.1.2, fun p => n - p.1.1, ⟨⟨(0, x0), Nat.zero_le _, hq⟩, .inr ⟨rfl, h0⟩⟩, fun p => hr p.1.1 p.1.2 p.2⟩
end Go.Eng
namespace Go.Proofs.Ytmdeoikpiiambaa
open Go Go.Eng
def rT (V : List (BitVec 32)) (q w : BitVec 32) : BitVec 32 :=
  V.getD 7 0 + (rotN (V.getD 4 0) 6 ^^^ rotN (V.getD 4 0) 11 ^^^ rotN (V.getD 4 0) 25) + (V.getD 4 0 &&& V.getD 5 0 ^^^ (4294967295#32 - V.getD 4 0) &&& V.getD 6 0) + q + w
def rU (V : List (BitVec 32)) : BitVec 32 :=
  (rotN (V.getD 0 0) 2 ^^^ rotN (V.getD 0 0) 13 ^^^ rotN (V.getD 0 0) 22) + (V.getD 0 0 &&& V.getD 1 0 ^^^ V.getD 0 0 &&& V.getD 2 0 ^^^ V.getD 1 0 &&& V.getD 2 0)
def rRound (V : List (BitVec 32)) (q w : BitVec 32) : List (BitVec 32) :=
  [rT V q w + rU V, V.getD 0 0, V.getD 1 0, V.getD 2 0, V.getD 3 0 + rT V q w, V.getD 4 0, V.getD 5 0, V.getD 6 0]
def rrds (w V : List (BitVec 32)) : Nat → List (BitVec 32)
  | 0 => V
  | n + 1 => rRound (rrds w V n) (rootsL.getD n 0) (w.getD n 0)
def rAdd (L V : List (BitVec 32)) : List (BitVec 32) :=
  [L.getD 0 0 + V.getD 0 0, L.getD 1 0 + V.getD 1 0, L.getD 2 0 + V.getD 2 0, L.getD 3 0 + V.getD 3 0, L.getD 4 0 + V.getD 4 0, L.getD 5 0 + V.getD 5 0, L.getD 6 0 + V.getD 6 0, L.getD 7 0 + V.getD 7 0]
def rBlock (L : List (BitVec 32)) (b : List (BitVec 8)) : List (BitVec 32) := rAdd L (rrds (rl b 64) L 64)
def rBl (b : List (BitVec 8)) : Nat → List (BitVec 32)
  | 0 => beginL
  | n + 1 => rBlock (rBl b n) ((b.drop (64 * n)).take 64)
theorem rBl_len (b : List (BitVec 8)) (n : Nat) : (rBl b n).length = 8 := by
  cases n with
  | zero => rfl
  | succ n => rfl
/-- a word's four bytes, the first on the left -/
def b4 (x : BitVec 32) : List (BitVec 8) := [(x / 16777216#32).setWidth 8, (x / 65536#32).setWidth 8, (x / 256#32).setWidth 8, x.setWidth 8]
def outR (L : List (BitVec 32)) : Nat → List (BitVec 8)
  | 0 => []
  | n + 1 => outR L n ++ b4 (L.getD n 0)
def shaR (b : List (BitVec 8)) : List (BitVec 8) := outR (rBl (padR b) ((padR b).length / 64)) 8
theorem outR_len (L : List (BitVec 32)) (n : Nat) : (outR L n).length = 4 * n := by
  induction n with
  | zero => rfl
  | succ n ih => rw [outR, List.length_append, ih]; rfl
/-- bytes that are appended to, beside an object -/
def ApL (o : AObj) (X : List (BitVec 8)) (x : AV × Mem × Nat) : Prop :=
  (X = [] ∧ x = (.nils, [(0, o)], 1)) ∨ ∃ (cap : Nat) (sp : List Value), x = (.sl 1 0 X.length cap, [(0, o), (1, .cells (bvs .u8 X ++ sp.map AV.val) 5)], 2) ∧ X.length + sp.length = cap ∧ cap ≤ maxI
theorem padR_mod (b : List (BitVec 8)) : (padR b).length % 64 = 0 := by
  rw [padR, rpE_len, zN]; omega
theorem padR_le (b : List (BitVec 8)) : (padR b).length ≤ b.length + 72 := by
  rw [padR, rpE_len, zN]; omega
set_option maxHeartbeats 1600000 in
theorem rshaOk (b : List (BitVec 8)) (hb : b.length ≤ 100000) : CallOk Try.prog 80 [.ro b.length (bvs .u8 b)] (fun _ => true) [] 0 (ByK 5 idG (shaR b) [] 0) := by
  refine fn_ok Try.func80 rfl (by show 1 ≤ _; decide) ?_
  simp (maxSteps := 1000000) -implicitDefEqProofs only [go_sem, Nat.reduceBEq, Nat.reduceLT, Nat.reduceLeDiff, Nat.reduceEqDiff, Nat.reduceAdd, Nat.reduceMul, Nat.reduceSub, reduceIte, reduceCtorEq, Int.reduceLT, Int.reduceLE, Int.reduceToNat, Int.reduceAdd, Int.reduceSub, Int.reduceNeg, Int.reduceEq, Int.reduceNe, Int.reduceBEq, Int.reduceBNe, BitVec.reduceBEq, BitVec.reduceBNe, BitVec.reduceOfInt, BitVec.reduceSetWidth, -List.reduceReplicate, Try.results80, Try.ntmps80]
  refine rootsROk.more trivial ?_
  rintro _ _ _ ⟨c1, s1, c2, s2, rfl, rfl, rfl⟩
  refine ⟨rfl, by simp only [noRoM, noRoO, noRoL_vals', Bool.and_self], ?_⟩
  simp only [renM, renO, renL_vals']
  simp (maxSteps := 1000000) -implicitDefEqProofs only [go_sem, Nat.reduceBEq, Nat.reduceLT, Nat.reduceLeDiff, Nat.reduceEqDiff, Nat.reduceAdd, Nat.reduceMul, Nat.reduceSub, reduceIte, reduceCtorEq, Int.reduceLT, Int.reduceLE, Int.reduceToNat, Int.reduceAdd, Int.reduceSub, Int.reduceNeg, Int.reduceEq, Int.reduceNe, Int.reduceBEq, Int.reduceBNe, BitVec.reduceBEq, BitVec.reduceBNe, BitVec.reduceOfInt, BitVec.reduceSetWidth, -List.reduceReplicate]
  refine (rpadOk b hb).bytes (by simp only [argsx, argx_int, argx_bool, argx_fn, argx_ro, argx_nils, eq_self, true_and, and_true, and_self]; try trivial) (fun _ _ => rfl) (fun _ _ => rfl) (fun _ => rfl) ?_
  have hm := padR_mod b
  have hl := padR_le b
  have hshr : shaR b = outR (rBl (padR b) ((padR b).length / 64)) 8 := rfl
  rw [hshr]
  generalize padR b = p at *
  obtain ⟨N, hN⟩ : ∃ N, p.length = 64 * N := ⟨p.length / 64, by omega⟩
  have hdN : p.length / 64 = N := by omega
  rw [hdN]
  simp (maxSteps := 1000000) -implicitDefEqProofs only [go_sem, Nat.reduceBEq, Nat.reduceLT, Nat.reduceLeDiff, Nat.reduceEqDiff, Nat.reduceAdd, Nat.reduceMul, Nat.reduceSub, reduceIte, reduceCtorEq, Int.reduceLT, Int.reduceLE, Int.reduceToNat, Int.reduceAdd, Int.reduceSub, Int.reduceNeg, Int.reduceEq, Int.reduceNe, Int.reduceBEq, Int.reduceBNe, BitVec.reduceBEq, BitVec.reduceBNe, BitVec.reduceOfInt, BitVec.reduceSetWidth, -List.reduceReplicate]
  refine LoopOk.upX (fun _ (_ : Nat × List Value) => True) N (fun n x => ([(3, .sl 0 0 8 x.1), (6, .int .i64 ((64 * n : Nat) : Int)), (4, .sl 1 0 64 c2), (5, .ro p.length (bvs .u8 p))], [(0, .cells (bvs .u32 (rBl p n) ++ x.2.map AV.val) 108), (1, .cells (bvs .u32 rootsL ++ s2.map AV.val) 108)], 2)) (c1, s1) trivial ?_ ?_
  · exact Le.two (n1 := 0) (n2 := 1) (by decide) ⟨rfl, rfl, rfl, by simp only [renA, bvs_ren]; rfl, trivial⟩ (by simp only [renO, renL_vals']; rfl) (by simp only [renO, renL_vals']; rfl)
  intro n x ⟨hn, _⟩
  obtain ⟨c1, s1⟩ := x
  rcases Nat.lt_or_ge n N with h' | h'
  · have f1 : decide (((64 * n : Nat) : Int) < (p.length : Int)) = true := by simp; omega
    have w64 : IntKind.i64.wrap (((64 * n : Nat) : Int) + 64) = ((64 * (n + 1) : Nat) : Int) := by rw [wrap_i64] <;> omega
    simp (maxSteps := 1000000) -implicitDefEqProofs only [go_sem, Nat.reduceBEq, Nat.reduceLT, Nat.reduceLeDiff, Nat.reduceEqDiff, Nat.reduceAdd, Nat.reduceMul, Nat.reduceSub, reduceIte, reduceCtorEq, Int.reduceLT, Int.reduceLE, Int.reduceToNat, Int.reduceAdd, Int.reduceSub, Int.reduceNeg, Int.reduceEq, Int.reduceNe, Int.reduceBEq, Int.reduceBNe, BitVec.reduceBEq, BitVec.reduceBNe, BitVec.reduceOfInt, BitVec.reduceSetWidth, -List.reduceReplicate, f1, w64]
    have e64 : 64 * (n + 1) - 64 * n = 64 := by omega
    have hbk : ((p.drop (64 * n)).take 64).length = 64 := by rw [List.length_take, List.length_drop]; omega
    have hnx : rBl p (n + 1) = rAdd (rBl p n) (rrds (rl ((p.drop (64 * n)).take 64) 64) (rBl p n) 64) := rfl
    rw [e64]
    generalize (p.drop (64 * n)).take 64 = bk at *
    refine ⟨by omega, ?_⟩
    refine (rspreadOk bk hbk).bytes (by simp only [argsx, argx_int, argx_bool, argx_fn, argx_ro, argx_nils, eq_self, true_and, and_true, and_self]; try trivial) (fun _ _ => rfl) (fun _ _ => rfl) (fun _ => rfl) ?_
    have hL := rBl_len p n
    have hrl := rl_len bk 64
    rw [hrl]
    generalize rBl p n = L at *
    generalize rl bk 64 = Wd at *
    have l0 := bvsS_getD .u32 L (s1.map AV.val) 0 (by omega)
    have l1 := bvsS_getD .u32 L (s1.map AV.val) 1 (by omega)
    have l2 := bvsS_getD .u32 L (s1.map AV.val) 2 (by omega)
    have l3 := bvsS_getD .u32 L (s1.map AV.val) 3 (by omega)
    have l4 := bvsS_getD .u32 L (s1.map AV.val) 4 (by omega)
    have l5 := bvsS_getD .u32 L (s1.map AV.val) 5 (by omega)
    have l6 := bvsS_getD .u32 L (s1.map AV.val) 6 (by omega)
    have l7 := bvsS_getD .u32 L (s1.map AV.val) 7 (by omega)
    have hroots : rootsL.length = 64 := rfl
    simp (maxSteps := 1000000) -implicitDefEqProofs only [go_sem, Nat.reduceBEq, Nat.reduceLT, Nat.reduceLeDiff, Nat.reduceEqDiff, Nat.reduceAdd, Nat.reduceMul, Nat.reduceSub, reduceIte, reduceCtorEq, Int.reduceLT, Int.reduceLE, Int.reduceToNat, Int.reduceAdd, Int.reduceSub, Int.reduceNeg, Int.reduceEq, Int.reduceNe, Int.reduceBEq, Int.reduceBNe, BitVec.reduceBEq, BitVec.reduceBNe, BitVec.reduceOfInt, BitVec.reduceSetWidth, -List.reduceReplicate, l0, l1, l2, l3, l4, l5, l6, l7, List.length_append, bvs_length, hL]
    refine ⟨by omega, by omega, by omega, by omega, by omega, by omega, by omega, by omega, ?_⟩
    refine LoopOk.up 64 (fun i => ([(16, .int .i64 i), (8, .int .u32 (((rrds Wd L i).getD 0 0).toNat : Int)), (9, .int .u32 (((rrds Wd L i).getD 1 0).toNat : Int)), (10, .int .u32 (((rrds Wd L i).getD 2 0).toNat : Int)), (11, .int .u32 (((rrds Wd L i).getD 3 0).toNat : Int)), (12, .int .u32 (((rrds Wd L i).getD 4 0).toNat : Int)), (13, .int .u32 (((rrds Wd L i).getD 5 0).toNat : Int)), (14, .int .u32 (((rrds Wd L i).getD 6 0).toNat : Int)), (15, .int .u32 (((rrds Wd L i).getD 7 0).toNat : Int)), (7, .ro 64 (bvs .u32 Wd)), (3, .sl 0 0 8 c1), (6, .int .i64 ((64 * n : Nat) : Int)), (4, .sl 1 0 64 c2), (5, .ro p.length (bvs .u8 p))], [(0, .cells (bvs .u32 L ++ s1.map AV.val) 108), (1, .cells (bvs .u32 rootsL ++ s2.map AV.val) 108)], 3)) (Le.sameM ⟨rfl, rfl, rfl, rfl, rfl, rfl, rfl, rfl, rfl, rfl, rfl, rfl, rfl, rfl, trivial⟩ (by simp)) ?_
    intro i hi
    have hnr : rrds Wd L (i + 1) = rRound (rrds Wd L i) (rootsL.getD i 0) (Wd.getD i 0) := rfl
    rcases Nat.lt_or_ge i 64 with g | g
    · have f2 : decide ((i : Int) < 64) = true := by simp; omega
      have wi : IntKind.i64.wrap ((i : Int) + 1) = ((i + 1 : Nat) : Int) := by rw [wrap_i64] <;> omega
      have hq := bvsS_getD .u32 rootsL (s2.map AV.val) i (by rw [hroots]; exact g)
      have hw : (bvs .u32 Wd).getD i (.int .u32 0) = .int .u32 ((Wd.getD i 0).toNat : Int) := bvs_getD ..
      generalize rrds Wd L i = V at *
      simp (maxSteps := 1000000) -implicitDefEqProofs only [go_sem, Nat.reduceBEq, Nat.reduceLT, Nat.reduceLeDiff, Nat.reduceEqDiff, Nat.reduceAdd, Nat.reduceMul, Nat.reduceSub, reduceIte, reduceCtorEq, Int.reduceLT, Int.reduceLE, Int.reduceToNat, Int.reduceAdd, Int.reduceSub, Int.reduceNeg, Int.reduceEq, Int.reduceNe, Int.reduceBEq, Int.reduceBNe, BitVec.reduceBEq, BitVec.reduceBNe, BitVec.reduceOfInt, BitVec.reduceSetWidth, -List.reduceReplicate, f2, wi]
      refine ⟨Fx.mixed, .inl ⟨[(0, false), (1, false), (3, false), (6, false), (10, false), (11, false), (12, false), (13, false), (14, false), (15, false), (16, false), (17, false), (19, false), (20, false), (21, false), (22, false), (24, false), (25, false), (26, false), (27, false), (2, true), (4, true), (5, false), (7, true), (8, false), (9, false), (18, false), (23, false), (28, false), (29, false)], [], by kernel_rfl, (fun n hn => by cases hn), ?_⟩⟩
      simp (maxSteps := 1000000) -implicitDefEqProofs only [go_sem, Nat.reduceBEq, Nat.reduceLT, Nat.reduceLeDiff, Nat.reduceEqDiff, Nat.reduceAdd, Nat.reduceMul, Nat.reduceSub, reduceIte, reduceCtorEq, Int.reduceLT, Int.reduceLE, Int.reduceToNat, Int.reduceAdd, Int.reduceSub, Int.reduceNeg, Int.reduceEq, Int.reduceNe, Int.reduceBEq, Int.reduceBNe, BitVec.reduceBEq, BitVec.reduceBNe, BitVec.reduceOfInt, BitVec.reduceSetWidth, -List.reduceReplicate, hq, hw, List.length_append, bvs_length, hroots]
      refine ⟨by omega, by omega, by omega, by omega, by rw [List.length_drop, hrl]; omega, ?_⟩
      refine (rrotOk (V.getD 4 0) 6 (by decide)).flatv (by simp only [argsx, argx_int, argx_bool, argx_fn, argx_ro, argx_nils, eq_self, true_and, and_true, and_self]; try trivial) (fun _ => rfl) rfl ?_
      simp (maxSteps := 1000000) -implicitDefEqProofs only [go_sem, Nat.reduceBEq, Nat.reduceLT, Nat.reduceLeDiff, Nat.reduceEqDiff, Nat.reduceAdd, Nat.reduceMul, Nat.reduceSub, reduceIte, reduceCtorEq, Int.reduceLT, Int.reduceLE, Int.reduceToNat, Int.reduceAdd, Int.reduceSub, Int.reduceNeg, Int.reduceEq, Int.reduceNe, Int.reduceBEq, Int.reduceBNe, BitVec.reduceBEq, BitVec.reduceBNe, BitVec.reduceOfInt, BitVec.reduceSetWidth, -List.reduceReplicate]
      refine (rrotOk (V.getD 4 0) 11 (by decide)).flatv (by simp only [argsx, argx_int, argx_bool, argx_fn, argx_ro, argx_nils, eq_self, true_and, and_true, and_self]; try trivial) (fun _ => rfl) rfl ?_
      simp (maxSteps := 1000000) -implicitDefEqProofs only [go_sem, Nat.reduceBEq, Nat.reduceLT, Nat.reduceLeDiff, Nat.reduceEqDiff, Nat.reduceAdd, Nat.reduceMul, Nat.reduceSub, reduceIte, reduceCtorEq, Int.reduceLT, Int.reduceLE, Int.reduceToNat, Int.reduceAdd, Int.reduceSub, Int.reduceNeg, Int.reduceEq, Int.reduceNe, Int.reduceBEq, Int.reduceBNe, BitVec.reduceBEq, BitVec.reduceBNe, BitVec.reduceOfInt, BitVec.reduceSetWidth, -List.reduceReplicate]
      refine (rrotOk (V.getD 4 0) 25 (by decide)).flatv (by simp only [argsx, argx_int, argx_bool, argx_fn, argx_ro, argx_nils, eq_self, true_and, and_true, and_self]; try trivial) (fun _ => rfl) rfl ?_
      simp (maxSteps := 1000000) -implicitDefEqProofs only [go_sem, Nat.reduceBEq, Nat.reduceLT, Nat.reduceLeDiff, Nat.reduceEqDiff, Nat.reduceAdd, Nat.reduceMul, Nat.reduceSub, reduceIte, reduceCtorEq, Int.reduceLT, Int.reduceLE, Int.reduceToNat, Int.reduceAdd, Int.reduceSub, Int.reduceNeg, Int.reduceEq, Int.reduceNe, Int.reduceBEq, Int.reduceBNe, BitVec.reduceBEq, BitVec.reduceBNe, BitVec.reduceOfInt, BitVec.reduceSetWidth, -List.reduceReplicate]
      refine (rrotOk (V.getD 0 0) 2 (by decide)).flatv (by simp only [argsx, argx_int, argx_bool, argx_fn, argx_ro, argx_nils, eq_self, true_and, and_true, and_self]; try trivial) (fun _ => rfl) rfl ?_
      simp (maxSteps := 1000000) -implicitDefEqProofs only [go_sem, Nat.reduceBEq, Nat.reduceLT, Nat.reduceLeDiff, Nat.reduceEqDiff, Nat.reduceAdd, Nat.reduceMul, Nat.reduceSub, reduceIte, reduceCtorEq, Int.reduceLT, Int.reduceLE, Int.reduceToNat, Int.reduceAdd, Int.reduceSub, Int.reduceNeg, Int.reduceEq, Int.reduceNe, Int.reduceBEq, Int.reduceBNe, BitVec.reduceBEq, BitVec.reduceBNe, BitVec.reduceOfInt, BitVec.reduceSetWidth, -List.reduceReplicate]
      refine (rrotOk (V.getD 0 0) 13 (by decide)).flatv (by simp only [argsx, argx_int, argx_bool, argx_fn, argx_ro, argx_nils, eq_self, true_and, and_true, and_self]; try trivial) (fun _ => rfl) rfl ?_
      simp (maxSteps := 1000000) -implicitDefEqProofs only [go_sem, Nat.reduceBEq, Nat.reduceLT, Nat.reduceLeDiff, Nat.reduceEqDiff, Nat.reduceAdd, Nat.reduceMul, Nat.reduceSub, reduceIte, reduceCtorEq, Int.reduceLT, Int.reduceLE, Int.reduceToNat, Int.reduceAdd, Int.reduceSub, Int.reduceNeg, Int.reduceEq, Int.reduceNe, Int.reduceBEq, Int.reduceBNe, BitVec.reduceBEq, BitVec.reduceBNe, BitVec.reduceOfInt, BitVec.reduceSetWidth, -List.reduceReplicate]
      refine (rrotOk (V.getD 0 0) 22 (by decide)).flatv (by simp only [argsx, argx_int, argx_bool, argx_fn, argx_ro, argx_nils, eq_self, true_and, and_true, and_self]; try trivial) (fun _ => rfl) rfl ?_
      simp (maxSteps := 1000000) -implicitDefEqProofs only [go_sem, Nat.reduceBEq, Nat.reduceLT, Nat.reduceLeDiff, Nat.reduceEqDiff, Nat.reduceAdd, Nat.reduceMul, Nat.reduceSub, reduceIte, reduceCtorEq, Int.reduceLT, Int.reduceLE, Int.reduceToNat, Int.reduceAdd, Int.reduceSub, Int.reduceNeg, Int.reduceEq, Int.reduceNe, Int.reduceBEq, Int.reduceBNe, BitVec.reduceBEq, BitVec.reduceBNe, BitVec.reduceOfInt, BitVec.reduceSetWidth, -List.reduceReplicate, wi]
      refine UpK_normal g (Le.sameM ?_ (by simp))
      rw [hnr]
      exact ⟨rfl, rfl, rfl, rfl, rfl, rfl, rfl, rfl, rfl, rfl, rfl, rfl, rfl, rfl, trivial⟩
    · have hii : i = 64 := by omega
      subst hii
      have f2 : decide ((64 : Int) < 64) = false := rfl
      generalize rrds Wd L 64 = V at *
      simp (maxSteps := 1000000) -implicitDefEqProofs only [go_sem, Nat.reduceBEq, Nat.reduceLT, Nat.reduceLeDiff, Nat.reduceEqDiff, Nat.reduceAdd, Nat.reduceMul, Nat.reduceSub, reduceIte, reduceCtorEq, Int.reduceLT, Int.reduceLE, Int.reduceToNat, Int.reduceAdd, Int.reduceSub, Int.reduceNeg, Int.reduceEq, Int.reduceNe, Int.reduceBEq, Int.reduceBNe, BitVec.reduceBEq, BitVec.reduceBNe, BitVec.reduceOfInt, BitVec.reduceSetWidth, -List.reduceReplicate, f2]
      refine ⟨Fx.mixed, .inl ⟨[(0, false), (1, false), (2, false), (3, false), (4, false), (5, false), (6, false), (7, false), (8, false), (9, false), (10, false), (11, false), (12, false), (13, false), (14, false), (15, false), (16, false), (17, false), (18, false), (19, false), (20, false), (21, false), (22, false), (23, false), (24, false), (25, false), (26, false), (27, false), (28, false), (29, false), (30, false), (31, false), (32, false), (33, false), (34, false), (35, false), (36, false), (37, false), (38, false), (39, false), (40, true), (41, false)], [], by kernel_rfl, (fun n hn => by cases hn), ?_⟩⟩
      simp (maxSteps := 1000000) -implicitDefEqProofs only [go_sem, Nat.reduceBEq, Nat.reduceLT, Nat.reduceLeDiff, Nat.reduceEqDiff, Nat.reduceAdd, Nat.reduceMul, Nat.reduceSub, reduceIte, reduceCtorEq, Int.reduceLT, Int.reduceLE, Int.reduceToNat, Int.reduceAdd, Int.reduceSub, Int.reduceNeg, Int.reduceEq, Int.reduceNe, Int.reduceBEq, Int.reduceBNe, BitVec.reduceBEq, BitVec.reduceBNe, BitVec.reduceOfInt, BitVec.reduceSetWidth, -List.reduceReplicate, w64, l0, l1, l2, l3, l4, l5, l6, l7, List.length_append, bvs_length, hL]
      refine ⟨by omega, by omega, by omega, by omega, by omega, by omega, by omega, by omega, .inr trivial, UpX_normal h' (8, []) trivial ?_⟩
      exact Le.two (n1 := 3) (n2 := 1) (by decide) ⟨rfl, rfl, rfl, by simp only [renA, bvs_ren]; rfl, trivial⟩ (by rw [hnx]; simp only [renO, renL_vals']; simp only [List.map_nil, List.append_nil]; rfl) (by simp only [renO, renL_vals']; rfl)
  · have hnn : n = N := by omega
    subst hnn
    have f1 : decide (((64 * n : Nat) : Int) < (p.length : Int)) = false := by simp; omega
    have hL := rBl_len p n
    generalize rBl p n = L at *
    simp (maxSteps := 1000000) -implicitDefEqProofs only [go_sem, Nat.reduceBEq, Nat.reduceLT, Nat.reduceLeDiff, Nat.reduceEqDiff, Nat.reduceAdd, Nat.reduceMul, Nat.reduceSub, reduceIte, reduceCtorEq, Int.reduceLT, Int.reduceLE, Int.reduceToNat, Int.reduceAdd, Int.reduceSub, Int.reduceNeg, Int.reduceEq, Int.reduceNe, Int.reduceBEq, Int.reduceBNe, BitVec.reduceBEq, BitVec.reduceBNe, BitVec.reduceOfInt, BitVec.reduceSetWidth, -List.reduceReplicate, f1]
    have e8 : (bvs .u32 L ++ s1.map AV.val).length = 8 + s1.length := by rw [List.length_append, bvs_length, hL, List.length_map]
    generalize hCL : bvs .u32 L ++ s1.map AV.val = CL at *
    refine LoopOk.upX (fun i x => ApL (.cells CL 108) (outR L i) x) 8 (fun i x => ((19, x.1) :: [(20, .int .i64 i), (3, .sl 0 0 8 c1)], x.2.1, x.2.2)) (.nils, [(0, .cells CL 108)], 1) (.inl ⟨rfl, rfl⟩) ?_ ?_
    · refine Le.one (n' := 0) ⟨rfl, rfl, rfl, trivial⟩ ?_
      rw [← hCL]
      simp only [renO, renL_vals']
      rfl
    intro i x ⟨hi, hq⟩
    have hol := outR_len L i
    rcases Nat.lt_or_ge i 8 with g | g
    · have f2 : decide ((i : Int) < 8) = true := by simp; omega
      have wi : IntKind.i64.wrap ((i : Int) + 1) = ((i + 1 : Nat) : Int) := by rw [wrap_i64] <;> omega
      have hg := bvsS_getD .u32 L (s1.map AV.val) i (by omega)
      rw [hCL] at hg
      have hnx : outR L (i + 1) = outR L i ++ b4 (L.getD i 0) := rfl
      rcases hq with ⟨hn, rfl⟩ | ⟨cap, sp, rfl, g1, g2⟩
      · rw [hn, List.nil_append] at hnx
        simp (maxSteps := 1000000) -implicitDefEqProofs only [go_sem, Nat.reduceBEq, Nat.reduceLT, Nat.reduceLeDiff, Nat.reduceEqDiff, Nat.reduceAdd, Nat.reduceMul, Nat.reduceSub, reduceIte, reduceCtorEq, Int.reduceLT, Int.reduceLE, Int.reduceToNat, Int.reduceAdd, Int.reduceSub, Int.reduceNeg, Int.reduceEq, Int.reduceNe, Int.reduceBEq, Int.reduceBNe, BitVec.reduceBEq, BitVec.reduceBNe, BitVec.reduceOfInt, BitVec.reduceSetWidth, -List.reduceReplicate, f2]
        refine ⟨Fx.mixed, .inl ⟨[(0, false), (1, false), (2, false), (3, false), (4, false), (5, false), (6, false), (7, false), (8, false), (9, false), (10, false), (11, false), (12, false), (13, false), (14, false), (15, false), (16, false), (17, false), (18, false), (19, false), (20, false), (21, false), (22, false), (23, false), (24, true), (25, true), (26, false)], [], by kernel_rfl, (fun n hn => by cases hn), ?_⟩⟩
        simp (maxSteps := 1000000) -implicitDefEqProofs only [go_sem, Nat.reduceBEq, Nat.reduceLT, Nat.reduceLeDiff, Nat.reduceEqDiff, Nat.reduceAdd, Nat.reduceMul, Nat.reduceSub, reduceIte, reduceCtorEq, Int.reduceLT, Int.reduceLE, Int.reduceToNat, Int.reduceAdd, Int.reduceSub, Int.reduceNeg, Int.reduceEq, Int.reduceNe, Int.reduceBEq, Int.reduceBNe, BitVec.reduceBEq, BitVec.reduceBNe, BitVec.reduceOfInt, BitVec.reduceSetWidth, -List.reduceReplicate, hg, e8]
        refine ⟨by omega, by omega, by omega, by omega, by omega, by omega, by omega, by omega, .inr trivial, rfl, ?_⟩
        refine appk_nils (y := b4 (L.getD i 0)) (bt := 1) (by decide) (by show 4 * 1 ≤ _; decide) (fun e => by cases e) fun _ cap sp g1 g2 => ?_
        simp (maxSteps := 1000000) -implicitDefEqProofs only [go_sem, Nat.reduceBEq, Nat.reduceLT, Nat.reduceLeDiff, Nat.reduceEqDiff, Nat.reduceAdd, Nat.reduceMul, Nat.reduceSub, reduceIte, reduceCtorEq, Int.reduceLT, Int.reduceLE, Int.reduceToNat, Int.reduceAdd, Int.reduceSub, Int.reduceNeg, Int.reduceEq, Int.reduceNe, Int.reduceBEq, Int.reduceBNe, BitVec.reduceBEq, BitVec.reduceBNe, BitVec.reduceOfInt, BitVec.reduceSetWidth, -List.reduceReplicate, wi]
        refine UpX_normal g (_, _, _) (.inr ⟨cap, sp, rfl, by rw [hnx]; exact g1, g2⟩) ?_
        exact Le.two (n1 := 0) (n2 := 2) (by decide) ⟨by rw [hnx]; rfl, rfl, rfl, trivial⟩ (by rw [← hCL]; simp only [renO, renL_vals']; rfl) (by rw [hnx]; simp only [renO, renL_vals']; rfl)
      · simp (maxSteps := 1000000) -implicitDefEqProofs only [go_sem, Nat.reduceBEq, Nat.reduceLT, Nat.reduceLeDiff, Nat.reduceEqDiff, Nat.reduceAdd, Nat.reduceMul, Nat.reduceSub, reduceIte, reduceCtorEq, Int.reduceLT, Int.reduceLE, Int.reduceToNat, Int.reduceAdd, Int.reduceSub, Int.reduceNeg, Int.reduceEq, Int.reduceNe, Int.reduceBEq, Int.reduceBNe, BitVec.reduceBEq, BitVec.reduceBNe, BitVec.reduceOfInt, BitVec.reduceSetWidth, -List.reduceReplicate, f2]
        refine ⟨Fx.mixed, .inl ⟨[(0, false), (1, false), (2, false), (3, false), (4, false), (5, false), (6, false), (7, false), (8, false), (9, false), (10, false), (11, false), (12, false), (13, false), (14, false), (15, false), (16, false), (17, false), (18, false), (19, false), (20, false), (21, false), (22, false), (23, false), (24, true), (25, true), (26, false)], [1], by kernel_rfl, (fun n hn => by cases List.mem_singleton.1 hn; exact ⟨rfl, rfl⟩), ?_⟩⟩
        simp (maxSteps := 1000000) -implicitDefEqProofs only [go_sem, Nat.reduceBEq, Nat.reduceLT, Nat.reduceLeDiff, Nat.reduceEqDiff, Nat.reduceAdd, Nat.reduceMul, Nat.reduceSub, reduceIte, reduceCtorEq, Int.reduceLT, Int.reduceLE, Int.reduceToNat, Int.reduceAdd, Int.reduceSub, Int.reduceNeg, Int.reduceEq, Int.reduceNe, Int.reduceBEq, Int.reduceBNe, BitVec.reduceBEq, BitVec.reduceBNe, BitVec.reduceOfInt, BitVec.reduceSetWidth, -List.reduceReplicate, hg, e8]
        refine ⟨by omega, by omega, by omega, by omega, by omega, by omega, by omega, by omega, .inr trivial, rfl, ?_⟩
        refine appk_bvs (x := outR L i) (y := b4 (L.getD i 0)) (n := 1) (sp := sp) rfl rfl g1 g2 (bt := 1) (by decide) (by rw [hol]; show (4 * i + 4) * 1 ≤ _; omega) fun cap2 sp2 g3 g4 => ?_
        rw [← hnx]
        rw [← hnx] at g3
        simp (maxSteps := 1000000) -implicitDefEqProofs only [go_sem, Nat.reduceBEq, Nat.reduceLT, Nat.reduceLeDiff, Nat.reduceEqDiff, Nat.reduceAdd, Nat.reduceMul, Nat.reduceSub, reduceIte, reduceCtorEq, Int.reduceLT, Int.reduceLE, Int.reduceToNat, Int.reduceAdd, Int.reduceSub, Int.reduceNeg, Int.reduceEq, Int.reduceNe, Int.reduceBEq, Int.reduceBNe, BitVec.reduceBEq, BitVec.reduceBNe, BitVec.reduceOfInt, BitVec.reduceSetWidth, -List.reduceReplicate, wi]
        refine UpX_normal g (_, _, _) (.inr ⟨cap2, sp2, rfl, g3, g4⟩) ?_
        exact Le.two (n1 := 0) (n2 := 3) (by decide) ⟨rfl, rfl, rfl, trivial⟩ (by rw [← hCL]; simp only [renO, renL_vals']; rfl) (by simp only [renO, renL_vals']; rfl)
    · have hii : i = 8 := by omega
      subst hii
      have f2 : decide ((8 : Int) < 8) = false := rfl
      rcases hq with ⟨hn, rfl⟩ | ⟨cap, sp, rfl, g1, g2⟩
      · rw [hn] at hol; cases hol
      simp (maxSteps := 1000000) -implicitDefEqProofs only [go_sem, Nat.reduceBEq, Nat.reduceLT, Nat.reduceLeDiff, Nat.reduceEqDiff, Nat.reduceAdd, Nat.reduceMul, Nat.reduceSub, reduceIte, reduceCtorEq, Int.reduceLT, Int.reduceLE, Int.reduceToNat, Int.reduceAdd, Int.reduceSub, Int.reduceNeg, Int.reduceEq, Int.reduceNe, Int.reduceBEq, Int.reduceBNe, BitVec.reduceBEq, BitVec.reduceBNe, BitVec.reduceOfInt, BitVec.reduceSetWidth, -List.reduceReplicate, f2]
      exact Fin.by (.row (n := 1) (sp := sp.map AV.val) rfl rfl (by rw [List.length_map]; exact g1) g2 (val_pln _)) (fun e => by cases e) idG (fun _ _ => rfl)
end Go.Proofs.Ytmdeoikpiiambaa
/-! Shl -/
namespace Go.Proofs.Ytmdeoikpiiambaa
open Go Go.Eng
theorem div_shr (x : BitVec 32) (n : Nat) (c : BitVec 32) (h : c.toNat = 2 ^ n) : x / c = x >>> n := by
  apply BitVec.eq_of_toNat_eq
  rw [BitVec.toNat_udiv, BitVec.toNat_ushiftRight, Nat.shiftRight_eq_div_pow, h]
theorem s0_eq (x : BitVec 32) : s0W x = s0R x := by
  rw [s0W, s0R, rotN_eq x 7 (by decide), rotN_eq x 18 (by decide), div_shr x 3 8#32 rfl]
theorem s1_eq (x : BitVec 32) : s1W x = s1R x := by
  rw [s1W, s1R, rotN_eq x 17 (by decide), rotN_eq x 19 (by decide), div_shr x 10 1024#32 rfl]
theorem not_sub (x : BitVec 32) : ~~~ x = 4294967295#32 - x := by
  apply BitVec.eq_of_toNat_eq
  have hx := x.isLt
  have e : (4294967295#32).toNat = 4294967295 := rfl
  rw [BitVec.toNat_not, BitVec.toNat_sub, e]
  omega
theorem t_eq (V : List (BitVec 32)) (q w : BitVec 32) : tW V q w = rT V q w := by
  rw [tW, rT, not_sub, rotN_eq _ 6 (by decide), rotN_eq _ 11 (by decide), rotN_eq _ 25 (by decide)]
theorem u_eq (V : List (BitVec 32)) : uW V = rU V := by
  rw [uW, rU, rotN_eq _ 2 (by decide), rotN_eq _ 13 (by decide), rotN_eq _ 22 (by decide)]
theorem round_eq (V : List (BitVec 32)) (q w : BitVec 32) : roundW V q w = rRound V q w := by
  rw [roundW, rRound, t_eq, u_eq]
theorem rds_eq (w V : List (BitVec 32)) (n : Nat) : rds w V n = rrds w V n := by
  induction n with
  | zero => rfl
  | succ n ih => rw [rds, rrds, ih, round_eq]
theorem add_eq (L V : List (BitVec 32)) (h : L.length = 8) : addN L V 8 = rAdd L V := by
  match L, h with
  | [a, b, c, d, e, f, g, h], _ => rfl
theorem word4 (a b c d : BitVec 8) : (a.setWidth 32 <<< 24) ||| (b.setWidth 32 <<< 16) ||| (c.setWidth 32 <<< 8) ||| d.setWidth 32 = 256#32 * (256#32 * (256#32 * (256#32 * 0#32 + a.setWidth 32) + b.setWidth 32) + c.setWidth 32) + d.setWidth 32 := by
  have ha := a.isLt
  have hb := b.isLt
  have hc := c.isLt
  have hd := d.isLt
  apply BitVec.eq_of_toNat_eq
  have e : (256#32).toNat = 256 := rfl
  have e0 : (0#32).toNat = 0 := rfl
  simp only [BitVec.toNat_or, BitVec.toNat_shiftLeft, BitVec.toNat_add, BitVec.toNat_mul, BitVec.toNat_setWidth, e, e0, Nat.shiftLeft_eq]
  generalize a.toNat = a at *
  generalize b.toNat = b at *
  generalize c.toNat = c at *
  generalize d.toNat = d at *
  have r1 : a % 2 ^ 32 * 2 ^ 24 % 2 ^ 32 = a * 2 ^ 24 := by
    rw [Nat.mod_eq_of_lt (a := a) (Nat.lt_trans ha (by decide)), Nat.mod_eq_of_lt]
    exact Nat.lt_of_lt_of_le (Nat.mul_lt_mul_of_pos_right ha (by decide)) (by decide)
  have r2 : b % 2 ^ 32 * 2 ^ 16 % 2 ^ 32 = b * 2 ^ 16 := by
    rw [Nat.mod_eq_of_lt (a := b) (Nat.lt_trans hb (by decide)), Nat.mod_eq_of_lt]
    exact Nat.lt_of_lt_of_le (Nat.mul_lt_mul_of_pos_right hb (by decide)) (by decide)
  have r3 : c % 2 ^ 32 * 2 ^ 8 % 2 ^ 32 = c * 2 ^ 8 := by
    rw [Nat.mod_eq_of_lt (a := c) (Nat.lt_trans hc (by decide)), Nat.mod_eq_of_lt]
    exact Nat.lt_of_lt_of_le (Nat.mul_lt_mul_of_pos_right hc (by decide)) (by decide)
  have r4 : d % 2 ^ 32 = d := by omega
  have o1 : a * 2 ^ 24 ||| b * 2 ^ 16 = (a * 256 + b) * 2 ^ 16 := by
    rw [or_field a (b * 2 ^ 16) 24 (by omega)]; omega
  have o2 : (a * 256 + b) * 2 ^ 16 ||| c * 2 ^ 8 = ((a * 256 + b) * 256 + c) * 2 ^ 8 := by
    rw [or_field _ (c * 2 ^ 8) 16 (by omega)]; omega
  rw [r1, r2, r3, r4, o1, o2, or_field _ d 8 (by omega)]
  omega
theorem getD_drop' (b : List (BitVec 8)) (m k : Nat) : (b.drop m).getD k 0 = b.getD (m + k) 0 := by
  simp only [List.getD_eq_getElem?_getD, List.getElem?_drop]
theorem getD_take' (b : List (BitVec 8)) (m k : Nat) (h : k < m) : (b.take m).getD k 0 = b.getD k 0 := by
  simp only [List.getD_eq_getElem?_getD, List.getElem?_take, if_pos h]
theorem word_eq (b : List (BitVec 8)) (n : Nat) (h : n < 16) : wordB (b.drop (4 * n)) = rwB (b.take 64) n 4 := by
  rw [wordB, getD_drop', getD_drop', getD_drop', getD_drop', word4]
  rw [rwB, rwB, rwB, rwB, rwB, getD_take' _ _ _ (by omega), getD_take' _ _ _ (by omega), getD_take' _ _ _ (by omega), getD_take' _ _ _ (by omega)]
theorem wl_eq (b : List (BitVec 8)) (n : Nat) : wl b n = rl (b.take 64) n := by
  induction n with
  | zero => rfl
  | succ n ih =>
    rw [wl, rl, ih, wNext, rNext]
    split
    · rename_i h; rw [word_eq b n h]
    · rw [s0_eq, s1_eq]
theorem block_eq (L : List (BitVec 32)) (hL : L.length = 8) (b : List (BitVec 8)) : blockW L b = rBlock L (b.take 64) := by
  rw [blockW, rBlock, add_eq L _ hL, rds_eq, wl_eq]
def rblG (W : List (BitVec 32)) (b : List (BitVec 8)) : Nat → List (BitVec 32)
  | 0 => W
  | n + 1 => rBlock (rblG W b n) ((b.drop (64 * n)).take 64)
theorem rblG_rBl (b : List (BitVec 8)) (n : Nat) : rBl b n = rblG beginL b n := by
  induction n with
  | zero => rfl
  | succ n ih => rw [rBl, rblG, ih]
theorem bl_eq (W : List (BitVec 32)) (hW : W.length = 8) (b : List (BitVec 8)) (n : Nat) : bl W b n = rblG W b n := by
  induction n with
  | zero => rfl
  | succ n ih => rw [bl, rblG, block_eq _ (by rw [bl_len, hW]), ih]
theorem rblG_app1 (W : List (BitVec 32)) (X Y P : List (BitVec 8)) : ∀ n, 64 * n ≤ X.length → rblG W (X ++ Y) n = rblG W (X ++ P) n
  | 0, _ => rfl
  | n + 1, h => by
    rw [rblG, rblG, rblG_app1 W X Y P n (by omega), List.drop_append_of_le_length (by omega), List.drop_append_of_le_length (by omega), List.take_append_of_le_length (by rw [List.length_drop]; omega), List.take_append_of_le_length (by rw [List.length_drop]; omega)]
theorem rblG_app2 (W : List (BitVec 32)) (X P : List (BitVec 8)) (k : Nat) (h : X.length = 64 * k) : ∀ j, rblG (rblG W (X ++ P) k) P j = rblG W (X ++ P) (k + j)
  | 0 => rfl
  | j + 1 => by
    rw [rblG, rblG_app2 W X P k h j, ← Nat.add_assoc, rblG]
    have : (X ++ P).drop (64 * (k + j)) = P.drop (64 * j) := by
      rw [List.drop_append, List.drop_eq_nil_of_le (by omega), List.nil_append]
      congr 1; omega
    rw [this]
theorem pw_toNat : ∀ n : Fin 8, (pw n.val).toNat = 2 ^ (8 * (7 - n.val)) := by decide
theorem by_eq (m : BitVec 64) : ∀ n, n ≤ 8 → ry8 m n = by8 m n
  | 0, _ => rfl
  | n + 1, h => by
    rw [ry8, by8, by_eq m n (by omega)]
    congr 2
    apply BitVec.eq_of_toNat_eq
    have hp := pw_toNat ⟨n, by omega⟩
    simp only at hp
    have e : (256#64).toNat = 256 := rfl
    rw [BitVec.toNat_setWidth, BitVec.toNat_setWidth, BitVec.toNat_umod, BitVec.toNat_udiv, BitVec.toNat_ushiftRight, Nat.shiftRight_eq_div_pow, hp, e]
    omega
theorem pad_eq (b : List (BitVec 8)) : padR b = b.take (64 * (b.length / 64)) ++ padL (b.drop (64 * (b.length / 64))) ((0 + BitVec.ofNat 64 b.length) * 8#64) := by
  have hz : zN (b.drop (64 * (b.length / 64))).length = zN b.length := by
    rw [zN, zN, List.length_drop]; omega
  have hm : (0 + BitVec.ofNat 64 b.length) * 8#64 = 8#64 * BitVec.ofNat 64 b.length := by
    show (0#64 + BitVec.ofNat 64 b.length) * 8#64 = _
    rw [BitVec.zero_add, BitVec.mul_comm]
  rw [padR, rpE, padL, padE, hz, hm, by_eq _ 8 (Nat.le_refl _), padZ, padZ]
  simp only [← List.append_assoc, List.take_append_drop]
theorem outN_all (W : List (BitVec 32)) : outN W 32 = [outB W 0, outB W 1, outB W 2, outB W 3, outB W 4, outB W 5, outB W 6, outB W 7, outB W 8, outB W 9, outB W 10, outB W 11, outB W 12, outB W 13, outB W 14, outB W 15, outB W 16, outB W 17, outB W 18, outB W 19, outB W 20, outB W 21, outB W 22, outB W 23, outB W 24, outB W 25, outB W 26, outB W 27, outB W 28, outB W 29, outB W 30, outB W 31] := by
  simp only [outN, List.replicate_succ, List.replicate_zero, List.set_cons_zero, List.set_cons_succ]
theorem b4_eq (x : BitVec 32) : b4 x = [(x >>> 24).setWidth 8, (x >>> 16).setWidth 8, (x >>> 8).setWidth 8, (x >>> 0).setWidth 8] := by
  rw [b4, div_shr x 24 16777216#32 rfl, div_shr x 16 65536#32 rfl, div_shr x 8 256#32 rfl, BitVec.ushiftRight_zero]
theorem out_eq (W : List (BitVec 32)) : outN W 32 = outR W 8 := by
  simp only [outN_all, outR, b4_eq, outB, Nat.reduceDiv, Nat.reduceMod, Nat.reduceMul, Nat.reduceSub, List.nil_append, List.cons_append]
theorem sha_eq (b : List (BitVec 8)) : shaP b = shaR b := by
  rw [shaP, shaR, out_eq, sumW]
  congr 1
  have hk : (b.take (64 * (b.length / 64))).length = 64 * (b.length / 64) := by rw [List.length_take]; omega
  have hpl := padL_mod (b.drop (64 * (b.length / 64))) ((0 + BitVec.ofNat 64 b.length) * 8#64)
  rw [bl_eq beginL rfl, pad_eq b]
  generalize padL (b.drop (64 * (b.length / 64))) ((0 + BitVec.ofNat 64 b.length) * 8#64) = P at *
  have h1 : rblG beginL b (b.length / 64) = rblG beginL (b.take (64 * (b.length / 64)) ++ P) (b.length / 64) := by
    have := rblG_app1 beginL (b.take (64 * (b.length / 64))) (b.drop (64 * (b.length / 64))) P (b.length / 64) (by omega)
    rwa [List.take_append_drop] at this
  rw [h1, rblG_rBl]
  have h2 : (b.take (64 * (b.length / 64)) ++ P).length / 64 = b.length / 64 + P.length / 64 := by rw [List.length_append, hk]; omega
  rw [h2, ← rblG_app2 beginL _ P _ hk]
  refine bl_eq _ ?_ _ _
  cases hc : b.length / 64 with
  | zero => rfl
  | succ n => rfl
end Go.Proofs.Ytmdeoikpiiambaa
