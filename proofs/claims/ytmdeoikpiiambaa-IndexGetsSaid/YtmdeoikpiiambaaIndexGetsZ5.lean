/- Part 5 of the proof of the statement IndexGets: Md, Fla, Flx, Ixa, Ixb, Ixc, Ixd, Ixe, Ixf, Ixg, Ixh, Ixi, Ixj, Ixk, Ixl, Ixm. -/
import Derived.Test.YtmdeoikpiiambaaIndexGetsZ4
section
/- SHA-256: the document; both are alike. -/
set_option linter.unusedVariables false
set_option linter.unusedSimpArgs false
set_option maxRecDepth 100000
/-! Shk -/
namespace Go.Eng
theorem LoopOk.upXF {X : Type} (Q : Nat → X → Prop) {nf : Nat} {E : Ex} {wr : Nat → Bool} {t : Slots} {m : Mem} {nx : Nat} {K : Kx} (n : Nat) (S : Nat → X → Slots × Mem × Nat) (x0 : X) (hq : Q 0 x0)
    (h0 : LeF nf wr t m nx (S 0 x0).1 (S 0 x0).2.1 (S 0 x0).2.2) (hr : ∀ i x (hi : i ≤ n ∧ Q i x), E (S i x).1 (S i x).2.1 (S i x).2.2 (UpX Q nf wr S n i x hi K)) : LoopOk true nf E wr t m nx K :=
  ⟨{ p : Nat × X // p.1 ≤ n ∧ Q p.1 p.2 }, fun p => S p.1.1 p.1.2, fun p => n - p.1.1, ⟨⟨(0, x0), Nat.zero_le _, hq⟩, .inr ⟨rfl, h0⟩⟩, fun p => hr p.1.1 p.1.2 p.2⟩
end Go.Eng
namespace Go.Proofs.Ytmdeoikpiiambaa
open Go Go.Eng
def rT (V : List (BitVec 32)) (q w : BitVec 32) : BitVec 32 :=
  V.getD 7 0 + (rotN (V.getD 4 0) 6 ^^^ rotN (V.getD 4 0) 11 ^^^ rotN (V.getD 4 0) 25) + (V.getD 4 0 &&& V.getD 5 0 ^^^ (4294967295#32 - V.getD 4 0) &&& V.getD 6 0) + q + w
def rU (V : List (BitVec 32)) : BitVec 32 :=
  (rotN (V.getD 0 0) 2 ^^^ rotN (V.getD 0 0) 13 ^^^ rotN (V.getD 0 0) 22) + (V.getD 0 0 &&& V.getD 1 0 ^^^ V.getD 0 0 &&& V.getD 2 0 ^^^ V.getD 1 0 &&& V.getD 2 0)
def rRound (V : List (BitVec 32)) (q w : BitVec 32) : List (BitVec 32) :=
  [rT V q w + rU V, V.getD 0 0, V.getD 1 0, V.getD 2 0, V.getD 3 0 + rT V q w, V.getD 4 0, V.getD 5 0, V.getD 6 0]
def rrds (w V : List (BitVec 32)) : Nat → List (BitVec 32)
  | 0 => V
  | n + 1 => rRound (rrds w V n) (rootsL.getD n 0) (w.getD n 0)
def rAdd (L V : List (BitVec 32)) : List (BitVec 32) :=
  [L.getD 0 0 + V.getD 0 0, L.getD 1 0 + V.getD 1 0, L.getD 2 0 + V.getD 2 0, L.getD 3 0 + V.getD 3 0, L.getD 4 0 + V.getD 4 0, L.getD 5 0 + V.getD 5 0, L.getD 6 0 + V.getD 6 0, L.getD 7 0 + V.getD 7 0]
def rBlock (L : List (BitVec 32)) (b : List (BitVec 8)) : List (BitVec 32) := rAdd L (rrds (rl b 64) L 64)
def rBl (b : List (BitVec 8)) : Nat → List (BitVec 32)
  | 0 => beginL
  | n + 1 => rBlock (rBl b n) ((b.drop (64 * n)).take 64)
theorem rBl_len (b : List (BitVec 8)) (n : Nat) : (rBl b n).length = 8 := by
  cases n with
  | zero => rfl
  | succ n => rfl
/-- a word's four bytes, the first on the left -/
def b4 (x : BitVec 32) : List (BitVec 8) := [(x / 16777216#32).setWidth 8, (x / 65536#32).setWidth 8, (x / 256#32).setWidth 8, x.setWidth 8]
def outR (L : List (BitVec 32)) : Nat → List (BitVec 8)
  | 0 => []
  | n + 1 => outR L n ++ b4 (L.getD n 0)
def shaR (b : List (BitVec 8)) : List (BitVec 8) := outR (rBl (padR b) ((padR b).length / 64)) 8
theorem outR_len (L : List (BitVec 32)) (n : Nat) : (outR L n).length = 4 * n := by
  induction n with
  | zero => rfl
  | succ n ih => rw [outR, List.length_append, ih]; rfl
/-- bytes that are appended to, beside an object -/
def ApL (o : AObj) (X : List (BitVec 8)) (x : AV × Mem × Nat) : Prop :=
  (X = [] ∧ x = (.nils, [(0, o)], 1)) ∨ ∃ (cap : Nat) (sp : List Value), x = (.sl 1 0 X.length cap, [(0, o), (1, .cells (bvs .u8 X ++ sp.map AV.val) 5)], 2) ∧ X.length + sp.length = cap ∧ cap ≤ maxI
theorem padR_mod (b : List (BitVec 8)) : (padR b).length % 64 = 0 := by
  rw [padR, rpE_len, zN]; omega
theorem padR_le (b : List (BitVec 8)) : (padR b).length ≤ b.length + 72 := by
  rw [padR, rpE_len, zN]; omega
set_option maxHeartbeats 1600000 in
theorem rshaOk (b : List (BitVec 8)) (hb : b.length ≤ 100000) : CallOk Try.prog 80 [.ro b.length (bvs .u8 b)] (fun _ => true) [] 0 (ByK 5 idG (shaR b) [] 0) := by
  refine fn_ok Try.func80 rfl (by show 1 ≤ _; decide) ?_
  simp (maxSteps := 1000000) -implicitDefEqProofs only [go_sem, Nat.reduceBEq, Nat.reduceLT, Nat.reduceLeDiff, Nat.reduceEqDiff, Nat.reduceAdd, Nat.reduceMul, Nat.reduceSub, reduceIte, reduceCtorEq, Int.reduceLT, Int.reduceLE, Int.reduceToNat, Int.reduceAdd, Int.reduceSub, Int.reduceNeg, Int.reduceEq, Int.reduceNe, Int.reduceBEq, Int.reduceBNe, BitVec.reduceBEq, BitVec.reduceBNe, BitVec.reduceOfInt, BitVec.reduceSetWidth, -List.reduceReplicate, Try.results80, Try.ntmps80]
  refine rootsROk.more trivial ?_
  rintro _ _ _ ⟨c1, s1, c2, s2, rfl, rfl, rfl⟩
  refine ⟨rfl, by simp only [noRoM, noRoO, noRoL_vals', Bool.and_self], ?_⟩
  simp only [renM, renO, renL_vals']
  simp (maxSteps := 1000000) -implicitDefEqProofs only [go_sem, Nat.reduceBEq, Nat.reduceLT, Nat.reduceLeDiff, Nat.reduceEqDiff, Nat.reduceAdd, Nat.reduceMul, Nat.reduceSub, reduceIte, reduceCtorEq, Int.reduceLT, Int.reduceLE, Int.reduceToNat, Int.reduceAdd, Int.reduceSub, Int.reduceNeg, Int.reduceEq, Int.reduceNe, Int.reduceBEq, Int.reduceBNe, BitVec.reduceBEq, BitVec.reduceBNe, BitVec.reduceOfInt, BitVec.reduceSetWidth, -List.reduceReplicate]
  refine (rpadOk b hb).bytes (by simp only [argsx, argx_int, argx_bool, argx_fn, argx_ro, argx_nils, eq_self, true_and, and_true, and_self]; try trivial) (fun _ _ => rfl) (fun _ _ => rfl) (fun _ => rfl) ?_
  have hm := padR_mod b
  have hl := padR_le b
  have hshr : shaR b = outR (rBl (padR b) ((padR b).length / 64)) 8 := rfl
  rw [hshr]
  generalize padR b = p at *
  obtain ⟨N, hN⟩ : ∃ N, p.length = 64 * N := ⟨p.length / 64, by omega⟩
  have hdN : p.length / 64 = N := by omega
  rw [hdN]
  simp (maxSteps := 1000000) -implicitDefEqProofs only [go_sem, Nat.reduceBEq, Nat.reduceLT, Nat.reduceLeDiff, Nat.reduceEqDiff, Nat.reduceAdd, Nat.reduceMul, Nat.reduceSub, reduceIte, reduceCtorEq, Int.reduceLT, Int.reduceLE, Int.reduceToNat, Int.reduceAdd, Int.reduceSub, Int.reduceNeg, Int.reduceEq, Int.reduceNe, Int.reduceBEq, Int.reduceBNe, BitVec.reduceBEq, BitVec.reduceBNe, BitVec.reduceOfInt, BitVec.reduceSetWidth, -List.reduceReplicate]
  refine LoopOk.upX (fun _ (_ : Nat × List Value) => True) N (fun n x => ([(3, .sl 0 0 8 x.1), (6, .int .i64 ((64 * n : Nat) : Int)), (4, .sl 1 0 64 c2), (5, .ro p.length (bvs .u8 p))], [(0, .cells (bvs .u32 (rBl p n) ++ x.2.map AV.val) 108), (1, .cells (bvs .u32 rootsL ++ s2.map AV.val) 108)], 2)) (c1, s1) trivial ?_ ?_
  · exact Le.two (n1 := 0) (n2 := 1) (by decide) ⟨rfl, rfl, rfl, by simp only [renA, bvs_ren]; rfl, trivial⟩ (by simp only [renO, renL_vals']; rfl) (by simp only [renO, renL_vals']; rfl)
  intro n x ⟨hn, _⟩
  obtain ⟨c1, s1⟩ := x
  rcases Nat.lt_or_ge n N with h' | h'
  · have f1 : decide (((64 * n : Nat) : Int) < (p.length : Int)) = true := by simp; omega
    have w64 : IntKind.i64.wrap (((64 * n : Nat) : Int) + 64) = ((64 * (n + 1) : Nat) : Int) := by rw [wrap_i64] <;> omega
    simp (maxSteps := 1000000) -implicitDefEqProofs only [go_sem, Nat.reduceBEq, Nat.reduceLT, Nat.reduceLeDiff, Nat.reduceEqDiff, Nat.reduceAdd, Nat.reduceMul, Nat.reduceSub, reduceIte, reduceCtorEq, Int.reduceLT, Int.reduceLE, Int.reduceToNat, Int.reduceAdd, Int.reduceSub, Int.reduceNeg, Int.reduceEq, Int.reduceNe, Int.reduceBEq, Int.reduceBNe, BitVec.reduceBEq, BitVec.reduceBNe, BitVec.reduceOfInt, BitVec.reduceSetWidth, -List.reduceReplicate, f1, w64]
    have e64 : 64 * (n + 1) - 64 * n = 64 := by omega
    have hbk : ((p.drop (64 * n)).take 64).length = 64 := by rw [List.length_take, List.length_drop]; omega
    have hnx : rBl p (n + 1) = rAdd (rBl p n) (rrds (rl ((p.drop (64 * n)).take 64) 64) (rBl p n) 64) := rfl
    rw [e64]
    generalize (p.drop (64 * n)).take 64 = bk at *
    refine ⟨by omega, ?_⟩
    refine (rspreadOk bk hbk).bytes (by simp only [argsx, argx_int, argx_bool, argx_fn, argx_ro, argx_nils, eq_self, true_and, and_true, and_self]; try trivial) (fun _ _ => rfl) (fun _ _ => rfl) (fun _ => rfl) ?_
    have hL := rBl_len p n
    have hrl := rl_len bk 64
    rw [hrl]
    generalize rBl p n = L at *
    generalize rl bk 64 = Wd at *
    have l0 := bvsS_getD .u32 L (s1.map AV.val) 0 (by omega)
    have l1 := bvsS_getD .u32 L (s1.map AV.val) 1 (by omega)
    have l2 := bvsS_getD .u32 L (s1.map AV.val) 2 (by omega)
    have l3 := bvsS_getD .u32 L (s1.map AV.val) 3 (by omega)
    have l4 := bvsS_getD .u32 L (s1.map AV.val) 4 (by omega)
    have l5 := bvsS_getD .u32 L (s1.map AV.val) 5 (by omega)
    have l6 := bvsS_getD .u32 L (s1.map AV.val) 6 (by omega)
    have l7 := bvsS_getD .u32 L (s1.map AV.val) 7 (by omega)
    have hroots : rootsL.length = 64 := rfl
    simp (maxSteps := 1000000) -implicitDefEqProofs only [go_sem, Nat.reduceBEq, Nat.reduceLT, Nat.reduceLeDiff, Nat.reduceEqDiff, Nat.reduceAdd, Nat.reduceMul, Nat.reduceSub, reduceIte, reduceCtorEq, Int.reduceLT, Int.reduceLE, Int.reduceToNat, Int.reduceAdd, Int.reduceSub, Int.reduceNeg, Int.reduceEq, Int.reduceNe, Int.reduceBEq, Int.reduceBNe, BitVec.reduceBEq, BitVec.reduceBNe, BitVec.reduceOfInt, BitVec.reduceSetWidth, -List.reduceReplicate, l0, l1, l2, l3, l4, l5, l6, l7, List.length_append, bvs_length, hL]
    refine ⟨by omega, by omega, by omega, by omega, by omega, by omega, by omega, by omega, ?_⟩
    refine LoopOk.up 64 (fun i => ([(16, .int .i64 i), (8, .int .u32 (((rrds Wd L i).getD 0 0).toNat : Int)), (9, .int .u32 (((rrds Wd L i).getD 1 0).toNat : Int)), (10, .int .u32 (((rrds Wd L i).getD 2 0).toNat : Int)), (11, .int .u32 (((rrds Wd L i).getD 3 0).toNat : Int)), (12, .int .u32 (((rrds Wd L i).getD 4 0).toNat : Int)), (13, .int .u32 (((rrds Wd L i).getD 5 0).toNat : Int)), (14, .int .u32 (((rrds Wd L i).getD 6 0).toNat : Int)), (15, .int .u32 (((rrds Wd L i).getD 7 0).toNat : Int)), (7, .ro 64 (bvs .u32 Wd)), (3, .sl 0 0 8 c1), (6, .int .i64 ((64 * n : Nat) : Int)), (4, .sl 1 0 64 c2), (5, .ro p.length (bvs .u8 p))], [(0, .cells (bvs .u32 L ++ s1.map AV.val) 108), (1, .cells (bvs .u32 rootsL ++ s2.map AV.val) 108)], 3)) (Le.sameM ⟨rfl, rfl, rfl, rfl, rfl, rfl, rfl, rfl, rfl, rfl, rfl, rfl, rfl, rfl, trivial⟩ (by simp)) ?_
    intro i hi
    have hnr : rrds Wd L (i + 1) = rRound (rrds Wd L i) (rootsL.getD i 0) (Wd.getD i 0) := rfl
    rcases Nat.lt_or_ge i 64 with g | g
    · have f2 : decide ((i : Int) < 64) = true := by simp; omega
      have wi : IntKind.i64.wrap ((i : Int) + 1) = ((i + 1 : Nat) : Int) := by rw [wrap_i64] <;> omega
      have hq := bvsS_getD .u32 rootsL (s2.map AV.val) i (by rw [hroots]; exact g)
      have hw : (bvs .u32 Wd).getD i (.int .u32 0) = .int .u32 ((Wd.getD i 0).toNat : Int) := bvs_getD ..
      generalize rrds Wd L i = V at *
      simp (maxSteps := 1000000) -implicitDefEqProofs only [go_sem, Nat.reduceBEq, Nat.reduceLT, Nat.reduceLeDiff, Nat.reduceEqDiff, Nat.reduceAdd, Nat.reduceMul, Nat.reduceSub, reduceIte, reduceCtorEq, Int.reduceLT, Int.reduceLE, Int.reduceToNat, Int.reduceAdd, Int.reduceSub, Int.reduceNeg, Int.reduceEq, Int.reduceNe, Int.reduceBEq, Int.reduceBNe, BitVec.reduceBEq, BitVec.reduceBNe, BitVec.reduceOfInt, BitVec.reduceSetWidth, -List.reduceReplicate, f2, wi]
      refine ⟨Fx.mixed, .inl ⟨[(0, false), (1, false), (3, false), (6, false), (10, false), (11, false), (12, false), (13, false), (14, false), (15, false), (16, false), (17, false), (19, false), (20, false), (21, false), (22, false), (24, false), (25, false), (26, false), (27, false), (2, true), (4, true), (5, false), (7, true), (8, false), (9, false), (18, false), (23, false), (28, false), (29, false)], [], by kernel_rfl, (fun n hn => by cases hn), ?_⟩⟩
      simp (maxSteps := 1000000) -implicitDefEqProofs only [go_sem, Nat.reduceBEq, Nat.reduceLT, Nat.reduceLeDiff, Nat.reduceEqDiff, Nat.reduceAdd, Nat.reduceMul, Nat.reduceSub, reduceIte, reduceCtorEq, Int.reduceLT, Int.reduceLE, Int.reduceToNat, Int.reduceAdd, Int.reduceSub, Int.reduceNeg, Int.reduceEq, Int.reduceNe, Int.reduceBEq, Int.reduceBNe, BitVec.reduceBEq, BitVec.reduceBNe, BitVec.reduceOfInt, BitVec.reduceSetWidth, -List.reduceReplicate, hq, hw, List.length_append, bvs_length, hroots]
      refine ⟨by omega, by omega, by omega, by omega, by rw [List.length_drop, hrl]; omega, ?_⟩
      refine (rrotOk (V.getD 4 0) 6 (by decide)).flatv (by simp only [argsx, argx_int, argx_bool, argx_fn, argx_ro, argx_nils, eq_self, true_and, and_true, and_self]; try trivial) (fun _ => rfl) rfl ?_
      simp (maxSteps := 1000000) -implicitDefEqProofs only [go_sem, Nat.reduceBEq, Nat.reduceLT, Nat.reduceLeDiff, Nat.reduceEqDiff, Nat.reduceAdd, Nat.reduceMul, Nat.reduceSub, reduceIte, reduceCtorEq, Int.reduceLT, Int.reduceLE, Int.reduceToNat, Int.reduceAdd, Int.reduceSub, Int.reduceNeg, Int.reduceEq, Int.reduceNe, Int.reduceBEq, Int.reduceBNe, BitVec.reduceBEq, BitVec.reduceBNe, BitVec.reduceOfInt, BitVec.reduceSetWidth, -List.reduceReplicate]
      refine (rrotOk (V.getD 4 0) 11 (by decide)).flatv (by simp only [argsx, argx_int, argx_bool, argx_fn, argx_ro, argx_nils, eq_self, true_and, and_true, and_self]; try trivial) (fun _ => rfl) rfl ?_
      simp (maxSteps := 1000000) -implicitDefEqProofs only [go_sem, Nat.reduceBEq, Nat.reduceLT, Nat.reduceLeDiff, Nat.reduceEqDiff, Nat.reduceAdd, Nat.reduceMul, Nat.reduceSub, reduceIte, reduceCtorEq, Int.reduceLT, Int.reduceLE, Int.reduceToNat, Int.reduceAdd, Int.reduceSub, Int.reduceNeg, Int.reduceEq, Int.reduceNe, Int.reduceBEq, Int.reduceBNe, BitVec.reduceBEq, BitVec.reduceBNe, BitVec.reduceOfInt, BitVec.reduceSetWidth, -List.reduceReplicate]
      refine (rrotOk (V.getD 4 0) 25 (by decide)).flatv (by simp only [argsx, argx_int, argx_bool, argx_fn, argx_ro, argx_nils, eq_self, true_and, and_true, and_self]; try trivial) (fun _ => rfl) rfl ?_
      simp (maxSteps := 1000000) -implicitDefEqProofs only [go_sem, Nat.reduceBEq, Nat.reduceLT, Nat.reduceLeDiff, Nat.reduceEqDiff, Nat.reduceAdd, Nat.reduceMul, Nat.reduceSub, reduceIte, reduceCtorEq, Int.reduceLT, Int.reduceLE, Int.reduceToNat, Int.reduceAdd, Int.reduceSub, Int.reduceNeg, Int.reduceEq, Int.reduceNe, Int.reduceBEq, Int.reduceBNe, BitVec.reduceBEq, BitVec.reduceBNe, BitVec.reduceOfInt, BitVec.reduceSetWidth, -List.reduceReplicate]
      refine (rrotOk (V.getD 0 0) 2 (by decide)).flatv (by simp only [argsx, argx_int, argx_bool, argx_fn, argx_ro, argx_nils, eq_self, true_and, and_true, and_self]; try trivial) (fun _ => rfl) rfl ?_
      simp (maxSteps := 1000000) -implicitDefEqProofs only [go_sem, Nat.reduceBEq, Nat.reduceLT, Nat.reduceLeDiff, Nat.reduceEqDiff, Nat.reduceAdd, Nat.reduceMul, Nat.reduceSub, reduceIte, reduceCtorEq, Int.reduceLT, Int.reduceLE, Int.reduceToNat, Int.reduceAdd, Int.reduceSub, Int.reduceNeg, Int.reduceEq, Int.reduceNe, Int.reduceBEq, Int.reduceBNe, BitVec.reduceBEq, BitVec.reduceBNe, BitVec.reduceOfInt, BitVec.reduceSetWidth, -List.reduceReplicate]
      refine (rrotOk (V.getD 0 0) 13 (by decide)).flatv (by simp only [argsx, argx_int, argx_bool, argx_fn, argx_ro, argx_nils, eq_self, true_and, and_true, and_self]; try trivial) (fun _ => rfl) rfl ?_
      simp (maxSteps := 1000000) -implicitDefEqProofs only [go_sem, Nat.reduceBEq, Nat.reduceLT, Nat.reduceLeDiff, Nat.reduceEqDiff, Nat.reduceAdd, Nat.reduceMul, Nat.reduceSub, reduceIte, reduceCtorEq, Int.reduceLT, Int.reduceLE, Int.reduceToNat, Int.reduceAdd, Int.reduceSub, Int.reduceNeg, Int.reduceEq, Int.reduceNe, Int.reduceBEq, Int.reduceBNe, BitVec.reduceBEq, BitVec.reduceBNe, BitVec.reduceOfInt, BitVec.reduceSetWidth, -List.reduceReplicate]
      refine (rrotOk (V.getD 0 0) 22 (by decide)).flatv (by simp only [argsx, argx_int, argx_bool, argx_fn, argx_ro, argx_nils, eq_self, true_and, and_true, and_self]; try trivial) (fun _ => rfl) rfl ?_
      simp (maxSteps := 1000000) -implicitDefEqProofs only [go_sem, Nat.reduceBEq, Nat.reduceLT, Nat.reduceLeDiff, Nat.reduceEqDiff, Nat.reduceAdd, Nat.reduceMul, Nat.reduceSub, reduceIte, reduceCtorEq, Int.reduceLT, Int.reduceLE, Int.reduceToNat, Int.reduceAdd, Int.reduceSub, Int.reduceNeg, Int.reduceEq, Int.reduceNe, Int.reduceBEq, Int.reduceBNe, BitVec.reduceBEq, BitVec.reduceBNe, BitVec.reduceOfInt, BitVec.reduceSetWidth, -List.reduceReplicate, wi]
      refine UpK_normal g (Le.sameM ?_ (by simp))
      rw [hnr]
      exact ⟨rfl, rfl, rfl, rfl, rfl, rfl, rfl, rfl, rfl, rfl, rfl, rfl, rfl, rfl, trivial⟩
    · have hii : i = 64 := by omega
      subst hii
      have f2 : decide ((64 : Int) < 64) = false := rfl
      generalize rrds Wd L 64 = V at *
      simp (maxSteps := 1000000) -implicitDefEqProofs only [go_sem, Nat.reduceBEq, Nat.reduceLT, Nat.reduceLeDiff, Nat.reduceEqDiff, Nat.reduceAdd, Nat.reduceMul, Nat.reduceSub, reduceIte, reduceCtorEq, Int.reduceLT, Int.reduceLE, Int.reduceToNat, Int.reduceAdd, Int.reduceSub, Int.reduceNeg, Int.reduceEq, Int.reduceNe, Int.reduceBEq, Int.reduceBNe, BitVec.reduceBEq, BitVec.reduceBNe, BitVec.reduceOfInt, BitVec.reduceSetWidth, -List.reduceReplicate, f2]
      refine ⟨Fx.mixed, .inl ⟨[(0, false), (1, false), (2, false), (3, false), (4, false), (5, false), (6, false), (7, false), (8, false), (9, false), (10, false), (11, false), (12, false), (13, false), (14, false), (15, false), (16, false), (17, false), (18, false), (19, false), (20, false), (21, false), (22, false), (23, false), (24, false), (25, false), (26, false), (27, false), (28, false), (29, false), (30, false), (31, false), (32, false), (33, false), (34, false), (35, false), (36, false), (37, false), (38, false), (39, false), (40, true), (41, false)], [], by kernel_rfl, (fun n hn => by cases hn), ?_⟩⟩
      simp (maxSteps := 1000000) -implicitDefEqProofs only [go_sem, Nat.reduceBEq, Nat.reduceLT, Nat.reduceLeDiff, Nat.reduceEqDiff, Nat.reduceAdd, Nat.reduceMul, Nat.reduceSub, reduceIte, reduceCtorEq, Int.reduceLT, Int.reduceLE, Int.reduceToNat, Int.reduceAdd, Int.reduceSub, Int.reduceNeg, Int.reduceEq, Int.reduceNe, Int.reduceBEq, Int.reduceBNe, BitVec.reduceBEq, BitVec.reduceBNe, BitVec.reduceOfInt, BitVec.reduceSetWidth, -List.reduceReplicate, w64, l0, l1, l2, l3, l4, l5, l6, l7, List.length_append, bvs_length, hL]
      refine ⟨by omega, by omega, by omega, by omega, by omega, by omega, by omega, by omega, .inr trivial, UpX_normal h' (8, []) trivial ?_⟩
      exact Le.two (n1 := 3) (n2 := 1) (by decide) ⟨rfl, rfl, rfl, by simp only [renA, bvs_ren]; rfl, trivial⟩ (by rw [hnx]; simp only [renO, renL_vals']; simp only [List.map_nil, List.append_nil]; rfl) (by simp only [renO, renL_vals']; rfl)
  · have hnn : n = N := by omega
    subst hnn
    have f1 : decide (((64 * n : Nat) : Int) < (p.length : Int)) = false := by simp; omega
    have hL := rBl_len p n
    generalize rBl p n = L at *
    simp (maxSteps := 1000000) -implicitDefEqProofs only [go_sem, Nat.reduceBEq, Nat.reduceLT, Nat.reduceLeDiff, Nat.reduceEqDiff, Nat.reduceAdd, Nat.reduceMul, Nat.reduceSub, reduceIte, reduceCtorEq, Int.reduceLT, Int.reduceLE, Int.reduceToNat, Int.reduceAdd, Int.reduceSub, Int.reduceNeg, Int.reduceEq, Int.reduceNe, Int.reduceBEq, Int.reduceBNe, BitVec.reduceBEq, BitVec.reduceBNe, BitVec.reduceOfInt, BitVec.reduceSetWidth, -List.reduceReplicate, f1]
    have e8 : (bvs .u32 L ++ s1.map AV.val).length = 8 + s1.length := by rw [List.length_append, bvs_length, hL, List.length_map]
    generalize hCL : bvs .u32 L ++ s1.map AV.val = CL at *
    refine LoopOk.upX (fun i x => ApL (.cells CL 108) (outR L i) x) 8 (fun i x => ((19, x.1) :: [(20, .int .i64 i), (3, .sl 0 0 8 c1)], x.2.1, x.2.2)) (.nils, [(0, .cells CL 108)], 1) (.inl ⟨rfl, rfl⟩) ?_ ?_
    · refine Le.one (n' := 0) ⟨rfl, rfl, rfl, trivial⟩ ?_
      rw [← hCL]
      simp only [renO, renL_vals']
      rfl
    intro i x ⟨hi, hq⟩
    have hol := outR_len L i
    rcases Nat.lt_or_ge i 8 with g | g
    · have f2 : decide ((i : Int) < 8) = true := by simp; omega
      have wi : IntKind.i64.wrap ((i : Int) + 1) = ((i + 1 : Nat) : Int) := by rw [wrap_i64] <;> omega
      have hg := bvsS_getD .u32 L (s1.map AV.val) i (by omega)
      rw [hCL] at hg
      have hnx : outR L (i + 1) = outR L i ++ b4 (L.getD i 0) := rfl
      rcases hq with ⟨hn, rfl⟩ | ⟨cap, sp, rfl, g1, g2⟩
      · rw [hn, List.nil_append] at hnx
        simp (maxSteps := 1000000) -implicitDefEqProofs only [go_sem, Nat.reduceBEq, Nat.reduceLT, Nat.reduceLeDiff, Nat.reduceEqDiff, Nat.reduceAdd, Nat.reduceMul, Nat.reduceSub, reduceIte, reduceCtorEq, Int.reduceLT, Int.reduceLE, Int.reduceToNat, Int.reduceAdd, Int.reduceSub, Int.reduceNeg, Int.reduceEq, Int.reduceNe, Int.reduceBEq, Int.reduceBNe, BitVec.reduceBEq, BitVec.reduceBNe, BitVec.reduceOfInt, BitVec.reduceSetWidth, -List.reduceReplicate, f2]
        refine ⟨Fx.mixed, .inl ⟨[(0, false), (1, false), (2, false), (3, false), (4, false), (5, false), (6, false), (7, false), (8, false), (9, false), (10, false), (11, false), (12, false), (13, false), (14, false), (15, false), (16, false), (17, false), (18, false), (19, false), (20, false), (21, false), (22, false), (23, false), (24, true), (25, true), (26, false)], [], by kernel_rfl, (fun n hn => by cases hn), ?_⟩⟩
        simp (maxSteps := 1000000) -implicitDefEqProofs only [go_sem, Nat.reduceBEq, Nat.reduceLT, Nat.reduceLeDiff, Nat.reduceEqDiff, Nat.reduceAdd, Nat.reduceMul, Nat.reduceSub, reduceIte, reduceCtorEq, Int.reduceLT, Int.reduceLE, Int.reduceToNat, Int.reduceAdd, Int.reduceSub, Int.reduceNeg, Int.reduceEq, Int.reduceNe, Int.reduceBEq, Int.reduceBNe, BitVec.reduceBEq, BitVec.reduceBNe, BitVec.reduceOfInt, BitVec.reduceSetWidth, -List.reduceReplicate, hg, e8]
        refine ⟨by omega, by omega, by omega, by omega, by omega, by omega, by omega, by omega, .inr trivial, rfl, ?_⟩
        refine appk_nils (y := b4 (L.getD i 0)) (bt := 1) (by decide) (by show 4 * 1 ≤ _; decide) (fun e => by cases e) fun _ cap sp g1 g2 => ?_
        simp (maxSteps := 1000000) -implicitDefEqProofs only [go_sem, Nat.reduceBEq, Nat.reduceLT, Nat.reduceLeDiff, Nat.reduceEqDiff, Nat.reduceAdd, Nat.reduceMul, Nat.reduceSub, reduceIte, reduceCtorEq, Int.reduceLT, Int.reduceLE, Int.reduceToNat, Int.reduceAdd, Int.reduceSub, Int.reduceNeg, Int.reduceEq, Int.reduceNe, Int.reduceBEq, Int.reduceBNe, BitVec.reduceBEq, BitVec.reduceBNe, BitVec.reduceOfInt, BitVec.reduceSetWidth, -List.reduceReplicate, wi]
        refine UpX_normal g (_, _, _) (.inr ⟨cap, sp, rfl, by rw [hnx]; exact g1, g2⟩) ?_
        exact Le.two (n1 := 0) (n2 := 2) (by decide) ⟨by rw [hnx]; rfl, rfl, rfl, trivial⟩ (by rw [← hCL]; simp only [renO, renL_vals']; rfl) (by rw [hnx]; simp only [renO, renL_vals']; rfl)
      · simp (maxSteps := 1000000) -implicitDefEqProofs only [go_sem, Nat.reduceBEq, Nat.reduceLT, Nat.reduceLeDiff, Nat.reduceEqDiff, Nat.reduceAdd, Nat.reduceMul, Nat.reduceSub, reduceIte, reduceCtorEq, Int.reduceLT, Int.reduceLE, Int.reduceToNat, Int.reduceAdd, Int.reduceSub, Int.reduceNeg, Int.reduceEq, Int.reduceNe, Int.reduceBEq, Int.reduceBNe, BitVec.reduceBEq, BitVec.reduceBNe, BitVec.reduceOfInt, BitVec.reduceSetWidth, -List.reduceReplicate, f2]
        refine ⟨Fx.mixed, .inl ⟨[(0, false), (1, false), (2, false), (3, false), (4, false), (5, false), (6, false), (7, false), (8, false), (9, false), (10, false), (11, false), (12, false), (13, false), (14, false), (15, false), (16, false), (17, false), (18, false), (19, false), (20, false), (21, false), (22, false), (23, false), (24, true), (25, true), (26, false)], [1], by kernel_rfl, (fun n hn => by cases List.mem_singleton.1 hn; exact ⟨rfl, rfl⟩), ?_⟩⟩
        simp (maxSteps := 1000000) -implicitDefEqProofs only [go_sem, Nat.reduceBEq, Nat.reduceLT, Nat.reduceLeDiff, Nat.reduceEqDiff, Nat.reduceAdd, Nat.reduceMul, Nat.reduceSub, reduceIte, reduceCtorEq, Int.reduceLT, Int.reduceLE, Int.reduceToNat, Int.reduceAdd, Int.reduceSub, Int.reduceNeg, Int.reduceEq, Int.reduceNe, Int.reduceBEq, Int.reduceBNe, BitVec.reduceBEq, BitVec.reduceBNe, BitVec.reduceOfInt, BitVec.reduceSetWidth, -List.reduceReplicate, hg, e8]
        refine ⟨by omega, by omega, by omega, by omega, by omega, by omega, by omega, by omega, .inr trivial, rfl, ?_⟩
        refine appk_bvs (x := outR L i) (y := b4 (L.getD i 0)) (n := 1) (sp := sp) rfl rfl g1 g2 (bt := 1) (by decide) (by rw [hol]; show (4 * i + 4) * 1 ≤ _; omega) fun cap2 sp2 g3 g4 => ?_
        rw [← hnx]
        rw [← hnx] at g3
        simp (maxSteps := 1000000) -implicitDefEqProofs only [go_sem, Nat.reduceBEq, Nat.reduceLT, Nat.reduceLeDiff, Nat.reduceEqDiff, Nat.reduceAdd, Nat.reduceMul, Nat.reduceSub, reduceIte, reduceCtorEq, Int.reduceLT, Int.reduceLE, Int.reduceToNat, Int.reduceAdd, Int.reduceSub, Int.reduceNeg, Int.reduceEq, Int.reduceNe, Int.reduceBEq, Int.reduceBNe, BitVec.reduceBEq, BitVec.reduceBNe, BitVec.reduceOfInt, BitVec.reduceSetWidth, -List.reduceReplicate, wi]
        refine UpX_normal g (_, _, _) (.inr ⟨cap2, sp2, rfl, g3, g4⟩) ?_
        exact Le.two (n1 := 0) (n2 := 3) (by decide) ⟨rfl, rfl, rfl, trivial⟩ (by rw [← hCL]; simp only [renO, renL_vals']; rfl) (by simp only [renO, renL_vals']; rfl)
    · have hii : i = 8 := by omega
      subst hii
      have f2 : decide ((8 : Int) < 8) = false := rfl
      rcases hq with ⟨hn, rfl⟩ | ⟨cap, sp, rfl, g1, g2⟩
      · rw [hn] at hol; cases hol
      simp (maxSteps := 1000000) -implicitDefEqProofs only [go_sem, Nat.reduceBEq, Nat.reduceLT, Nat.reduceLeDiff, Nat.reduceEqDiff, Nat.reduceAdd, Nat.reduceMul, Nat.reduceSub, reduceIte, reduceCtorEq, Int.reduceLT, Int.reduceLE, Int.reduceToNat, Int.reduceAdd, Int.reduceSub, Int.reduceNeg, Int.reduceEq, Int.reduceNe, Int.reduceBEq, Int.reduceBNe, BitVec.reduceBEq, BitVec.reduceBNe, BitVec.reduceOfInt, BitVec.reduceSetWidth, -List.reduceReplicate, f2]
      exact Fin.by (.row (n := 1) (sp := sp.map AV.val) rfl rfl (by rw [List.length_map]; exact g1) g2 (val_pln _)) (fun e => by cases e) idG (fun _ _ => rfl)
end Go.Proofs.Ytmdeoikpiiambaa
/-! Shl -/
namespace Go.Proofs.Ytmdeoikpiiambaa
open Go Go.Eng
theorem div_shr (x : BitVec 32) (n : Nat) (c : BitVec 32) (h : c.toNat = 2 ^ n) : x / c = x >>> n := by
  apply BitVec.eq_of_toNat_eq
  rw [BitVec.toNat_udiv, BitVec.toNat_ushiftRight, Nat.shiftRight_eq_div_pow, h]
theorem s0_eq (x : BitVec 32) : s0W x = s0R x := by
  rw [s0W, s0R, rotN_eq x 7 (by decide), rotN_eq x 18 (by decide), div_shr x 3 8#32 rfl]
theorem s1_eq (x : BitVec 32) : s1W x = s1R x := by
  rw [s1W, s1R, rotN_eq x 17 (by decide), rotN_eq x 19 (by decide), div_shr x 10 1024#32 rfl]
theorem not_sub (x : BitVec 32) : ~~~ x = 4294967295#32 - x := by
  apply BitVec.eq_of_toNat_eq
  have hx := x.isLt
  have e : (4294967295#32).toNat = 4294967295 := rfl
  rw [BitVec.toNat_not, BitVec.toNat_sub, e]
  omega
theorem t_eq (V : List (BitVec 32)) (q w : BitVec 32) : tW V q w = rT V q w := by
  rw [tW, rT, not_sub, rotN_eq _ 6 (by decide), rotN_eq _ 11 (by decide), rotN_eq _ 25 (by decide)]
theorem u_eq (V : List (BitVec 32)) : uW V = rU V := by
  rw [uW, rU, rotN_eq _ 2 (by decide), rotN_eq _ 13 (by decide), rotN_eq _ 22 (by decide)]
theorem round_eq (V : List (BitVec 32)) (q w : BitVec 32) : roundW V q w = rRound V q w := by
  rw [roundW, rRound, t_eq, u_eq]
theorem rds_eq (w V : List (BitVec 32)) (n : Nat) : rds w V n = rrds w V n := by
  induction n with
  | zero => rfl
  | succ n ih => rw [rds, rrds, ih, round_eq]
theorem add_eq (L V : List (BitVec 32)) (h : L.length = 8) : addN L V 8 = rAdd L V := by
  match L, h with
  | [a, b, c, d, e, f, g, h], _ => rfl
theorem word4 (a b c d : BitVec 8) : (a.setWidth 32 <<< 24) ||| (b.setWidth 32 <<< 16) ||| (c.setWidth 32 <<< 8) ||| d.setWidth 32 = 256#32 * (256#32 * (256#32 * (256#32 * 0#32 + a.setWidth 32) + b.setWidth 32) + c.setWidth 32) + d.setWidth 32 := by
  have ha := a.isLt
  have hb := b.isLt
  have hc := c.isLt
  have hd := d.isLt
  apply BitVec.eq_of_toNat_eq
  have e : (256#32).toNat = 256 := rfl
  have e0 : (0#32).toNat = 0 := rfl
  simp only [BitVec.toNat_or, BitVec.toNat_shiftLeft, BitVec.toNat_add, BitVec.toNat_mul, BitVec.toNat_setWidth, e, e0, Nat.shiftLeft_eq]
  generalize a.toNat = a at *
  generalize b.toNat = b at *
  generalize c.toNat = c at *
  generalize d.toNat = d at *
  have r1 : a % 2 ^ 32 * 2 ^ 24 % 2 ^ 32 = a * 2 ^ 24 := by
    rw [Nat.mod_eq_of_lt (a := a) (Nat.lt_trans ha (by decide)), Nat.mod_eq_of_lt]
    exact Nat.lt_of_lt_of_le (Nat.mul_lt_mul_of_pos_right ha (by decide)) (by decide)
  have r2 : b % 2 ^ 32 * 2 ^ 16 % 2 ^ 32 = b * 2 ^ 16 := by
    rw [Nat.mod_eq_of_lt (a := b) (Nat.lt_trans hb (by decide)), Nat.mod_eq_of_lt]
    exact Nat.lt_of_lt_of_le (Nat.mul_lt_mul_of_pos_right hb (by decide)) (by decide)
  have r3 : c % 2 ^ 32 * 2 ^ 8 % 2 ^ 32 = c * 2 ^ 8 := by
    rw [Nat.mod_eq_of_lt (a := c) (Nat.lt_trans hc (by decide)), Nat.mod_eq_of_lt]
    exact Nat.lt_of_lt_of_le (Nat.mul_lt_mul_of_pos_right hc (by decide)) (by decide)
  have r4 : d % 2 ^ 32 = d := by omega
  have o1 : a * 2 ^ 24 ||| b * 2 ^ 16 = (a * 256 + b) * 2 ^ 16 := by
    rw [or_field a (b * 2 ^ 16) 24 (by omega)]; omega
  have o2 : (a * 256 + b) * 2 ^ 16 ||| c * 2 ^ 8 = ((a * 256 + b) * 256 + c) * 2 ^ 8 := by
    rw [or_field _ (c * 2 ^ 8) 16 (by omega)]; omega
  rw [r1, r2, r3, r4, o1, o2, or_field _ d 8 (by omega)]
  omega
theorem getD_drop' (b : List (BitVec 8)) (m k : Nat) : (b.drop m).getD k 0 = b.getD (m + k) 0 := by
  simp only [List.getD_eq_getElem?_getD, List.getElem?_drop]
theorem getD_take' (b : List (BitVec 8)) (m k : Nat) (h : k < m) : (b.take m).getD k 0 = b.getD k 0 := by
  simp only [List.getD_eq_getElem?_getD, List.getElem?_take, if_pos h]
theorem word_eq (b : List (BitVec 8)) (n : Nat) (h : n < 16) : wordB (b.drop (4 * n)) = rwB (b.take 64) n 4 := by
  rw [wordB, getD_drop', getD_drop', getD_drop', getD_drop', word4]
  rw [rwB, rwB, rwB, rwB, rwB, getD_take' _ _ _ (by omega), getD_take' _ _ _ (by omega), getD_take' _ _ _ (by omega), getD_take' _ _ _ (by omega)]
theorem wl_eq (b : List (BitVec 8)) (n : Nat) : wl b n = rl (b.take 64) n := by
  induction n with
  | zero => rfl
  | succ n ih =>
    rw [wl, rl, ih, wNext, rNext]
    split
    · rename_i h; rw [word_eq b n h]
    · rw [s0_eq, s1_eq]
theorem block_eq (L : List (BitVec 32)) (hL : L.length = 8) (b : List (BitVec 8)) : blockW L b = rBlock L (b.take 64) := by
  rw [blockW, rBlock, add_eq L _ hL, rds_eq, wl_eq]
def rblG (W : List (BitVec 32)) (b : List (BitVec 8)) : Nat → List (BitVec 32)
  | 0 => W
  | n + 1 => rBlock (rblG W b n) ((b.drop (64 * n)).take 64)
theorem rblG_rBl (b : List (BitVec 8)) (n : Nat) : rBl b n = rblG beginL b n := by
  induction n with
  | zero => rfl
  | succ n ih => rw [rBl, rblG, ih]
theorem bl_eq (W : List (BitVec 32)) (hW : W.length = 8) (b : List (BitVec 8)) (n : Nat) : bl W b n = rblG W b n := by
  induction n with
  | zero => rfl
  | succ n ih => rw [bl, rblG, block_eq _ (by rw [bl_len, hW]), ih]
theorem rblG_app1 (W : List (BitVec 32)) (X Y P : List (BitVec 8)) : ∀ n, 64 * n ≤ X.length → rblG W (X ++ Y) n = rblG W (X ++ P) n
  | 0, _ => rfl
  | n + 1, h => by
    rw [rblG, rblG, rblG_app1 W X Y P n (by omega), List.drop_append_of_le_length (by omega), List.drop_append_of_le_length (by omega), List.take_append_of_le_length (by rw [List.length_drop]; omega), List.take_append_of_le_length (by rw [List.length_drop]; omega)]
theorem rblG_app2 (W : List (BitVec 32)) (X P : List (BitVec 8)) (k : Nat) (h : X.length = 64 * k) : ∀ j, rblG (rblG W (X ++ P) k) P j = rblG W (X ++ P) (k + j)
  | 0 => rfl
  | j + 1 => by
    rw [rblG, rblG_app2 W X P k h j, ← Nat.add_assoc, rblG]
    have : (X ++ P).drop (64 * (k + j)) = P.drop (64 * j) := by
      rw [List.drop_append, List.drop_eq_nil_of_le (by omega), List.nil_append]
      congr 1; omega
    rw [this]
theorem pw_toNat : ∀ n : Fin 8, (pw n.val).toNat = 2 ^ (8 * (7 - n.val)) := by decide
theorem by_eq (m : BitVec 64) : ∀ n, n ≤ 8 → ry8 m n = by8 m n
  | 0, _ => rfl
  | n + 1, h => by
    rw [ry8, by8, by_eq m n (by omega)]
    congr 2
    apply BitVec.eq_of_toNat_eq
    have hp := pw_toNat ⟨n, by omega⟩
    simp only at hp
    have e : (256#64).toNat = 256 := rfl
    rw [BitVec.toNat_setWidth, BitVec.toNat_setWidth, BitVec.toNat_umod, BitVec.toNat_udiv, BitVec.toNat_ushiftRight, Nat.shiftRight_eq_div_pow, hp, e]
    omega
theorem pad_eq (b : List (BitVec 8)) : padR b = b.take (64 * (b.length / 64)) ++ padL (b.drop (64 * (b.length / 64))) ((0 + BitVec.ofNat 64 b.length) * 8#64) := by
  have hz : zN (b.drop (64 * (b.length / 64))).length = zN b.length := by
    rw [zN, zN, List.length_drop]; omega
  have hm : (0 + BitVec.ofNat 64 b.length) * 8#64 = 8#64 * BitVec.ofNat 64 b.length := by
    show (0#64 + BitVec.ofNat 64 b.length) * 8#64 = _
    rw [BitVec.zero_add, BitVec.mul_comm]
  rw [padR, rpE, padL, padE, hz, hm, by_eq _ 8 (Nat.le_refl _), padZ, padZ]
  simp only [← List.append_assoc, List.take_append_drop]
theorem outN_all (W : List (BitVec 32)) : outN W 32 = [outB W 0, outB W 1, outB W 2, outB W 3, outB W 4, outB W 5, outB W 6, outB W 7, outB W 8, outB W 9, outB W 10, outB W 11, outB W 12, outB W 13, outB W 14, outB W 15, outB W 16, outB W 17, outB W 18, outB W 19, outB W 20, outB W 21, outB W 22, outB W 23, outB W 24, outB W 25, outB W 26, outB W 27, outB W 28, outB W 29, outB W 30, outB W 31] := by
  simp only [outN, List.replicate_succ, List.replicate_zero, List.set_cons_zero, List.set_cons_succ]
theorem b4_eq (x : BitVec 32) : b4 x = [(x >>> 24).setWidth 8, (x >>> 16).setWidth 8, (x >>> 8).setWidth 8, (x >>> 0).setWidth 8] := by
  rw [b4, div_shr x 24 16777216#32 rfl, div_shr x 16 65536#32 rfl, div_shr x 8 256#32 rfl, BitVec.ushiftRight_zero]
theorem out_eq (W : List (BitVec 32)) : outN W 32 = outR W 8 := by
  simp only [outN_all, outR, b4_eq, outB, Nat.reduceDiv, Nat.reduceMod, Nat.reduceMul, Nat.reduceSub, List.nil_append, List.cons_append]
theorem sha_eq (b : List (BitVec 8)) : shaP b = shaR b := by
  rw [shaP, shaR, out_eq, sumW]
  congr 1
  have hk : (b.take (64 * (b.length / 64))).length = 64 * (b.length / 64) := by rw [List.length_take]; omega
  have hpl := padL_mod (b.drop (64 * (b.length / 64))) ((0 + BitVec.ofNat 64 b.length) * 8#64)
  rw [bl_eq beginL rfl, pad_eq b]
  generalize padL (b.drop (64 * (b.length / 64))) ((0 + BitVec.ofNat 64 b.length) * 8#64) = P at *
  have h1 : rblG beginL b (b.length / 64) = rblG beginL (b.take (64 * (b.length / 64)) ++ P) (b.length / 64) := by
    have := rblG_app1 beginL (b.take (64 * (b.length / 64))) (b.drop (64 * (b.length / 64))) P (b.length / 64) (by omega)
    rwa [List.take_append_drop] at this
  rw [h1, rblG_rBl]
  have h2 : (b.take (64 * (b.length / 64)) ++ P).length / 64 = b.length / 64 + P.length / 64 := by rw [List.length_append, hk]; omega
  rw [h2, ← rblG_app2 beginL _ P _ hk]
  refine bl_eq _ ?_ _ _
  cases hc : b.length / 64 with
  | zero => rfl
  | succ n => rfl
end Go.Proofs.Ytmdeoikpiiambaa
end
section
/- A stream's ends: a number's bytes; what checks are. -/
set_option linter.unusedVariables false
set_option linter.unusedSimpArgs false
set_option maxRecDepth 100000
namespace Go.Proofs.Ytmdeoikpiiambaa
open Go Go.Eng

/-- a number's bytes, the lowest first -/
def lowS (n : BitVec 64) : Nat → List (BitVec 8)
  | 0 => []
  | k + 1 => lowS n k ++ [(n >>> (8 * k)).setWidth 8]
theorem lowS_len (n : BitVec 64) : ∀ k, (lowS n k).length = k
  | 0 => rfl
  | k + 1 => by rw [lowS, List.length_append, lowS_len n k]; rfl
theorem lowOk (n : BitVec 64) (k : Nat) (hk : k ≤ 8) : CallG false Try.prog 74 [.int .u64 (n.toNat : Int), .int .i64 k] (fun _ => true) [] 0 (ByK 5 idG (lowS n k) [] 0) := by
  refine fn_okG Try.func74 rfl (by show 2 ≤ _; decide) ?_
  simp (maxSteps := 1000000) -implicitDefEqProofs only [go_sem, Nat.reduceBEq, Nat.reduceLT, Nat.reduceLeDiff, Nat.reduceEqDiff, Nat.reduceAdd, Nat.reduceMul, Nat.reduceSub, reduceIte, reduceCtorEq, Int.reduceLT, Int.reduceLE, Int.reduceToNat, Int.reduceAdd, Int.reduceSub, Int.reduceNeg, Int.reduceEq, Int.reduceNe, Int.reduceBEq, Int.reduceBNe, BitVec.reduceBEq, BitVec.reduceBNe, BitVec.reduceOfInt, BitVec.reduceSetWidth, -List.reduceReplicate, Try.results74, Try.ntmps74]
  refine LoopOk.upX (fun i (x : AV × List Nat × Mem × Nat) => ByAt 5 x.2.2.1 x.1 (lowS n i) x.2.1 ∧ x.1 ≠ .ro (lowS n i).length (bvs .u8 (lowS n i)) ∧ Gr [] 0 x.2.2.1 x.2.2.2) k (fun i x => ([(7, .int .i64 (i : Nat)), (6, .int .i64 (k : Nat)), (5, x.1), (0, .int .u64 ((n >>> (8 * i)).toNat : Int))], x.2.2.1, x.2.2.2)) (.nils, [], [], 0) ⟨.nil _, (fun e => by cases e), .refl List.nodup_nil (fun p hp => by cases hp)⟩ ?_ ?_
  · exact Le.sameT (Nat.zero_le _) ⟨rfl, rfl, rfl, rfl, trivial⟩ (memSame_slf List.nodup_nil) List.nodup_nil
  rintro i ⟨s, ns, m, nx⟩ ⟨hi, b1, b2, g⟩
  have b1 : ByAt 5 m s (lowS n i) ns := b1
  have b2 : s ≠ .ro (lowS n i).length (bvs .u8 (lowS n i)) := b2
  have g : Gr [] 0 m nx := g
  rcases Nat.lt_or_ge i k with h | h
  · have g1 : decide ((i : Int) < (k : Int)) = true := decide_eq_true (by omega)
    have w1 : IntKind.i64.wrap ((i : Int) + 1) = ((i + 1 : Nat) : Int) := by rw [wrap_i64] <;> omega
    simp (maxSteps := 1000000) -implicitDefEqProofs only [go_sem, Nat.reduceBEq, Nat.reduceLT, Nat.reduceLeDiff, Nat.reduceEqDiff, Nat.reduceAdd, Nat.reduceMul, Nat.reduceSub, reduceIte, reduceCtorEq, Int.reduceLT, Int.reduceLE, Int.reduceToNat, Int.reduceAdd, Int.reduceSub, Int.reduceNeg, Int.reduceEq, Int.reduceNe, Int.reduceBEq, Int.reduceBNe, BitVec.reduceBEq, BitVec.reduceBNe, BitVec.reduceOfInt, BitVec.reduceSetWidth, -List.reduceReplicate, g1, w1]
    have gc := Gr.cons g.nd g.lt (.cells (bvs .u8 ((List.replicate 1 0).set 0 (BitVec.setWidth 8 (n >>> (8 * i))))) 5)
    refine ⟨.inr trivial, rfl, ?_⟩
    refine appk_by (Y := [(n >>> (8 * i)).setWidth 8]) (b1.grow gc) b2 gc.nd (fun _ _ => rfl) gc.lt (fun _ _ => rfl) (by rw [lowS_len]; show i + 1 ≤ _; omega) ?_
    intro v' m' nx' ns' c1 c2 c3 c4 c5 c6 c7 c8
    have hs : n >>> (8 * i) >>> 8 = n >>> (8 * (i + 1)) := by rw [← BitVec.shiftRight_add]; rfl
    simp (maxSteps := 1000000) -implicitDefEqProofs only [go_sem, Nat.reduceBEq, Nat.reduceLT, Nat.reduceLeDiff, Nat.reduceEqDiff, Nat.reduceAdd, Nat.reduceMul, Nat.reduceSub, reduceIte, reduceCtorEq, Int.reduceLT, Int.reduceLE, Int.reduceToNat, Int.reduceAdd, Int.reduceSub, Int.reduceNeg, Int.reduceEq, Int.reduceNe, Int.reduceBEq, Int.reduceBNe, BitVec.reduceBEq, BitVec.reduceBNe, BitVec.reduceOfInt, BitVec.reduceSetWidth, -List.reduceReplicate, w1, hs]
    exact UpX_normal h (v', ns', m', nx') ⟨c1, c2, ⟨Nat.zero_le _, c5, c6, fun k X e => by cases e⟩⟩ (Le.sameT (Nat.zero_le _) ⟨rfl, rfl, rfl, rfl, trivial⟩ (memSame_slf c5) c5)
  · have hik : i = k := by omega
    subst hik
    have g1 : decide ((i : Int) < (i : Int)) = false := decide_eq_false (by omega)
    simp (maxSteps := 1000000) -implicitDefEqProofs only [go_sem, Nat.reduceBEq, Nat.reduceLT, Nat.reduceLeDiff, Nat.reduceEqDiff, Nat.reduceAdd, Nat.reduceMul, Nat.reduceSub, reduceIte, reduceCtorEq, Int.reduceLT, Int.reduceLE, Int.reduceToNat, Int.reduceAdd, Int.reduceSub, Int.reduceNeg, Int.reduceEq, Int.reduceNe, Int.reduceBEq, Int.reduceBNe, BitVec.reduceBEq, BitVec.reduceBNe, BitVec.reduceOfInt, BitVec.reduceSetWidth, -List.reduceReplicate, g1]
    exact Fin.by b1 b2 idG (fun _ _ => rfl)
/-- is it a check? -/
def isC (c : Int) : Bool := c == 0 || c == 1 || c == 4 || c == 10
/-- a check's bytes -/
def chk (c : Int) (b : List (BitVec 8)) : List (BitVec 8) := if c = 1 then lowS ((on32 0 b).setWidth 64) 4 else if c = 4 then lowS (on64 0 b) 8 else if c = 10 then shaP b else []
/-- what its row's type is -/
def chT (c : Int) : TypeId := if c = 10 then 199 else 5
def fnC (g : FuncId) : AV := .fn (.func g) [] []
def sumL : List AV := [fnC 128, fnC 129, fnC 131, fnC 133]
theorem mxTf : mxT Try.prog 118 = none := by kernel_rfl
theorem sumsOk : CallG false Try.prog 76 [] (fun _ => true) [] 0 fun v m nx => v = .map 0 ∧ m = [(0, .mp .i64 [0, 1, 4, 10] sumL)] ∧ nx = 1 := by
  refine fn_okG Try.func76 rfl (Nat.zero_le _) ?_
  simp (maxSteps := 1000000) -implicitDefEqProofs only [go_sem, Nat.reduceBEq, Nat.reduceLT, Nat.reduceLeDiff, Nat.reduceEqDiff, Nat.reduceAdd, Nat.reduceMul, Nat.reduceSub, reduceIte, reduceCtorEq, Int.reduceLT, Int.reduceLE, Int.reduceToNat, Int.reduceAdd, Int.reduceSub, Int.reduceNeg, Int.reduceEq, Int.reduceNe, Int.reduceBEq, Int.reduceBNe, BitVec.reduceBEq, BitVec.reduceBNe, BitVec.reduceOfInt, BitVec.reduceSetWidth, -List.reduceReplicate, Try.results76, Try.ntmps76, mxTf]
  exact Fin.keep (Nat.zero_le _) (memSame_slf (by simp)) (by simp) ⟨rfl, rfl, rfl⟩
theorem nilOk (b : List (BitVec 8)) : CallG false Try.prog 128 [.ro b.length (bvs .u8 b)] (fun _ => true) [] 0 (ByK 5 idG [] [] 0) := by
  refine fn_okG Try.func128 rfl (by show 1 ≤ _; decide) ?_
  simp (maxSteps := 1000000) -implicitDefEqProofs only [go_sem, Nat.reduceBEq, Nat.reduceLT, Nat.reduceLeDiff, Nat.reduceEqDiff, Nat.reduceAdd, Nat.reduceMul, Nat.reduceSub, reduceIte, reduceCtorEq, Int.reduceLT, Int.reduceLE, Int.reduceToNat, Int.reduceAdd, Int.reduceSub, Int.reduceNeg, Int.reduceEq, Int.reduceNe, Int.reduceBEq, Int.reduceBNe, BitVec.reduceBEq, BitVec.reduceBNe, BitVec.reduceOfInt, BitVec.reduceSetWidth, -List.reduceReplicate, Try.results128, Try.ntmps128]
  exact Fin.by (.nil _) (fun e => by cases e) idG (fun _ _ => rfl)
theorem crcOk (b : List (BitVec 8)) (hb : b.length ≤ 100000) : CallG false Try.prog 129 [.ro b.length (bvs .u8 b)] (fun _ => true) [] 0 (ByK 5 idG (lowS ((on32 0 b).setWidth 64) 4) [] 0) := by
  refine fn_okG Try.func129 rfl (by show 1 ≤ _; decide) ?_
  simp (maxSteps := 1000000) -implicitDefEqProofs only [go_sem, Nat.reduceBEq, Nat.reduceLT, Nat.reduceLeDiff, Nat.reduceEqDiff, Nat.reduceAdd, Nat.reduceMul, Nat.reduceSub, reduceIte, reduceCtorEq, Int.reduceLT, Int.reduceLE, Int.reduceToNat, Int.reduceAdd, Int.reduceSub, Int.reduceNeg, Int.reduceEq, Int.reduceNe, Int.reduceBEq, Int.reduceBNe, BitVec.reduceBEq, BitVec.reduceBNe, BitVec.reduceOfInt, BitVec.reduceSetWidth, -List.reduceReplicate, Try.results129, Try.ntmps129]
  refine (sumOk32 b (by omega)).flatv (by simp only [argsx, argx_int, argx_bool, argx_fn, argx_ro, argx_nils, eq_self, true_and, and_true, and_self]; try trivial) (fun _ => rfl) rfl ?_
  simp (maxSteps := 1000000) -implicitDefEqProofs only [go_sem, Nat.reduceBEq, Nat.reduceLT, Nat.reduceLeDiff, Nat.reduceEqDiff, Nat.reduceAdd, Nat.reduceMul, Nat.reduceSub, reduceIte, reduceCtorEq, Int.reduceLT, Int.reduceLE, Int.reduceToNat, Int.reduceAdd, Int.reduceSub, Int.reduceNeg, Int.reduceEq, Int.reduceNe, Int.reduceBEq, Int.reduceBNe, BitVec.reduceBEq, BitVec.reduceBNe, BitVec.reduceOfInt, BitVec.reduceSetWidth, -List.reduceReplicate]
  refine (CallG.by1 (lowOk ((on32 0 b).setWidth 64) 4 (by decide)) rfl nd0 lt0 (by simp only [argsx, argx_int, argx_bool, argx_fn, argx_ro, argx_nils, eq_self, true_and, and_true, and_self]; try trivial)).weak ?_
  rintro v m nx ⟨ns, b1, b2, b3, g⟩
  simp (maxSteps := 1000000) -implicitDefEqProofs only [go_sem, Nat.reduceBEq, Nat.reduceLT, Nat.reduceLeDiff, Nat.reduceEqDiff, Nat.reduceAdd, Nat.reduceMul, Nat.reduceSub, reduceIte, reduceCtorEq, Int.reduceLT, Int.reduceLE, Int.reduceToNat, Int.reduceAdd, Int.reduceSub, Int.reduceNeg, Int.reduceEq, Int.reduceNe, Int.reduceBEq, Int.reduceBNe, BitVec.reduceBEq, BitVec.reduceBNe, BitVec.reduceOfInt, BitVec.reduceSetWidth, -List.reduceReplicate]
  exact Fin.by b1 b2 idG (fun _ _ => rfl)
theorem crc64Ok (b : List (BitVec 8)) (hb : b.length ≤ 100000) : CallG false Try.prog 131 [.ro b.length (bvs .u8 b)] (fun _ => true) [] 0 (ByK 5 idG (lowS (on64 0 b) 8) [] 0) := by
  refine fn_okG Try.func131 rfl (by show 1 ≤ _; decide) ?_
  simp (maxSteps := 1000000) -implicitDefEqProofs only [go_sem, Nat.reduceBEq, Nat.reduceLT, Nat.reduceLeDiff, Nat.reduceEqDiff, Nat.reduceAdd, Nat.reduceMul, Nat.reduceSub, reduceIte, reduceCtorEq, Int.reduceLT, Int.reduceLE, Int.reduceToNat, Int.reduceAdd, Int.reduceSub, Int.reduceNeg, Int.reduceEq, Int.reduceNe, Int.reduceBEq, Int.reduceBNe, BitVec.reduceBEq, BitVec.reduceBNe, BitVec.reduceOfInt, BitVec.reduceSetWidth, -List.reduceReplicate, Try.results131, Try.ntmps131]
  refine (sumOk64 b (by omega)).flatv (by simp only [argsx, argx_int, argx_bool, argx_fn, argx_ro, argx_nils, eq_self, true_and, and_true, and_self]; try trivial) (fun _ => rfl) rfl ?_
  simp (maxSteps := 1000000) -implicitDefEqProofs only [go_sem, Nat.reduceBEq, Nat.reduceLT, Nat.reduceLeDiff, Nat.reduceEqDiff, Nat.reduceAdd, Nat.reduceMul, Nat.reduceSub, reduceIte, reduceCtorEq, Int.reduceLT, Int.reduceLE, Int.reduceToNat, Int.reduceAdd, Int.reduceSub, Int.reduceNeg, Int.reduceEq, Int.reduceNe, Int.reduceBEq, Int.reduceBNe, BitVec.reduceBEq, BitVec.reduceBNe, BitVec.reduceOfInt, BitVec.reduceSetWidth, -List.reduceReplicate]
  refine (CallG.by1 (lowOk (on64 0 b) 8 (by decide)) rfl nd0 lt0 (by simp only [argsx, argx_int, argx_bool, argx_fn, argx_ro, argx_nils, eq_self, true_and, and_true, and_self]; try trivial)).weak ?_
  rintro v m nx ⟨ns, b1, b2, b3, g⟩
  simp (maxSteps := 1000000) -implicitDefEqProofs only [go_sem, Nat.reduceBEq, Nat.reduceLT, Nat.reduceLeDiff, Nat.reduceEqDiff, Nat.reduceAdd, Nat.reduceMul, Nat.reduceSub, reduceIte, reduceCtorEq, Int.reduceLT, Int.reduceLE, Int.reduceToNat, Int.reduceAdd, Int.reduceSub, Int.reduceNeg, Int.reduceEq, Int.reduceNe, Int.reduceBEq, Int.reduceBNe, BitVec.reduceBEq, BitVec.reduceBNe, BitVec.reduceOfInt, BitVec.reduceSetWidth, -List.reduceReplicate]
  exact Fin.by b1 b2 idG (fun _ _ => rfl)
theorem shaOk (b : List (BitVec 8)) (hb : b.length ≤ 100000) : CallG false Try.prog 133 [.ro b.length (bvs .u8 b)] (fun _ => true) [] 0 (ByK 199 idG (shaP b) [] 0) := by
  refine fn_okG Try.func133 rfl (by show 1 ≤ _; decide) ?_
  simp (maxSteps := 1000000) -implicitDefEqProofs only [go_sem, Nat.reduceBEq, Nat.reduceLT, Nat.reduceLeDiff, Nat.reduceEqDiff, Nat.reduceAdd, Nat.reduceMul, Nat.reduceSub, reduceIte, reduceCtorEq, Int.reduceLT, Int.reduceLE, Int.reduceToNat, Int.reduceAdd, Int.reduceSub, Int.reduceNeg, Int.reduceEq, Int.reduceNe, Int.reduceBEq, Int.reduceBNe, BitVec.reduceBEq, BitVec.reduceBNe, BitVec.reduceOfInt, BitVec.reduceSetWidth, -List.reduceReplicate, Try.results133, Try.ntmps133]
  refine (shaSumOk b hb).flatv (by simp only [argsx, argx_int, argx_bool, argx_fn, argx_ro, argx_nils, eq_self, true_and, and_true, and_self]; try trivial) (fun f => by simp only [renA, bvs_ren]) (by simp only [noRo, bvs_noRo]) ?_
  have hl := shaP_len b
  simp (maxSteps := 1000000) -implicitDefEqProofs only [go_sem, Nat.reduceBEq, Nat.reduceLT, Nat.reduceLeDiff, Nat.reduceEqDiff, Nat.reduceAdd, Nat.reduceMul, Nat.reduceSub, reduceIte, reduceCtorEq, Int.reduceLT, Int.reduceLE, Int.reduceToNat, Int.reduceAdd, Int.reduceSub, Int.reduceNeg, Int.reduceEq, Int.reduceNe, Int.reduceBEq, Int.reduceBNe, BitVec.reduceBEq, BitVec.reduceBNe, BitVec.reduceOfInt, BitVec.reduceSetWidth, -List.reduceReplicate, hl]
  exact Fin.by (.row (n := 0) (sp := []) hl.symm (by rw [List.append_nil, look_cons, if_pos rfl]) (by rw [List.length_nil, Nat.add_zero]; exact hl) (by decide) rfl) (fun e => by cases e) idG (fun _ _ => rfl)
/-- a check's bytes, by its number -/
theorem sumOk (c : Int) (b : List (BitVec 8)) (hb : b.length ≤ 100000) : CallG false Try.prog 21 [.int .i64 c, .ro b.length (bvs .u8 b)] (fun _ => true) [] 0 (ByK (chT c) idG (chk c b) [] 0) := by
  refine fn_okG Try.func21 rfl (by show 2 ≤ _; decide) ?_
  simp (maxSteps := 1000000) -implicitDefEqProofs only [go_sem, Nat.reduceBEq, Nat.reduceLT, Nat.reduceLeDiff, Nat.reduceEqDiff, Nat.reduceAdd, Nat.reduceMul, Nat.reduceSub, reduceIte, reduceCtorEq, Int.reduceLT, Int.reduceLE, Int.reduceToNat, Int.reduceAdd, Int.reduceSub, Int.reduceNeg, Int.reduceEq, Int.reduceNe, Int.reduceBEq, Int.reduceBNe, BitVec.reduceBEq, BitVec.reduceBNe, BitVec.reduceOfInt, BitVec.reduceSetWidth, -List.reduceReplicate, Try.results21, Try.ntmps21]
  refine sumsOk.newE rfl ?_
  rintro v m nx ⟨rfl, rfl, rfl⟩
  have hmem : renM (fun n => n + 0) [(0, AObj.mp .i64 [0, 1, 4, 10] sumL)] ++ [] = [(0, AObj.mp .i64 [0, 1, 4, 10] sumL)] := rfl
  have hmp : renA (fun n => n + 0) (AV.map 0) = .map 0 := rfl
  rw [hmem, hmp]
  by_cases h0 : c = 0
  · subst h0
    simp (maxSteps := 1000000) -implicitDefEqProofs only [go_sem, Nat.reduceBEq, Nat.reduceLT, Nat.reduceLeDiff, Nat.reduceEqDiff, Nat.reduceAdd, Nat.reduceMul, Nat.reduceSub, reduceIte, reduceCtorEq, Int.reduceLT, Int.reduceLE, Int.reduceToNat, Int.reduceAdd, Int.reduceSub, Int.reduceNeg, Int.reduceEq, Int.reduceNe, Int.reduceBEq, Int.reduceBNe, BitVec.reduceBEq, BitVec.reduceBNe, BitVec.reduceOfInt, BitVec.reduceSetWidth, -List.reduceReplicate, sumL, fnC]
    refine (CallG.by1 (nilOk b) rfl (by simp) (fun p hp => by cases List.mem_singleton.1 hp; exact Nat.zero_lt_one) (by simp only [argsx, argx_int, argx_bool, argx_fn, argx_ro, argx_nils, eq_self, true_and, and_true, and_self]; try trivial)).weak ?_
    rintro v m nx ⟨ns, b1, b2, b3, g⟩
    simp (maxSteps := 1000000) -implicitDefEqProofs only [go_sem, Nat.reduceBEq, Nat.reduceLT, Nat.reduceLeDiff, Nat.reduceEqDiff, Nat.reduceAdd, Nat.reduceMul, Nat.reduceSub, reduceIte, reduceCtorEq, Int.reduceLT, Int.reduceLE, Int.reduceToNat, Int.reduceAdd, Int.reduceSub, Int.reduceNeg, Int.reduceEq, Int.reduceNe, Int.reduceBEq, Int.reduceBNe, BitVec.reduceBEq, BitVec.reduceBNe, BitVec.reduceOfInt, BitVec.reduceSetWidth, -List.reduceReplicate]
    exact Fin.by b1 b2 idG (fun _ _ => rfl)
  by_cases h1 : c = 1
  · subst h1
    simp (maxSteps := 1000000) -implicitDefEqProofs only [go_sem, Nat.reduceBEq, Nat.reduceLT, Nat.reduceLeDiff, Nat.reduceEqDiff, Nat.reduceAdd, Nat.reduceMul, Nat.reduceSub, reduceIte, reduceCtorEq, Int.reduceLT, Int.reduceLE, Int.reduceToNat, Int.reduceAdd, Int.reduceSub, Int.reduceNeg, Int.reduceEq, Int.reduceNe, Int.reduceBEq, Int.reduceBNe, BitVec.reduceBEq, BitVec.reduceBNe, BitVec.reduceOfInt, BitVec.reduceSetWidth, -List.reduceReplicate, sumL, fnC]
    refine (CallG.by1 (crcOk b hb) rfl (by simp) (fun p hp => by cases List.mem_singleton.1 hp; exact Nat.zero_lt_one) (by simp only [argsx, argx_int, argx_bool, argx_fn, argx_ro, argx_nils, eq_self, true_and, and_true, and_self]; try trivial)).weak ?_
    rintro v m nx ⟨ns, b1, b2, b3, g⟩
    simp (maxSteps := 1000000) -implicitDefEqProofs only [go_sem, Nat.reduceBEq, Nat.reduceLT, Nat.reduceLeDiff, Nat.reduceEqDiff, Nat.reduceAdd, Nat.reduceMul, Nat.reduceSub, reduceIte, reduceCtorEq, Int.reduceLT, Int.reduceLE, Int.reduceToNat, Int.reduceAdd, Int.reduceSub, Int.reduceNeg, Int.reduceEq, Int.reduceNe, Int.reduceBEq, Int.reduceBNe, BitVec.reduceBEq, BitVec.reduceBNe, BitVec.reduceOfInt, BitVec.reduceSetWidth, -List.reduceReplicate]
    exact Fin.by b1 b2 idG (fun _ _ => rfl)
  by_cases h4 : c = 4
  · subst h4
    simp (maxSteps := 1000000) -implicitDefEqProofs only [go_sem, Nat.reduceBEq, Nat.reduceLT, Nat.reduceLeDiff, Nat.reduceEqDiff, Nat.reduceAdd, Nat.reduceMul, Nat.reduceSub, reduceIte, reduceCtorEq, Int.reduceLT, Int.reduceLE, Int.reduceToNat, Int.reduceAdd, Int.reduceSub, Int.reduceNeg, Int.reduceEq, Int.reduceNe, Int.reduceBEq, Int.reduceBNe, BitVec.reduceBEq, BitVec.reduceBNe, BitVec.reduceOfInt, BitVec.reduceSetWidth, -List.reduceReplicate, sumL, fnC]
    refine (CallG.by1 (crc64Ok b hb) rfl (by simp) (fun p hp => by cases List.mem_singleton.1 hp; exact Nat.zero_lt_one) (by simp only [argsx, argx_int, argx_bool, argx_fn, argx_ro, argx_nils, eq_self, true_and, and_true, and_self]; try trivial)).weak ?_
    rintro v m nx ⟨ns, b1, b2, b3, g⟩
    simp (maxSteps := 1000000) -implicitDefEqProofs only [go_sem, Nat.reduceBEq, Nat.reduceLT, Nat.reduceLeDiff, Nat.reduceEqDiff, Nat.reduceAdd, Nat.reduceMul, Nat.reduceSub, reduceIte, reduceCtorEq, Int.reduceLT, Int.reduceLE, Int.reduceToNat, Int.reduceAdd, Int.reduceSub, Int.reduceNeg, Int.reduceEq, Int.reduceNe, Int.reduceBEq, Int.reduceBNe, BitVec.reduceBEq, BitVec.reduceBNe, BitVec.reduceOfInt, BitVec.reduceSetWidth, -List.reduceReplicate]
    exact Fin.by b1 b2 idG (fun _ _ => rfl)
  by_cases h10 : c = 10
  · subst h10
    simp (maxSteps := 1000000) -implicitDefEqProofs only [go_sem, Nat.reduceBEq, Nat.reduceLT, Nat.reduceLeDiff, Nat.reduceEqDiff, Nat.reduceAdd, Nat.reduceMul, Nat.reduceSub, reduceIte, reduceCtorEq, Int.reduceLT, Int.reduceLE, Int.reduceToNat, Int.reduceAdd, Int.reduceSub, Int.reduceNeg, Int.reduceEq, Int.reduceNe, Int.reduceBEq, Int.reduceBNe, BitVec.reduceBEq, BitVec.reduceBNe, BitVec.reduceOfInt, BitVec.reduceSetWidth, -List.reduceReplicate, sumL, fnC]
    refine (CallG.by1 (shaOk b hb) rfl (by simp) (fun p hp => by cases List.mem_singleton.1 hp; exact Nat.zero_lt_one) (by simp only [argsx, argx_int, argx_bool, argx_fn, argx_ro, argx_nils, eq_self, true_and, and_true, and_self]; try trivial)).weak ?_
    rintro v m nx ⟨ns, b1, b2, b3, g⟩
    simp (maxSteps := 1000000) -implicitDefEqProofs only [go_sem, Nat.reduceBEq, Nat.reduceLT, Nat.reduceLeDiff, Nat.reduceEqDiff, Nat.reduceAdd, Nat.reduceMul, Nat.reduceSub, reduceIte, reduceCtorEq, Int.reduceLT, Int.reduceLE, Int.reduceToNat, Int.reduceAdd, Int.reduceSub, Int.reduceNeg, Int.reduceEq, Int.reduceNe, Int.reduceBEq, Int.reduceBNe, BitVec.reduceBEq, BitVec.reduceBNe, BitVec.reduceOfInt, BitVec.reduceSetWidth, -List.reduceReplicate]
    exact Fin.by b1 b2 idG (fun _ _ => rfl)
  have f0 : ((0 : Int) = c) = False := eq_false (fun e => h0 e.symm)
  have f1 : ((1 : Int) = c) = False := eq_false (fun e => h1 e.symm)
  have f4 : ((4 : Int) = c) = False := eq_false (fun e => h4 e.symm)
  have f10 : ((10 : Int) = c) = False := eq_false (fun e => h10 e.symm)
  simp (maxSteps := 1000000) -implicitDefEqProofs only [go_sem, Nat.reduceBEq, Nat.reduceLT, Nat.reduceLeDiff, Nat.reduceEqDiff, Nat.reduceAdd, Nat.reduceMul, Nat.reduceSub, reduceIte, reduceCtorEq, Int.reduceLT, Int.reduceLE, Int.reduceToNat, Int.reduceAdd, Int.reduceSub, Int.reduceNeg, Int.reduceEq, Int.reduceNe, Int.reduceBEq, Int.reduceBNe, BitVec.reduceBEq, BitVec.reduceBNe, BitVec.reduceOfInt, BitVec.reduceSetWidth, -List.reduceReplicate, sumL, fnC, f0, f1, f4, f10]
  have e : chk c b = [] := by rw [chk, if_neg h1, if_neg h4, if_neg h10]
  rw [e]
  exact Fin.by (.nil _) (fun e => by cases e) idG (fun _ _ => rfl)
theorem fineOk (c : Int) : CallG false Try.prog 19 [.int .i64 c] (fun _ => true) [] 0 fun v m nx => v = .bool (isC c) ∧ m = [] ∧ nx = 0 := by
  refine fn_okG Try.func19 rfl (by show 1 ≤ _; decide) ?_
  simp (maxSteps := 1000000) -implicitDefEqProofs only [go_sem, Nat.reduceBEq, Nat.reduceLT, Nat.reduceLeDiff, Nat.reduceEqDiff, Nat.reduceAdd, Nat.reduceMul, Nat.reduceSub, reduceIte, reduceCtorEq, Int.reduceLT, Int.reduceLE, Int.reduceToNat, Int.reduceAdd, Int.reduceSub, Int.reduceNeg, Int.reduceEq, Int.reduceNe, Int.reduceBEq, Int.reduceBNe, BitVec.reduceBEq, BitVec.reduceBNe, BitVec.reduceOfInt, BitVec.reduceSetWidth, -List.reduceReplicate, Try.results19, Try.ntmps19]
  refine sumsOk.newE rfl ?_
  rintro v m nx ⟨rfl, rfl, rfl⟩
  have hmem : renM (fun n => n + 0) [(0, AObj.mp .i64 [0, 1, 4, 10] sumL)] ++ [] = [(0, AObj.mp .i64 [0, 1, 4, 10] sumL)] := rfl
  have hmp : renA (fun n => n + 0) (AV.map 0) = .map 0 := rfl
  rw [hmem, hmp]
  by_cases h0 : c = 0
  · subst h0
    simp (maxSteps := 1000000) -implicitDefEqProofs only [go_sem, Nat.reduceBEq, Nat.reduceLT, Nat.reduceLeDiff, Nat.reduceEqDiff, Nat.reduceAdd, Nat.reduceMul, Nat.reduceSub, reduceIte, reduceCtorEq, Int.reduceLT, Int.reduceLE, Int.reduceToNat, Int.reduceAdd, Int.reduceSub, Int.reduceNeg, Int.reduceEq, Int.reduceNe, Int.reduceBEq, Int.reduceBNe, BitVec.reduceBEq, BitVec.reduceBNe, BitVec.reduceOfInt, BitVec.reduceSetWidth, -List.reduceReplicate, sumL, fnC]
    exact Fin.flatv (fun _ => rfl) (fun _ => rfl) ⟨rfl, rfl, rfl⟩
  by_cases h1 : c = 1
  · subst h1
    simp (maxSteps := 1000000) -implicitDefEqProofs only [go_sem, Nat.reduceBEq, Nat.reduceLT, Nat.reduceLeDiff, Nat.reduceEqDiff, Nat.reduceAdd, Nat.reduceMul, Nat.reduceSub, reduceIte, reduceCtorEq, Int.reduceLT, Int.reduceLE, Int.reduceToNat, Int.reduceAdd, Int.reduceSub, Int.reduceNeg, Int.reduceEq, Int.reduceNe, Int.reduceBEq, Int.reduceBNe, BitVec.reduceBEq, BitVec.reduceBNe, BitVec.reduceOfInt, BitVec.reduceSetWidth, -List.reduceReplicate, sumL, fnC]
    exact Fin.flatv (fun _ => rfl) (fun _ => rfl) ⟨rfl, rfl, rfl⟩
  by_cases h4 : c = 4
  · subst h4
    simp (maxSteps := 1000000) -implicitDefEqProofs only [go_sem, Nat.reduceBEq, Nat.reduceLT, Nat.reduceLeDiff, Nat.reduceEqDiff, Nat.reduceAdd, Nat.reduceMul, Nat.reduceSub, reduceIte, reduceCtorEq, Int.reduceLT, Int.reduceLE, Int.reduceToNat, Int.reduceAdd, Int.reduceSub, Int.reduceNeg, Int.reduceEq, Int.reduceNe, Int.reduceBEq, Int.reduceBNe, BitVec.reduceBEq, BitVec.reduceBNe, BitVec.reduceOfInt, BitVec.reduceSetWidth, -List.reduceReplicate, sumL, fnC]
    exact Fin.flatv (fun _ => rfl) (fun _ => rfl) ⟨rfl, rfl, rfl⟩
  by_cases h10 : c = 10
  · subst h10
    simp (maxSteps := 1000000) -implicitDefEqProofs only [go_sem, Nat.reduceBEq, Nat.reduceLT, Nat.reduceLeDiff, Nat.reduceEqDiff, Nat.reduceAdd, Nat.reduceMul, Nat.reduceSub, reduceIte, reduceCtorEq, Int.reduceLT, Int.reduceLE, Int.reduceToNat, Int.reduceAdd, Int.reduceSub, Int.reduceNeg, Int.reduceEq, Int.reduceNe, Int.reduceBEq, Int.reduceBNe, BitVec.reduceBEq, BitVec.reduceBNe, BitVec.reduceOfInt, BitVec.reduceSetWidth, -List.reduceReplicate, sumL, fnC]
    exact Fin.flatv (fun _ => rfl) (fun _ => rfl) ⟨rfl, rfl, rfl⟩
  have f0 : ((0 : Int) = c) = False := eq_false (fun e => h0 e.symm)
  have f1 : ((1 : Int) = c) = False := eq_false (fun e => h1 e.symm)
  have f4 : ((4 : Int) = c) = False := eq_false (fun e => h4 e.symm)
  have f10 : ((10 : Int) = c) = False := eq_false (fun e => h10 e.symm)
  have e : isC c = false := by simp [isC, h0, h1, h4, h10]
  simp (maxSteps := 1000000) -implicitDefEqProofs only [go_sem, Nat.reduceBEq, Nat.reduceLT, Nat.reduceLeDiff, Nat.reduceEqDiff, Nat.reduceAdd, Nat.reduceMul, Nat.reduceSub, reduceIte, reduceCtorEq, Int.reduceLT, Int.reduceLE, Int.reduceToNat, Int.reduceAdd, Int.reduceSub, Int.reduceNeg, Int.reduceEq, Int.reduceNe, Int.reduceBEq, Int.reduceBNe, BitVec.reduceBEq, BitVec.reduceBNe, BitVec.reduceOfInt, BitVec.reduceSetWidth, -List.reduceReplicate, sumL, fnC, f0, f1, f4, f10]
  rw [e]
  exact Fin.flatv (fun _ => rfl) (fun _ => rfl) ⟨rfl, rfl, rfl⟩
theorem sizeOk (c : Int) : CallG false Try.prog 20 [.int .i64 c] (fun _ => true) [] 0 fun v m nx => v = .int .i64 ((chk c []).length : Nat) ∧ m = [] ∧ nx = 0 := by
  refine fn_okG Try.func20 rfl (by show 1 ≤ _; decide) ?_
  simp (maxSteps := 1000000) -implicitDefEqProofs only [go_sem, Nat.reduceBEq, Nat.reduceLT, Nat.reduceLeDiff, Nat.reduceEqDiff, Nat.reduceAdd, Nat.reduceMul, Nat.reduceSub, reduceIte, reduceCtorEq, Int.reduceLT, Int.reduceLE, Int.reduceToNat, Int.reduceAdd, Int.reduceSub, Int.reduceNeg, Int.reduceEq, Int.reduceNe, Int.reduceBEq, Int.reduceBNe, BitVec.reduceBEq, BitVec.reduceBNe, BitVec.reduceOfInt, BitVec.reduceSetWidth, -List.reduceReplicate, Try.results20, Try.ntmps20]
  refine (CallG.by1 (args := [.int .i64 c, .nils]) (sumOk c [] (by decide)) rfl nd0 lt0 ⟨rfl, ⟨rfl, rfl⟩, trivial⟩).weak ?_
  rintro v m nx ⟨ns, b1, b2, b3, g⟩
  obtain ⟨q1, q2, q3, q4, q5⟩ := b1.facts
  have q6 := b1.len Try.prog 22
  simp (maxSteps := 1000000) -implicitDefEqProofs only [go_sem, Nat.reduceBEq, Nat.reduceLT, Nat.reduceLeDiff, Nat.reduceEqDiff, Nat.reduceAdd, Nat.reduceMul, Nat.reduceSub, reduceIte, reduceCtorEq, Int.reduceLT, Int.reduceLE, Int.reduceToNat, Int.reduceAdd, Int.reduceSub, Int.reduceNeg, Int.reduceEq, Int.reduceNe, Int.reduceBEq, Int.reduceBNe, BitVec.reduceBEq, BitVec.reduceBNe, BitVec.reduceOfInt, BitVec.reduceSetWidth, -List.reduceReplicate, q1, q2, q3, q4, q6]
  exact Fin.flatv (fun _ => rfl) (fun _ => rfl) ⟨rfl, rfl, rfl⟩
end Go.Proofs.Ytmdeoikpiiambaa
end
section
/- A stream's ends: what other layers lean on: bytes alike, the document's checks. -/
set_option linter.unusedVariables false
set_option linter.unusedSimpArgs false
set_option maxRecDepth 100000
namespace Go.Proofs.Ytmdeoikpiiambaa
open Go Go.Eng
theorem equalOk (A B : List (BitVec 8)) : CallG false Try.prog 81 [.ro A.length (bvs .u8 A), .ro B.length (bvs .u8 B)] (fun _ => true) [] 0 fun v m nx => v = .bool (decide (A = B)) ∧ m = [] ∧ nx = 0 := by
  refine fn_okG Try.func81 rfl (by show 2 ≤ _; decide) ?_
  have ha : bvs .u8 A = List.take A.length (bvs .u8 A) := by rw [List.take_of_length_le (by rw [bvs_length]; exact Nat.le_refl _)]
  simp (maxSteps := 1000000) -implicitDefEqProofs only [go_sem, Nat.reduceBEq, Nat.reduceLT, Nat.reduceLeDiff, Nat.reduceEqDiff, Nat.reduceAdd, Nat.reduceMul, Nat.reduceSub, reduceIte, reduceCtorEq, Int.reduceLT, Int.reduceLE, Int.reduceToNat, Int.reduceAdd, Int.reduceSub, Int.reduceNeg, Int.reduceEq, Int.reduceNe, Int.reduceBEq, Int.reduceBNe, BitVec.reduceBEq, BitVec.reduceBNe, BitVec.reduceOfInt, BitVec.reduceSetWidth, -List.reduceReplicate, Try.results81, Try.ntmps81, List.take_length, u8s_bvs, strOf_def, strEq]
  exact Fin.flatv (fun _ => rfl) (fun _ => rfl) ⟨rfl, rfl, rfl⟩
theorem lowS_cons (n : BitVec 64) : ∀ k, lowS n (k + 1) = n.setWidth 8 :: lowS (n >>> 8) k
  | 0 => by simp [lowS]
  | k + 1 => by
    rw [lowS, lowS_cons n k, lowS, List.cons_append]
    rw [← BitVec.shiftRight_add, show 8 + 8 * k = 8 * (k + 1) by omega]
theorem lowROk : ∀ (k : Nat) (hk : k ≤ 8) (n : BitVec 64), CallG false Try.prog 77 [.int .u64 (n.toNat : Int), .int .i64 k] (fun _ => true) [] 0 (ByK 5 idG (lowS n k) [] 0)
  | 0, hk, n => by
    refine fn_okG Try.func77 rfl (by show 2 ≤ _; decide) ?_
    simp (maxSteps := 1000000) -implicitDefEqProofs only [go_sem, Nat.reduceBEq, Nat.reduceLT, Nat.reduceLeDiff, Nat.reduceEqDiff, Nat.reduceAdd, Nat.reduceMul, Nat.reduceSub, reduceIte, reduceCtorEq, Int.reduceLT, Int.reduceLE, Int.reduceToNat, Int.reduceAdd, Int.reduceSub, Int.reduceNeg, Int.reduceEq, Int.reduceNe, Int.reduceBEq, Int.reduceBNe, BitVec.reduceBEq, BitVec.reduceBNe, BitVec.reduceOfInt, BitVec.reduceSetWidth, -List.reduceReplicate, Try.results77, Try.ntmps77]
    exact Fin.by (.nil _) (fun e => by cases e) idG (fun _ _ => rfl)
  | k + 1, hk, n => by
    refine fn_okG Try.func77 rfl (by show 2 ≤ _; decide) ?_
    have g1 : (((k + 1 : Nat) : Int) == 0) = false := by rw [beq_eq_false_iff_ne]; omega
    have w1 : IntKind.i64.wrap (((k + 1 : Nat) : Int) - 1) = (k : Int) := by rw [wrap_i64] <;> omega
    have ih := lowROk k (by omega) (n >>> 8)
    have q1 : n / 256#64 = n >>> 8 := by
      apply BitVec.eq_of_toNat_eq
      rw [BitVec.toNat_udiv, BitVec.toNat_ushiftRight, Nat.shiftRight_eq_div_pow]; rfl
    have q2 : BitVec.setWidth 8 (n % 256#64) = n.setWidth 8 := by
      apply BitVec.eq_of_toNat_eq
      rw [BitVec.toNat_setWidth, BitVec.toNat_umod, BitVec.toNat_setWidth]
      show n.toNat % 256 % 256 = n.toNat % 256
      rw [Nat.mod_mod]
    simp (maxSteps := 1000000) -implicitDefEqProofs only [go_sem, Nat.reduceBEq, Nat.reduceLT, Nat.reduceLeDiff, Nat.reduceEqDiff, Nat.reduceAdd, Nat.reduceMul, Nat.reduceSub, reduceIte, reduceCtorEq, Int.reduceLT, Int.reduceLE, Int.reduceToNat, Int.reduceAdd, Int.reduceSub, Int.reduceNeg, Int.reduceEq, Int.reduceNe, Int.reduceBEq, Int.reduceBNe, BitVec.reduceBEq, BitVec.reduceBNe, BitVec.reduceOfInt, BitVec.reduceSetWidth, -List.reduceReplicate, Try.results77, Try.ntmps77, g1, w1, q1, q2]
    refine ⟨.inr trivial, ?_⟩
    refine CallG.byK ih rfl (by simp) (fun p hp => by cases List.mem_singleton.1 hp; exact Nat.zero_lt_one) ⟨rfl, rfl, trivial⟩ ?_
    intro v m nx ns b1 b2 b3 gr
    have hrow : ByAt 5 m (.sl 0 0 1 1) [n.setWidth 8] [0] := (ByAt.row (n := 0) (X := [n.setWidth 8]) (sp := []) rfl rfl rfl (by show 1 ≤ maxI; decide) rfl).grow gr
    have hsrc := b1.src
    simp only [srcx, Nat.mul_one] at hsrc
    simp (maxSteps := 1000000) -implicitDefEqProofs only [go_sem, Nat.reduceBEq, Nat.reduceLT, Nat.reduceLeDiff, Nat.reduceEqDiff, Nat.reduceAdd, Nat.reduceMul, Nat.reduceSub, reduceIte, reduceCtorEq, Int.reduceLT, Int.reduceLE, Int.reduceToNat, Int.reduceAdd, Int.reduceSub, Int.reduceNeg, Int.reduceEq, Int.reduceNe, Int.reduceBEq, Int.reduceBNe, BitVec.reduceBEq, BitVec.reduceBNe, BitVec.reduceOfInt, BitVec.reduceSetWidth, -List.reduceReplicate, hsrc, one1_bvs]
    have hll : (lowS (n >>> 8) k).length = k := lowS_len _ _
    refine appk_by hrow (fun e => by cases e) gr.nd (fun _ _ => rfl) gr.lt (fun _ _ => rfl) (by rw [hll]; show 1 + k ≤ _; omega) ?_
    intro v' m' nx' ns' c1 c2 c3 c4 c5 c6 c7 c8
    simp (maxSteps := 1000000) -implicitDefEqProofs only [go_sem, Nat.reduceBEq, Nat.reduceLT, Nat.reduceLeDiff, Nat.reduceEqDiff, Nat.reduceAdd, Nat.reduceMul, Nat.reduceSub, reduceIte, reduceCtorEq, Int.reduceLT, Int.reduceLE, Int.reduceToNat, Int.reduceAdd, Int.reduceSub, Int.reduceNeg, Int.reduceEq, Int.reduceNe, Int.reduceBEq, Int.reduceBNe, BitVec.reduceBEq, BitVec.reduceBNe, BitVec.reduceOfInt, BitVec.reduceSetWidth, -List.reduceReplicate]
    rw [lowS_cons]
    exact Fin.by (X := n.setWidth 8 :: lowS (n >>> 8) k) c1 c2 idG (fun _ _ => rfl)
theorem CallOk.byK {ty : TypeId} {fz : Bool} {P : Program} {g : FuncId} {args0 args : List AV} {wr : Nat → Bool} {m : Mem} {nx : Nat} {K : Kv} {F : AV → AV} {X : List (BitVec 8)} (h : CallOk P g args0 (fun _ => true) [] 0 (ByK ty F X [] 0)) (hF : F = fun s => s) (nd : (m.map fun p => p.1).Nodup) (lt : ∀ p ∈ m, p.1 < nx)
    (ha : argsx m [] (rf [] nx 0) args args0) (hK : ∀ v m' nx' ns, ByAt ty m' v X ns → v ≠ .ro X.length (bvs .u8 X) → (∀ k ∈ ns, nx ≤ k) → Gr m nx m' nx' → K v m' nx') : CallG fz P g args wr m nx K := by
  subst hF
  refine (CallOk.by h nd lt ha (fun _ _ => rfl) (fun _ => rfl)).weak ?_
  rintro v m' nx' ⟨s, ns, rfl, h1, h2, h3, h4⟩
  exact hK _ _ _ ns h1 h2 h3 h4
theorem refSumOk (c : Int) (b : List (BitVec 8)) (hb : b.length ≤ 100000) : CallG false Try.prog 22 [.int .i64 c, .ro b.length (bvs .u8 b)] (fun _ => true) [] 0 (ByK 5 idG (chk c b) [] 0) := by
  refine fn_okG Try.func22 rfl (by show 2 ≤ _; decide) ?_
  by_cases h1 : c = 1
  · subst h1
    simp (maxSteps := 1000000) -implicitDefEqProofs only [go_sem, Nat.reduceBEq, Nat.reduceLT, Nat.reduceLeDiff, Nat.reduceEqDiff, Nat.reduceAdd, Nat.reduceMul, Nat.reduceSub, reduceIte, reduceCtorEq, Int.reduceLT, Int.reduceLE, Int.reduceToNat, Int.reduceAdd, Int.reduceSub, Int.reduceNeg, Int.reduceEq, Int.reduceNe, Int.reduceBEq, Int.reduceBNe, BitVec.reduceBEq, BitVec.reduceBNe, BitVec.reduceOfInt, BitVec.reduceSetWidth, -List.reduceReplicate, Try.results22, Try.ntmps22]
    refine (rsumOk32 b (by omega)).flatv (by simp only [argsx, argx_int, argx_bool, argx_fn, argx_ro, argx_nils, eq_self, true_and, and_true, and_self]; try trivial) (fun _ => rfl) rfl ?_
    simp (maxSteps := 1000000) -implicitDefEqProofs only [go_sem, Nat.reduceBEq, Nat.reduceLT, Nat.reduceLeDiff, Nat.reduceEqDiff, Nat.reduceAdd, Nat.reduceMul, Nat.reduceSub, reduceIte, reduceCtorEq, Int.reduceLT, Int.reduceLE, Int.reduceToNat, Int.reduceAdd, Int.reduceSub, Int.reduceNeg, Int.reduceEq, Int.reduceNe, Int.reduceBEq, Int.reduceBNe, BitVec.reduceBEq, BitVec.reduceBNe, BitVec.reduceOfInt, BitVec.reduceSetWidth, -List.reduceReplicate, ron32_eq]
    refine CallG.byK (lowROk 4 (by decide) ((on32 0 b).setWidth 64)) rfl nd0 lt0 (by simp only [argsx, argx_int, argx_bool, argx_fn, argx_ro, argx_nils, eq_self, true_and, and_true, and_self]; try trivial) ?_
    intro v m nx ns b1 b2 b3 gr
    simp (maxSteps := 1000000) -implicitDefEqProofs only [go_sem, Nat.reduceBEq, Nat.reduceLT, Nat.reduceLeDiff, Nat.reduceEqDiff, Nat.reduceAdd, Nat.reduceMul, Nat.reduceSub, reduceIte, reduceCtorEq, Int.reduceLT, Int.reduceLE, Int.reduceToNat, Int.reduceAdd, Int.reduceSub, Int.reduceNeg, Int.reduceEq, Int.reduceNe, Int.reduceBEq, Int.reduceBNe, BitVec.reduceBEq, BitVec.reduceBNe, BitVec.reduceOfInt, BitVec.reduceSetWidth, -List.reduceReplicate]
    exact Fin.by b1 b2 idG (fun _ _ => rfl)
  have f1 : (c == 1) = false := by simpa using h1
  by_cases h4 : c = 4
  · subst h4
    simp (maxSteps := 1000000) -implicitDefEqProofs only [go_sem, Nat.reduceBEq, Nat.reduceLT, Nat.reduceLeDiff, Nat.reduceEqDiff, Nat.reduceAdd, Nat.reduceMul, Nat.reduceSub, reduceIte, reduceCtorEq, Int.reduceLT, Int.reduceLE, Int.reduceToNat, Int.reduceAdd, Int.reduceSub, Int.reduceNeg, Int.reduceEq, Int.reduceNe, Int.reduceBEq, Int.reduceBNe, BitVec.reduceBEq, BitVec.reduceBNe, BitVec.reduceOfInt, BitVec.reduceSetWidth, -List.reduceReplicate, Try.results22, Try.ntmps22]
    refine (rsumOk64 b (by omega)).flatv (by simp only [argsx, argx_int, argx_bool, argx_fn, argx_ro, argx_nils, eq_self, true_and, and_true, and_self]; try trivial) (fun _ => rfl) rfl ?_
    simp (maxSteps := 1000000) -implicitDefEqProofs only [go_sem, Nat.reduceBEq, Nat.reduceLT, Nat.reduceLeDiff, Nat.reduceEqDiff, Nat.reduceAdd, Nat.reduceMul, Nat.reduceSub, reduceIte, reduceCtorEq, Int.reduceLT, Int.reduceLE, Int.reduceToNat, Int.reduceAdd, Int.reduceSub, Int.reduceNeg, Int.reduceEq, Int.reduceNe, Int.reduceBEq, Int.reduceBNe, BitVec.reduceBEq, BitVec.reduceBNe, BitVec.reduceOfInt, BitVec.reduceSetWidth, -List.reduceReplicate, ron64_eq]
    refine CallG.byK (lowROk 8 (by decide) (on64 0 b)) rfl nd0 lt0 (by simp only [argsx, argx_int, argx_bool, argx_fn, argx_ro, argx_nils, eq_self, true_and, and_true, and_self]; try trivial) ?_
    intro v m nx ns b1 b2 b3 gr
    simp (maxSteps := 1000000) -implicitDefEqProofs only [go_sem, Nat.reduceBEq, Nat.reduceLT, Nat.reduceLeDiff, Nat.reduceEqDiff, Nat.reduceAdd, Nat.reduceMul, Nat.reduceSub, reduceIte, reduceCtorEq, Int.reduceLT, Int.reduceLE, Int.reduceToNat, Int.reduceAdd, Int.reduceSub, Int.reduceNeg, Int.reduceEq, Int.reduceNe, Int.reduceBEq, Int.reduceBNe, BitVec.reduceBEq, BitVec.reduceBNe, BitVec.reduceOfInt, BitVec.reduceSetWidth, -List.reduceReplicate]
    exact Fin.by b1 b2 idG (fun _ _ => rfl)
  have f4 : (c == 4) = false := by simpa using h4
  by_cases h10 : c = 10
  · subst h10
    simp (maxSteps := 1000000) -implicitDefEqProofs only [go_sem, Nat.reduceBEq, Nat.reduceLT, Nat.reduceLeDiff, Nat.reduceEqDiff, Nat.reduceAdd, Nat.reduceMul, Nat.reduceSub, reduceIte, reduceCtorEq, Int.reduceLT, Int.reduceLE, Int.reduceToNat, Int.reduceAdd, Int.reduceSub, Int.reduceNeg, Int.reduceEq, Int.reduceNe, Int.reduceBEq, Int.reduceBNe, BitVec.reduceBEq, BitVec.reduceBNe, BitVec.reduceOfInt, BitVec.reduceSetWidth, -List.reduceReplicate, Try.results22, Try.ntmps22]
    refine CallOk.byK (rshaOk b hb) rfl nd0 lt0 (by simp only [argsx, argx_int, argx_bool, argx_fn, argx_ro, argx_nils, eq_self, true_and, and_true, and_self]; try trivial) ?_
    intro v m nx ns b1 b2 b3 gr
    simp (maxSteps := 1000000) -implicitDefEqProofs only [go_sem, Nat.reduceBEq, Nat.reduceLT, Nat.reduceLeDiff, Nat.reduceEqDiff, Nat.reduceAdd, Nat.reduceMul, Nat.reduceSub, reduceIte, reduceCtorEq, Int.reduceLT, Int.reduceLE, Int.reduceToNat, Int.reduceAdd, Int.reduceSub, Int.reduceNeg, Int.reduceEq, Int.reduceNe, Int.reduceBEq, Int.reduceBNe, BitVec.reduceBEq, BitVec.reduceBNe, BitVec.reduceOfInt, BitVec.reduceSetWidth, -List.reduceReplicate]
    have e : chk 10 b = shaR b := (show chk 10 b = shaP b from rfl).trans (sha_eq b)
    rw [e]
    exact Fin.by b1 b2 idG (fun _ _ => rfl)
  have f10 : (c == 10) = false := by simpa using h10
  simp (maxSteps := 1000000) -implicitDefEqProofs only [go_sem, Nat.reduceBEq, Nat.reduceLT, Nat.reduceLeDiff, Nat.reduceEqDiff, Nat.reduceAdd, Nat.reduceMul, Nat.reduceSub, reduceIte, reduceCtorEq, Int.reduceLT, Int.reduceLE, Int.reduceToNat, Int.reduceAdd, Int.reduceSub, Int.reduceNeg, Int.reduceEq, Int.reduceNe, Int.reduceBEq, Int.reduceBNe, BitVec.reduceBEq, BitVec.reduceBNe, BitVec.reduceOfInt, BitVec.reduceSetWidth, -List.reduceReplicate, Try.results22, Try.ntmps22, f1, f4, f10]
  have e : chk c b = [] := by rw [chk, if_neg h1, if_neg h4, if_neg h10]
  rw [e]
  exact Fin.by (.nil _) (fun e => by cases e) idG (fun _ _ => rfl)
theorem argx_roN {m : Mem} {own : List Nat} {f : Nat → Nat} {n n' : Nat} {X : List (BitVec 8)} (h : n = n') : argx m own f (.ro n (bvs .u8 X)) (.ro n' (bvs .u8 X)) := by
  show AV.ro _ _ = renA f (AV.ro _ _)
  simp only [renA, bvs_ren, h]
theorem elB : elemT Try.prog 22 = some 5 := by kernel_rfl
theorem intB : intT Try.prog 5 = some .u8 := by kernel_rfl
theorem strT9 : isStrT Try.prog 9 = true := by kernel_rfl
def okT (s : AV) : AV := .tup [s, .int .i64 0]
theorem byT {fz : Bool} {P : Program} {g : FuncId} {args0 args : List AV} {wr : Nat → Bool} {m : Mem} {nx : Nat} {K : Kv} {X : List (BitVec 8)} (h : CallG false P g args0 (fun _ => true) [] 0 (ByK 5 okT X [] 0)) (nd : (m.map fun p => p.1).Nodup) (lt : ∀ p ∈ m, p.1 < nx)
    (ha : argsx m [] (rf [] nx 0) args args0) (hK : ∀ s m' nx' ns, ByAt 5 m' s X ns → s ≠ .ro X.length (bvs .u8 X) → (∀ k ∈ ns, nx ≤ k) → Gr m nx m' nx' → K (.tup [s, .int .i64 0]) m' nx') : CallG fz P g args wr m nx K := by
  refine (CallOk.by h.any nd lt ha (fun _ _ => rfl) (fun s => by simp [okT, noRo, noRoL])).weak ?_
  rintro v m' nx' ⟨s, ns, rfl, h1, h2, h3, h4⟩
  exact hK _ _ _ ns h1 h2 h3 h4
theorem rdOld {m : Mem} {nx : Nat} {v : AV} {X : List (BitVec 8)} {ns : List Nat} {ty : TypeId} (h : ByAt ty m v X ns) (lt : ∀ p ∈ m, p.1 < nx) : ∀ n ∈ ns, Rd (wrD m nx []) n = true := fun n hn => by
  obtain ⟨o, ho⟩ := h.live n hn
  have h1 := h.lt lt n hn
  have h2 : decide (nx ≤ n) = false := decide_eq_false (by omega)
  simp [Rd, wrD, ho, h2]
end Go.Proofs.Ytmdeoikpiiambaa
end
section
/- An index: records; what a reader takes. BRIEF -/
set_option linter.unusedVariables false
set_option linter.unusedSimpArgs false
set_option maxRecDepth 100000
namespace Go.Proofs.Ytmdeoikpiiambaa
open Go Go.Eng

/-- a number's bytes, as a call answers them -/
theorem vputBy (m : BitVec 64) (hm : m.toNat < 9223372036854775808) : CallG false Try.prog 86 [.int .u64 (m.toNat : Int)] (fun _ => true) [] 0 (ByK 5 okT (putX m) [] 0) := by
  refine (vputOk m hm).weak ?_
  rintro v m' nx ⟨cap, sp, h1, h2, rfl, rfl, rfl⟩
  refine ⟨_, [0], rfl, .row (sp := sp.map AV.val) rfl (by rw [look_cons, if_pos rfl]; rfl) (by rw [List.length_map]; exact h1) h2 (val_pln _), (fun e => by cases e), fun k hk => Nat.zero_le _, ⟨Nat.zero_le _, by simp, (fun p hp => by cases List.mem_singleton.1 hp; exact Nat.zero_lt_one), fun _ _ h => by cases h⟩, fun _ => ?_⟩
  show noRoM [(0, rowO (putX m) sp)] = true
  simp only [rowO, noRoM, noRoO, noRoL_append, bvs_noRo, plnL_noRo (val_pln sp), Bool.and_self]
def Rec := Int × Int
/-- a record's cells -/
def rcs (R : List (Int × Int)) : List AV := R.flatMap fun r => [.int .i64 r.1, .int .i64 r.2]
theorem rcs_len (R : List (Int × Int)) : (rcs R).length = R.length * 2 := by
  induction R with
  | nil => rfl
  | cons r t ih => show ((_ :: _ :: rcs t) : List AV).length = _; rw [List.length_cons, List.length_cons, ih, List.length_cons]; omega
theorem rcs_flat (R : List (Int × Int)) : (rcs R).all flat = true := by
  induction R with
  | nil => rfl
  | cons r t ih => show ((.int .i64 r.1 :: .int .i64 r.2 :: rcs t) : List AV).all flat = true; rw [List.all_cons, List.all_cons, ih]; rfl
theorem rcs_app (R T : List (Int × Int)) : rcs R ++ rcs T = rcs (R ++ T) := by rw [rcs, rcs, rcs, List.flatMap_append]
theorem rcs_get (R : List (Int × Int)) : ∀ (i : Nat) (S : List AV), i < R.length → (rcs R ++ S).getD (i * 2) (.int .i64 0) = .int .i64 (R.getD i (0, 0)).1 ∧ (rcs R ++ S).getD (i * 2 + 1) (.int .i64 0) = .int .i64 (R.getD i (0, 0)).2 := by
  induction R with
  | nil => intro i S h; cases h
  | cons r t ih =>
    intro i S h
    cases i with
    | zero => exact ⟨rfl, rfl⟩
    | succ i =>
      have := ih i S (by rw [List.length_cons] at h; omega)
      rw [show (i + 1) * 2 = i * 2 + 1 + 1 by omega]
      exact this
/-- may a record be? -/
def fitB (r : Int × Int) : Bool := decide (r.1 ≥ 5) && decide (r.1 ≤ 9223372036854775804) && decide (r.2 ≥ 0)
theorem fitsOk (r : Int × Int) : CallG false Try.prog 87 [.agg [.int .i64 r.1, .int .i64 r.2]] (fun _ => true) [] 0 fun v m nx => v = .bool (fitB r) ∧ m = [] ∧ nx = 0 := by
  refine fn_okG Try.func87 rfl (by show 1 ≤ _; decide) ?_
  unfold fitB
  cases g1 : decide (r.1 ≥ 5) <;> cases g2 : decide (r.1 ≤ 9223372036854775804) <;>
    (simp (maxSteps := 1000000) -implicitDefEqProofs only [go_sem, seval, -List.reduceReplicate, Try.results87, Try.ntmps87, g1, g2]
     exact Fin.flatv (fun _ => rfl) (fun _ => rfl) ⟨rfl, rfl, rfl⟩)
theorem fitsROk (r : Int × Int) : CallG false Try.prog 32 [.agg [.int .i64 r.1, .int .i64 r.2]] (fun _ => true) [] 0 fun v m nx => v = .bool (fitB r) ∧ m = [] ∧ nx = 0 := by
  refine fn_okG Try.func32 rfl (by show 1 ≤ _; decide) ?_
  unfold fitB
  cases g1 : decide (r.1 ≥ 5) <;> cases g2 : decide (r.1 ≤ 9223372036854775804) <;>
    (simp (maxSteps := 1000000) -implicitDefEqProofs only [go_sem, seval, -List.reduceReplicate, Try.results32, Try.ntmps32, g1, g2]
     exact Fin.flatv (fun _ => rfl) (fun _ => rfl) ⟨rfl, rfl, rfl⟩)
theorem byR50 : bytesT Try.prog 50 = some 16 := by kernel_rfl
/-- records told as the document's -/
theorem asOk (R : List (Int × Int)) (hR : R.length ≤ 1000) : CallG false Try.prog 31 [.ro R.length (rcs R)] (fun _ => true) [] 0 (SlK' 50 2 idG R.length (rcs R) [] 0) := by
  refine fn_okG Try.func31 rfl (by show 1 ≤ _; decide) ?_
  simp (maxSteps := 1000000) -implicitDefEqProofs only [go_sem, seval, -List.reduceReplicate, Try.results31, Try.ntmps31]
  refine LoopOk.upX (fun i (x : AV × List Nat × Mem × Nat) => SlA 50 2 x.2.2.1 x.1 i (rcs (R.take i)) x.2.1 ∧ x.1 ≠ .ro i (rcs (R.take i)) ∧ Gr [] 0 x.2.2.1 x.2.2.2) R.length (fun i x => ([(4, .int .i64 (i : Nat)), (3, x.1), (0, .ro R.length (rcs R))], x.2.2.1, x.2.2.2)) (.nils, [], [], 0) ⟨.nil _ _ _, (fun e => by cases e), .refl List.nodup_nil (fun p hp => by cases hp)⟩ ?_ ?_
  · exact Le.sameT (Nat.zero_le _) ⟨rfl, rfl, rfl, trivial⟩ (memSame_slf List.nodup_nil) List.nodup_nil
  rintro i ⟨s, ns, m, nx⟩ ⟨hi, b1, b2, g⟩
  have b1 : SlA 50 2 m s i (rcs (R.take i)) ns := b1
  have b2 : s ≠ .ro i (rcs (R.take i)) := b2
  have g : Gr [] 0 m nx := g
  rcases Nat.lt_or_ge i R.length with h | h
  · have g1 : decide ((i : Int) < (R.length : Int)) = true := decide_eq_true (by omega)
    have w1 : IntKind.i64.wrap ((i : Int) + 1) = ((i + 1 : Nat) : Int) := by rw [wrap_i64] <;> omega
    obtain ⟨hg1, hg2⟩ := rcs_get R i [] h
    rw [List.append_nil] at hg1 hg2
    simp (maxSteps := 1000000) -implicitDefEqProofs only [go_sem, seval, -List.reduceReplicate, g1, w1]
    refine ⟨Fx.mixed, .inl ⟨[(0, false), (1, false), (2, false), (3, false), (4, false), (5, false), (6, false), (7, false), (8, false), (9, false), (10, false), (11, false), (12, true), (13, true), (14, false)], ns, by kernel_rfl, (fun j hj => ⟨rfl, by obtain ⟨o, ho⟩ := b1.live j hj; rw [ho]; rfl⟩), ?_⟩⟩
    have hz : zfill [AV.int .i64 0, AV.int .i64 0] 2 = [AV.int .i64 0, AV.int .i64 0] := rfl
    have hl := rcs_len R
    have hs : rcs (R.take (i + 1)) = rcs (R.take i) ++ [.int .i64 (R.getD i (0, 0)).1, .int .i64 (R.getD i (0, 0)).2] := by
      rw [List.take_add_one, List.getElem?_eq_getElem h, ← rcs_app, List.getD_eq_getElem?_getD, List.getElem?_eq_getElem h]; rfl
    simp (maxSteps := 1000000) -implicitDefEqProofs only [go_sem, seval, -List.reduceReplicate, hg1, hg2, w1, hz, byR50]
    refine ⟨by omega, by omega, by rw [List.length_drop]; omega, by omega, by omega, by rw [List.length_drop, List.length_drop]; omega, .inr trivial, ?_⟩
    refine ⟨rfl, rfl, ?_⟩
    have gc := Gr.cons g.nd g.lt (.cells [AV.int .i64 (R.getD i (0, 0)).1, AV.int .i64 (R.getD i (0, 0)).2] 50)
    refine appk_sl (j := 1) (Y := [AV.int .i64 (R.getD i (0, 0)).1, AV.int .i64 (R.getD i (0, 0)).2]) (b1.grow gc) b2 gc.nd gc.lt (fun j hj => by simp [wrD, hj]) rfl rfl (by decide) (by omega) ?_
    intro v' m' nx' ns' c1 c2 c3 c4 c5 c6 c7 c8
    rw [← hs] at c1 c2
    simp (maxSteps := 1000000) -implicitDefEqProofs only [go_sem, seval, -List.reduceReplicate, w1]
    exact UpX_normal h (v', ns', m', nx') ⟨c1, c2, ⟨Nat.zero_le _, c5, c6, fun k X e => by cases e⟩⟩ (Le.sameT (Nat.zero_le _) ⟨rfl, rfl, rfl, trivial⟩ (memSame_slf c5) c5)
  · have hik : i = R.length := by omega
    subst hik
    have g1 : decide ((R.length : Int) < (R.length : Int)) = false := decide_eq_false (by omega)
    simp (maxSteps := 1000000) -implicitDefEqProofs only [go_sem, seval, -List.reduceReplicate, g1]
    rw [List.take_length] at b1 b2
    exact Fin.bySl b1 b2 idG (fun _ _ => rfl)
/-- the reader: bytes, the place, an error -/
def rdO (b : List (BitVec 8)) (at_ bad : Int) : AObj := .cells [.ro b.length (bvs .u8 b), .int .i64 at_, .int .i64 bad] 129
/-- the reader is left so, and nothing else -/
def RdK (V : AV) (b : List (BitVec 8)) (at_ bad : Int) (m : Mem) (nx a : Nat) : Kv := fun v m' nx' => v = V ∧ m' = Eng.upd m a (rdO b at_ bad) ∧ nx' = nx
def wrB (is : Bool) (bad : Int) : Int := if is = true ∧ bad = 0 then 8 else bad
theorem wrongOk {m : Mem} {nx a : Nat} {b : List (BitVec 8)} {at_ bad : Int} (D : Rdm (fun _ => true) m nx) (h : Eng.look m a = some (rdO b at_ bad)) (is : Bool) :
    CallG false Try.prog 88 [.ptr a 0, .bool is] (fun _ => true) m nx (RdK (.tup []) b at_ (wrB is bad) m nx a) := by
  refine fn_okG Try.func88 rfl (by show 2 ≤ _; decide) ?_
  have h := h
  unfold rdO at h
  cases is with
  | false =>
    simp (maxSteps := 1000000) -implicitDefEqProofs only [go_sem, seval, -List.reduceReplicate, Try.results88, Try.ntmps88, h]
    have e : wrB false bad = bad := by rw [wrB, if_neg (fun e => by cases e.1)]
    rw [e]
    exact Fin.keepW (m0 := m) (Nat.le_refl _) (memSame_slf D.nd) D.nd D.kp ⟨rfl, by rw [rdO, upd_self h], rfl⟩
  | true =>
    by_cases hb : bad = 0
    · subst hb
      simp (maxSteps := 1000000) -implicitDefEqProofs only [go_sem, seval, -List.reduceReplicate, Try.results88, Try.ntmps88, h]
      have DU := D.upd a (rdO b at_ (wrB true 0))
      exact Fin.keepW (m0 := Eng.upd m a (rdO b at_ (wrB true 0))) (Nat.le_refl _) (memSame_slf DU.nd) DU.nd DU.kp ⟨rfl, rfl, rfl⟩
    · have g : (bad == 0) = false := by simpa using hb
      simp (maxSteps := 1000000) -implicitDefEqProofs only [go_sem, seval, -List.reduceReplicate, Try.results88, Try.ntmps88, h, g]
      have e : wrB true bad = bad := by rw [wrB, if_neg (fun e => hb e.2)]
      rw [e]
      exact Fin.keepW (m0 := m) (Nat.le_refl _) (memSame_slf D.nd) D.nd D.kp ⟨rfl, by rw [rdO, upd_self h], rfl⟩
end Go.Proofs.Ytmdeoikpiiambaa
end
section
/- An index: what a reader takes. BRIEF -/
set_option linter.unusedVariables false
set_option linter.unusedSimpArgs false
set_option maxRecDepth 100000
namespace Go.Proofs.Ytmdeoikpiiambaa
open Go Go.Eng

/-- the error behind taking so many bytes -/
def tkB (b : List (BitVec 8)) (at_ : Nat) (bad : Int) (n : Nat) : Int := if bad = 0 ∧ b.length < at_ + n then 2 else bad
def tkA (b : List (BitVec 8)) (at_ : Nat) (bad : Int) (n : Nat) : Nat := if tkB b at_ bad n = 0 then at_ + n else at_
def tkX (b : List (BitVec 8)) (at_ : Nat) (bad : Int) (n : Nat) : List (BitVec 8) := if tkB b at_ bad n = 0 then (b.drop at_).take n else List.replicate n 0
def TakeK (b : List (BitVec 8)) (at_ : Nat) (bad : Int) (n : Nat) (m : Mem) (nx a : Nat) : Kv := fun v m' nx' => ∃ ns, ByAt 5 m' v (tkX b at_ bad n) ns ∧ (∀ k ∈ ns, nx ≤ k) ∧ nx ≤ nx' ∧ (m'.map fun p => p.1).Nodup ∧ (∀ p ∈ m', p.1 < nx') ∧
  Eng.look m' a = some (rdO b ((tkA b at_ bad n : Nat) : Int) (tkB b at_ bad n)) ∧ ∀ k X, k ≠ a → Eng.look m k = some X → Eng.look m' k = some X
theorem tkZero {m : Mem} {nx a : Nat} {b : List (BitVec 8)} {at_ n : Nat} {bad : Int} (D : Rdm (fun _ => true) m nx) (hlt : ∀ p ∈ m, p.1 < nx) (h : Eng.look m a = some (rdO b (at_ : Int) bad)) (bad' : Int) (e : tkB b at_ bad n = bad') (hb : bad' ≠ 0) (hn : 1 ≤ n ∧ n ≤ 4) :
    Eng.Fin nx (fun _ => true) ((nx, .cells (List.replicate n (.int .u8 0)) 5) :: Eng.upd m a (rdO b (at_ : Int) bad')) (nx + 1) (TakeK b at_ bad n m nx a) (.sl nx 0 n n) := by
  have an : a < nx := by obtain ⟨p, hp, e⟩ := look_lt h; have := hlt p hp; omega
  have hl2 := upd_lt hlt a (rdO b (at_ : Int) bad')
  have DU := (D.upd a (rdO b (at_ : Int) bad')).cons hl2 (.cells (List.replicate n (.int .u8 0)) 5)
  refine Fin.keepW (m0 := (nx, .cells (List.replicate n (.int .u8 0)) 5) :: Eng.upd m a (rdO b (at_ : Int) bad')) (Nat.le_succ _) (memSame_slf DU.nd) DU.nd DU.kp ?_
  have hX : tkX b at_ bad n = List.replicate n 0 := by rw [tkX, e, if_neg hb]
  have hA : tkA b at_ bad n = at_ := by rw [tkA, e, if_neg hb]
  refine ⟨[nx], ?_, (fun k hk => by cases List.mem_singleton.1 hk; exact Nat.le_refl _), Nat.le_succ _, DU.nd, cons_lt hl2 _, ?_, fun k X hk hX => ?_⟩
  · rw [hX]
    exact .row (sp := []) (by rw [List.length_replicate]) (by rw [look_cons, if_pos rfl, bvs_zeros, List.append_nil]) (by rw [List.length_replicate, List.length_nil]; omega) (by show n ≤ 9223372036854775807; omega) rfl
  · rw [look_cons, if_neg (by omega), look_upd_same _ h, hA, e]
  · have : k < nx := by obtain ⟨p, hp, e⟩ := look_lt hX; have := hlt p hp; omega
    rw [look_cons, if_neg (by omega), look_upd_other _ (fun e => hk e.symm)]; exact hX
set_option maxHeartbeats 1000000 in
theorem takeOk {m : Mem} {nx a : Nat} {b : List (BitVec 8)} {at_ : Nat} {bad : Int} (D : Rdm (fun _ => true) m nx) (hlt : ∀ p ∈ m, p.1 < nx) (h : Eng.look m a = some (rdO b (at_ : Int) bad)) (n : Nat) (hn : 1 ≤ n ∧ n ≤ 4) (ha : at_ ≤ b.length) (hb : b.length ≤ 100000) :
    CallG false Try.prog 89 [.ptr a 0, .int .i64 n] (fun _ => true) m nx (TakeK b at_ bad n m nx a) := by
  refine fn_okG Try.func89 rfl (by show 2 ≤ _; decide) ?_
  have h' := h
  unfold rdO at h'
  have an : a < nx := by obtain ⟨p, hp, e⟩ := look_lt h; have := hlt p hp; omega
  have f1 : decide (nx ≤ a) = false := decide_eq_false (by omega)
  have w1 : IntKind.i64.wrap ((b.length : Int) - (at_ : Int)) = (b.length : Int) - (at_ : Int) := by rw [wrap_i64] <;> omega
  have w2 : IntKind.i64.wrap ((at_ : Int) + (n : Int)) = ((at_ + n : Nat) : Int) := by rw [wrap_i64] <;> omega
  have w3 : IntKind.i64.wrap (((at_ + n : Nat) : Int) - (n : Int)) = (at_ : Int) := by rw [wrap_i64] <;> omega
  by_cases hbad : bad = 0
  · subst hbad
    by_cases hs : b.length < at_ + n
    · have g1 : decide ((n : Int) > (b.length : Int) - (at_ : Int)) = true := decide_eq_true (by omega)
      have hu := look_upd_same (.cells [.ro b.length (bvs .u8 b), .int .i64 (at_ : Int), .int .i64 2] 129) h'
      simp (maxSteps := 1000000) -implicitDefEqProofs only [go_sem, seval, -List.reduceReplicate, Try.results89, Try.ntmps89]
      refine ⟨Fx.mixed, .inl ⟨[(0, false), (1, false), (2, false), (3, false), (4, false), (5, false), (6, false), (7, false), (8, false), (9, false), (10, false), (11, false), (12, false), (13, false), (14, false), (15, false), (16, false), (17, false), (18, false)], [], by kernel_rfl, (fun n hn => by cases hn), ?_⟩⟩
      simp (maxSteps := 1000000) -implicitDefEqProofs only [go_sem, seval, -List.reduceReplicate, h', f1, w1, g1, hu]
      refine ⟨⟨by omega, by omega⟩, ?_⟩
      have fin := tkZero (n := n) D hlt h 2 (by rw [tkB, if_pos ⟨rfl, hs⟩]) (by decide) hn
      rw [← bvs_zeros n] at fin
      exact fin
    · have g1 : decide ((n : Int) > (b.length : Int) - (at_ : Int)) = false := decide_eq_false (by omega)
      have hu := look_upd_same (.cells [.ro b.length (bvs .u8 b), .int .i64 ((at_ + n : Nat) : Int), .int .i64 0] 129) h'
      have DU := (D.upd a (rdO b ((at_ + n : Nat) : Int) 0)).drawn []
      simp (maxSteps := 1000000) -implicitDefEqProofs only [go_sem, seval, -List.reduceReplicate, Try.results89, Try.ntmps89]
      refine ⟨Fx.mixed, .inl ⟨[(0, false), (1, false), (2, false), (3, false), (4, false), (5, false), (6, false), (7, false), (8, false), (9, false), (10, false), (11, false), (12, false), (13, false), (14, false), (15, false), (16, false), (17, false), (18, false)], [], by kernel_rfl, (fun n hn => by cases hn), ?_⟩⟩
      simp (maxSteps := 1000000) -implicitDefEqProofs only [go_sem, seval, -List.reduceReplicate, h', f1, w1, g1, w2]
      refine ⟨Fx.mixed, .inl ⟨[(0, false), (1, false), (2, false), (3, false), (4, false), (5, false), (6, false), (7, false), (8, false), (9, false), (10, false), (11, false), (12, false), (13, false), (14, false), (15, false)], [], by kernel_rfl, (fun n hn => by cases hn), ?_⟩⟩
      simp (maxSteps := 1000000) -implicitDefEqProofs only [go_sem, seval, -List.reduceReplicate, hu, f1, w3]
      refine ⟨⟨by omega, by omega⟩, ?_⟩
      rw [Nat.add_sub_cancel_left]
      have DV := D.upd a (rdO b ((at_ + n : Nat) : Int) 0)
      have hB : tkB b at_ 0 n = 0 := by rw [tkB, if_neg (fun e => hs e.2)]
      have hl : ((b.drop at_).take n).length = n := by rw [List.length_take, List.length_drop]; omega
      refine Fin.keepW (m0 := Eng.upd m a (rdO b ((at_ + n : Nat) : Int) 0)) (Nat.le_refl _) (memSame_slf DV.nd) DV.nd DV.kp ?_
      refine ⟨[], .inr (.inl ⟨?_, rfl⟩), (fun k hk => by cases hk), Nat.le_refl _, DV.nd, upd_lt hlt a _, ?_, fun k X hk hX => ?_⟩
      · rw [tkX, if_pos hB, hl]
      · rw [look_upd_same _ h, tkA, if_pos hB, hB]
      · rw [look_upd_other _ (fun e => hk e.symm)]; exact hX
  · have g0 : (bad == 0) = false := by simpa using hbad
    have g0n : (bad != 0) = true := by simpa using hbad
    simp (maxSteps := 1000000) -implicitDefEqProofs only [go_sem, seval, -List.reduceReplicate, Try.results89, Try.ntmps89]
    refine ⟨Fx.mixed, .inl ⟨[(0, false), (1, false), (2, false), (3, false), (4, false), (5, false), (6, false), (7, false), (8, false), (9, false), (10, false), (11, false), (12, false), (13, false), (14, false), (15, false), (16, false), (17, false), (18, false)], [], by kernel_rfl, (fun n hn => by cases hn), ?_⟩⟩
    simp (maxSteps := 1000000) -implicitDefEqProofs only [go_sem, seval, -List.reduceReplicate, h', f1, g0, g0n]
    refine ⟨⟨by omega, by omega⟩, ?_⟩
    have fin := tkZero (n := n) D hlt h bad (by rw [tkB, if_neg (fun e => hbad e.1)]) (hbad) hn
    rw [upd_self h] at fin
    rw [← bvs_zeros n] at fin
    exact fin
end Go.Proofs.Ytmdeoikpiiambaa
end
section
/- An index: a number that a reader takes. BRIEF -/
set_option linter.unusedVariables false
set_option linter.unusedSimpArgs false
set_option maxRecDepth 100000
namespace Go.Proofs.Ytmdeoikpiiambaa
open Go Go.Eng

theorem gRes_cases (b : List (BitVec 8)) : ∀ f i, gRes b f i = (0#64, 0, 2) ∨ gRes b f i = (0#64, 0, 6) ∨ ∃ j, i ≤ j ∧ j < b.length ∧ j < i + f ∧ gRes b f i = (gN b (j + 1), (j : Int) + 1, 0)
  | 0, i => .inr (.inl rfl)
  | f + 1, i => by
    rw [gRes]
    by_cases h1 : b.length ≤ i
    · rw [if_pos h1]; exact .inl rfl
    rw [if_neg h1]
    by_cases h2 : (b.getD i 0).toNat < 128 ∧ (0 < (b.getD i 0).toNat ∨ i = 0)
    · rw [if_pos h2]; exact .inr (.inr ⟨i, Nat.le_refl _, by omega, by omega, rfl⟩)
    rw [if_neg h2]
    by_cases h3 : (b.getD i 0).toNat < 128 ∨ i = 8
    · rw [if_pos h3]; exact .inr (.inl rfl)
    rw [if_neg h3]
    rcases gRes_cases b f (i + 1) with h | h | ⟨j, a1, a2, a3, a4⟩
    · exact .inl h
    · exact .inr (.inl h)
    · exact .inr (.inr ⟨j, by omega, a2, by omega, a4⟩)
theorem gRes_fine (b : List (BitVec 8)) : (gRes b 9 0).1.toNat < 9223372036854775808 ∧ 0 ≤ (gRes b 9 0).2.1 ∧ (gRes b 9 0).2.1 ≤ b.length ∧ ((gRes b 9 0).2.2 = 0 ∨ (gRes b 9 0).2.2 = 2 ∨ (gRes b 9 0).2.2 = 6) := by
  rcases gRes_cases b 9 0 with h | h | ⟨j, a1, a2, a3, a4⟩
  · rw [h]; exact ⟨by decide, by show (0 : Int) ≤ 0; decide, by show (0 : Int) ≤ _; omega, .inr (.inl rfl)⟩
  · rw [h]; exact ⟨by decide, by show (0 : Int) ≤ 0; decide, by show (0 : Int) ≤ _; omega, .inr (.inr rfl)⟩
  · rw [a4]
    have h9 := (gN_nat b (j + 1) (by omega)).1
    refine ⟨?_, by show (0 : Int) ≤ (j : Int) + 1; omega, by show (j : Int) + 1 ≤ _; omega, .inl rfl⟩
    show (gN b (j + 1)).toNat < _
    have : 128 ^ (j + 1) ≤ 128 ^ 9 := Nat.pow_le_pow_right (by decide) (by omega)
    have e9 : 128 ^ 9 = 9223372036854775808 := by decide
    omega
/-- the number, the place and the error behind it -/
def nuR (b : List (BitVec 8)) (at_ : Nat) : BitVec 64 × Int × Int := gRes (b.drop at_) 9 0
def nuB (b : List (BitVec 8)) (at_ : Nat) (bad : Int) : Int := if bad = 0 then (if (nuR b at_).2.2 = 2 then 2 else if (nuR b at_).2.2 = 0 then 0 else 8) else bad
def nuA (b : List (BitVec 8)) (at_ : Nat) (bad : Int) : Nat := if bad = 0 then at_ + (nuR b at_).2.1.toNat else at_
def nuV (b : List (BitVec 8)) (at_ : Nat) (bad : Int) : Int := if bad = 0 then ((nuR b at_).1.toNat : Int) else 0
set_option maxHeartbeats 1000000 in
theorem numberOk {m : Mem} {nx a : Nat} {b : List (BitVec 8)} {at_ : Nat} {bad : Int} (D : Rdm (fun _ => true) m nx) (hlt : ∀ p ∈ m, p.1 < nx) (h : Eng.look m a = some (rdO b (at_ : Int) bad)) (ha : at_ ≤ b.length) (hb : b.length ≤ 100000) :
    CallG false Try.prog 90 [.ptr a 0] (fun _ => true) m nx (RdK (.int .i64 (nuV b at_ bad)) b ((nuA b at_ bad : Nat) : Int) (nuB b at_ bad) m nx a) := by
  refine fn_okG Try.func90 rfl (by show 1 ≤ _; decide) ?_
  have h' := h
  unfold rdO at h'
  have an : a < nx := by obtain ⟨p, hp, e⟩ := look_lt h; have := hlt p hp; omega
  have f1 : decide (nx ≤ a) = false := decide_eq_false (by omega)
  by_cases hbad : bad = 0
  rotate_left
  · have g0 : (bad != 0) = true := by simpa using hbad
    simp (maxSteps := 1000000) -implicitDefEqProofs only [go_sem, seval, -List.reduceReplicate, Try.results90, Try.ntmps90, h', g0]
    refine Fin.keepW (m0 := m) (Nat.le_refl _) (memSame_slf D.nd) D.nd D.kp ?_
    rw [nuV, nuA, nuB, if_neg hbad, if_neg hbad, if_neg hbad]
    exact ⟨rfl, by rw [upd_self h], rfl⟩
  subst hbad
  have hl : (b.drop at_).length = b.length - at_ := List.length_drop ..
  have ht : List.take (b.length - at_) (b.drop at_) = b.drop at_ := List.take_of_length_le (by omega)
  obtain ⟨r1, r2, r3, r4⟩ := gRes_fine (b.drop at_)
  obtain ⟨N, k, e, hr⟩ : ∃ N k e, gRes (b.drop at_) 9 0 = (N, k, e) := ⟨_, _, _, rfl⟩
  have hG := vgetOk (b.drop at_) (by omega)
  rw [hr] at r1 r2 r3 r4 hG
  have r1 : N.toNat < 9223372036854775808 := r1
  have r2 : 0 ≤ k := r2
  have r3 : k ≤ ((b.drop at_).length : Int) := r3
  have r4 : e = 0 ∨ e = 2 ∨ e = 6 := r4
  have w1 : IntKind.i64.wrap ((at_ : Int) + k) = ((at_ + k.toNat : Nat) : Int) := by rw [wrap_i64] <;> omega
  have w2 : IntKind.i64.wrap (N.toNat : Int) = (N.toNat : Int) := by rw [wrap_i64] <;> omega
  have hV : nuV b at_ 0 = (N.toNat : Int) := by rw [nuV, if_pos rfl, nuR, hr]
  have hA : nuA b at_ 0 = at_ + k.toNat := by rw [nuA, if_pos rfl, nuR, hr]
  have hB : nuB b at_ 0 = if e = 2 then 2 else if e = 0 then 0 else 8 := by rw [nuB, if_pos rfl, nuR, hr]
  rw [hV, hA, hB]
  simp (maxSteps := 1000000) -implicitDefEqProofs only [go_sem, seval, -List.reduceReplicate, Try.results90, Try.ntmps90, h']
  refine ⟨Fx.mixed, .inl ⟨[(0, false), (1, false), (2, false), (3, false), (4, false), (5, false), (6, false), (7, false), (8, false), (9, true), (10, false), (11, false), (12, false), (13, false), (14, false), (15, false), (16, false)], [], by kernel_rfl, (fun n hn => by cases hn), ?_⟩⟩
  simp (maxSteps := 1000000) -implicitDefEqProofs only [go_sem, seval, -List.reduceReplicate, h', f1]
  refine ⟨⟨by omega, Int.le_refl _⟩, ?_⟩
  rw [ht]
  refine hG.flat0 ⟨argx_roX hl.symm, trivial⟩ (fun _ => rfl) rfl ?_
  rcases r4 with rfl | rfl | rfl
  · simp (maxSteps := 1000000) -implicitDefEqProofs only [go_sem, seval, -List.reduceReplicate, gRet]
    have hW := wrongOk D h false
    have h2 := look_upd_same (rdO b (at_ : Int) (wrB false 0)) h
    refine hW.weak ?_
    rintro v m3 nx3 ⟨rfl, rfl, rfl⟩
    have eW : wrB false 0 = 0 := rfl
    rw [eW] at h2 ⊢
    unfold rdO at h2
    simp (maxSteps := 1000000) -implicitDefEqProofs only [go_sem, seval, -List.reduceReplicate, rdO, h2, w1, w2]
    have DF := D.upd a (rdO b ((at_ + k.toNat : Nat) : Int) 0)
    refine Fin.keepW (m0 := Eng.upd m a (rdO b ((at_ + k.toNat : Nat) : Int) 0)) (Nat.le_refl _) (memSame_all fun p hp => ?_) DF.nd DF.kp ⟨rfl, rfl, rfl⟩
    have := look_mem DF.nd hp
    rw [← this]
    simp only [upd_upd, rdO]
  · simp (maxSteps := 1000000) -implicitDefEqProofs only [go_sem, seval, -List.reduceReplicate, gRet, h']
    have h1 : Eng.look (Eng.upd m a (rdO b (at_ : Int) 2)) a = some (rdO b (at_ : Int) 2) := look_upd_same _ h
    have D1 := D.upd a (rdO b (at_ : Int) 2)
    have hW := wrongOk D1 h1 true
    unfold rdO at h1
    have h2 := look_upd_same (rdO b (at_ : Int) (wrB true 2)) (look_upd_same (rdO b (at_ : Int) 2) h)
    refine hW.weak ?_
    rintro v m3 nx3 ⟨rfl, rfl, rfl⟩
    have eW : wrB true 2 = 2 := rfl
    rw [eW] at h2 ⊢
    unfold rdO at h2
    simp (maxSteps := 1000000) -implicitDefEqProofs only [go_sem, seval, -List.reduceReplicate, rdO, h2, w1, w2]
    have DF := D.upd a (rdO b ((at_ + k.toNat : Nat) : Int) 2)
    refine Fin.keepW (m0 := Eng.upd m a (rdO b ((at_ + k.toNat : Nat) : Int) 2)) (Nat.le_refl _) (memSame_all fun p hp => ?_) DF.nd DF.kp ⟨rfl, rfl, rfl⟩
    have := look_mem DF.nd hp
    rw [← this]
    simp only [upd_upd, rdO]
  · simp (maxSteps := 1000000) -implicitDefEqProofs only [go_sem, seval, -List.reduceReplicate, gRet]
    have hW := wrongOk D h true
    have h2 := look_upd_same (rdO b (at_ : Int) (wrB true 0)) h
    refine hW.weak ?_
    rintro v m3 nx3 ⟨rfl, rfl, rfl⟩
    have eW : wrB true 0 = 8 := rfl
    rw [eW] at h2 ⊢
    unfold rdO at h2
    simp (maxSteps := 1000000) -implicitDefEqProofs only [go_sem, seval, -List.reduceReplicate, rdO, h2, w1, w2]
    have DF := D.upd a (rdO b ((at_ + k.toNat : Nat) : Int) 8)
    refine Fin.keepW (m0 := Eng.upd m a (rdO b ((at_ + k.toNat : Nat) : Int) 8)) (Nat.le_refl _) (memSame_all fun p hp => ?_) DF.nd DF.kp ⟨rfl, rfl, rfl⟩
    have := look_mem DF.nd hp
    rw [← this]
    simp only [upd_upd, rdO]
end Go.Proofs.Ytmdeoikpiiambaa
end
section
/- An index: numbers that are put. BRIEF -/
set_option linter.unusedVariables false
set_option linter.unusedSimpArgs false
set_option maxRecDepth 100000
namespace Go.Proofs.Ytmdeoikpiiambaa
open Go Go.Eng

/-- a cell that holds bytes -/
def OutAt (m : Mem) (a : Nat) (X : List (BitVec 8)) (ns : List Nat) : Prop := ∃ v, Eng.look m a = some (.cells [v] 22) ∧ ByAt 5 m v X ns ∧ v ≠ .ro X.length (bvs .u8 X) ∧ a ∉ ns
theorem OutAt.grow {m m' : Mem} {nx nx' a : Nat} {X : List (BitVec 8)} {ns : List Nat} (h : OutAt m a X ns) (g : Gr m nx m' nx') : OutAt m' a X ns := by
  obtain ⟨v, h1, h2, h3, h4⟩ := h
  exact ⟨v, g.kp _ _ h1, h2.grow g, h3, h4⟩
theorem OutAt.lt {m : Mem} {nx a : Nat} {X : List (BitVec 8)} {ns : List Nat} (h : OutAt m a X ns) (lt : ∀ p ∈ m, p.1 < nx) : ∀ k ∈ ns, k < nx := by
  obtain ⟨v, h1, h2, h3, h4⟩ := h
  exact h2.lt lt
theorem OutAt.clt {m : Mem} {nx a : Nat} {X : List (BitVec 8)} {ns : List Nat} (h : OutAt m a X ns) (lt : ∀ p ∈ m, p.1 < nx) : a < nx := by
  obtain ⟨v, h1, _⟩ := h
  obtain ⟨p, hp, rfl⟩ := look_lt h1
  exact lt p hp
def numX (n : Int) : List (BitVec 8) := putX (BitVec.ofInt 64 n)
theorem numX_len (n : Int) : (numX n).length ≤ 10 := by rw [numX, putX, List.length_map]; exact digs_len 10 _
def PutNK (m : Mem) (nx a : Nat) (X : List (BitVec 8)) (ns : List Nat) : Kv := fun v m' nx' => v = .tup [] ∧ nx ≤ nx' ∧ (m'.map fun p => p.1).Nodup ∧ (∀ p ∈ m', p.1 < nx') ∧ (∃ ns', OutAt m' a X ns' ∧ ∀ k ∈ ns', k ∈ ns ∨ nx ≤ k) ∧ ∀ k o, k ≠ a → k ∉ ns → Eng.look m k = some o → Eng.look m' k = some o
set_option maxHeartbeats 1000000 in
theorem putNOk {m : Mem} {nx a : Nat} {X : List (BitVec 8)} {ns : List Nat} (nd : (m.map fun p => p.1).Nodup) (lt : ∀ p ∈ m, p.1 < nx) (h : OutAt m a X ns) (n : Int) (hn : 0 ≤ n) (hn2 : n < 9223372036854775808) (hl : X.length ≤ 10000000) :
    CallG false Try.prog 85 [.int .i64 n, .ptr a 0] (fun _ => true) m nx (PutNK m nx a (X ++ numX n) ns) := by
  refine fn_okG Try.func85 rfl (by show 2 ≤ _; decide) ?_
  have w1 : IntKind.u64.wrap n = (((BitVec.ofInt 64 n).toNat : Nat) : Int) := wrapbv64 n
  have hb : (BitVec.ofInt 64 n).toNat < 9223372036854775808 := by rw [BitVec.toNat_ofInt]; omega
  obtain ⟨v, h1, h2, h3, h4⟩ := h
  have han : a < nx := by obtain ⟨p, hp, e⟩ := look_lt h1; have := lt p hp; omega
  simp (maxSteps := 1000000) -implicitDefEqProofs only [go_sem, seval, -List.reduceReplicate, Try.results85, Try.ntmps85, w1]
  refine byT (vputBy _ hb) nd lt ⟨rfl, trivial⟩ ?_
  intro s1 m1 nx1 ns1 b1 b2 b3 g1
  have hs := b1.src
  simp only [srcx, Nat.mul_one] at hs
  have h1' := g1.kp _ _ h1
  simp (maxSteps := 1000000) -implicitDefEqProofs only [go_sem, seval, -List.reduceReplicate, h1', hs, one1_bvs]
  refine appk_by (h2.grow g1) h3 g1.nd (fun _ _ => rfl) g1.lt (fun _ _ => rfl) (by have := numX_len n; unfold numX at this; omega) ?_
  intro v' m3 nx3 ns3 c1 c2 c3 c4 c5 c6 c7 c8
  have ha3 := c7 a _ h4 h1'
  obtain ⟨q1, q2, q3, q4, q5⟩ := c1.facts
  simp (maxSteps := 1000000) -implicitDefEqProofs only [go_sem, seval, -List.reduceReplicate, ha3, q1, q2, q3, q4, q5]
  have DU := (rdmT (nx := nx3) c5).upd a (.cells [v'] 22)
  have hn3 : nx ≤ nx3 := Nat.le_trans g1.le c3
  refine Fin.keepW (m0 := Eng.upd m3 a (.cells [v'] 22)) hn3 (memSame_slf DU.nd) DU.nd DU.kp ⟨rfl, hn3, DU.nd, upd_lt c6 a _, ⟨ns3, ⟨v', look_upd_same _ ha3, c1.ext fun k hk o ho => ?_, c2, fun hm => ?_⟩, fun k hk => ?_⟩, fun k o hk hns ho => ?_⟩
  · have hka : a ≠ k := fun e => by
      subst e
      rcases c4 a hk with h | h
      · exact h4 h
      · have := g1.le; omega
    rw [look_upd_other _ hka]; exact ho
  · rcases c4 a hm with h | h
    · exact h4 h
    · have := g1.le; omega
  · rcases c4 k hk with h | h
    · exact .inl h
    · exact .inr (by have := g1.le; omega)
  · rw [look_upd_other _ (fun e => hk e.symm)]
    exact c7 k o hns (g1.kp _ _ ho)
/-- records' bytes, without what stands ahead and behind -/
def recB : List (Int × Int) → List (BitVec 8)
  | [] => []
  | r :: t => numX r.1 ++ (numX r.2 ++ recB t)
theorem recB_app (R T : List (Int × Int)) : recB (R ++ T) = recB R ++ recB T := by
  induction R with
  | nil => rfl
  | cons r t ih => show numX r.1 ++ (numX r.2 ++ recB (t ++ T)) = _; rw [ih]; simp only [recB, List.append_assoc]
theorem recB_len (R : List (Int × Int)) : (recB R).length ≤ 20 * R.length := by
  induction R with
  | nil => exact Nat.le_refl _
  | cons r t ih =>
    rw [recB, List.length_append, List.length_append, List.length_cons]
    have := numX_len r.1
    have := numX_len r.2
    omega
def idxA (R : List (Int × Int)) : List (BitVec 8) := [0#8] ++ numX (R.length : Nat) ++ recB R
def padN (k : Nat) : Nat := (4 - k % 4) % 4
def idxB (R : List (Int × Int)) : List (BitVec 8) := idxA R ++ List.replicate (padN (idxA R).length) 0
/-- an index of records that may be -/
def idxX (R : List (Int × Int)) : List (BitVec 8) := idxB R ++ chk 1 (idxB R)
theorem pad_and (k : Nat) (hk : k ≤ 1000000) : bitsI .and .i64 (IntKind.i64.wrap (0 - (k : Int))) 3 = ((padN k : Nat) : Int) := by
  have h1 : IntKind.i64.wrap (0 - (k : Int)) = -(k : Int) := by rw [wrap_i64] <;> omega
  rw [h1]
  show IntKind.i64.wrap (((BitVec.ofInt 64 (-(k : Int)) &&& BitVec.ofInt 64 3).toNat : Nat) : Int) = _
  have h3 : (BitVec.ofInt 64 3).toNat = 2 ^ 2 - 1 := rfl
  rw [BitVec.toNat_and, h3, Nat.and_two_pow_sub_one_eq_mod, BitVec.toNat_ofInt]
  unfold padN
  rw [wrap_i64] <;> omega
theorem rcs_take (R : List (Int × Int)) : ∀ (i : Nat), i < R.length → List.take 2 (List.drop (i * 2) (rcs R)) = [AV.int .i64 (R.getD i (0, 0)).1, AV.int .i64 (R.getD i (0, 0)).2] := by
  induction R with
  | nil => intro i h; cases h
  | cons r t ih =>
    intro i h
    cases i with
    | zero => rfl
    | succ i =>
      rw [show (i + 1) * 2 = i * 2 + 1 + 1 by omega]
      exact ih i (by rw [List.length_cons] at h; omega)
set_option maxHeartbeats 2000000 in
theorem putOk (R : List (Int × Int)) (hR : R.length ≤ 1000) (hi : ∀ r ∈ R, fitB r = true ∧ r.2 < 9223372036854775808) : CallG false Try.prog 30 [.ro R.length (rcs R)] (fun _ => true) [] 0 (ByK 5 okT (idxX R) [] 0) := by
  refine fn_okG Try.func30 rfl (by show 1 ≤ _; decide) ?_
  simp (maxSteps := 1000000) -implicitDefEqProofs only [go_sem, seval, -List.reduceReplicate, Try.results30, Try.ntmps30]
  refine ⟨.inr trivial, ?_⟩
  change CallG false _ _ _ _ [(1, .cells [AV.sl 0 0 1 1] 22), (0, .cells (bvs .u8 [0#8]) 5)] 2 _
  obtain ⟨M, hM⟩ : ∃ M : Mem, M = [(1, .cells [AV.sl 0 0 1 1] 22), (0, .cells (bvs .u8 [0#8]) 5)] := ⟨_, rfl⟩
  rw [← hM]
  have nd : (M.map fun p => p.1).Nodup := by rw [hM]; simp
  have lt : ∀ p ∈ M, p.1 < 2 := by
    intro p hp
    rw [hM] at hp
    simp only [List.mem_cons, List.not_mem_nil, or_false] at hp
    rcases hp with rfl | rfl <;> (show (_ : Nat) < 2; omega)
  have o0 : OutAt M 1 [0#8] [0] := ⟨.sl 0 0 1 1, by rw [hM]; rfl, .row (X := [0#8]) (sp := []) rfl (by rw [hM, List.append_nil]; rfl) rfl (by decide) rfl, (fun e => by cases e), by decide⟩
  refine (putNOk nd lt o0 (R.length : Nat) (by omega) (by omega) (by show 1 ≤ _; decide)).weak ?_
  rintro v m1 nx1 ⟨rfl, l1, nd1, lt1, ⟨ns1, o1, k1⟩, _⟩
  simp (maxSteps := 1000000) -implicitDefEqProofs only [go_sem, seval, -List.reduceReplicate]
  have hrl := recB_len R
  have hnl := numX_len (R.length : Nat)
  refine LoopOk.upX (fun i (x : List Nat × Mem × Nat) => OutAt x.2.1 1 ([0#8] ++ numX (R.length : Nat) ++ recB (R.take i)) x.1 ∧ (x.2.1.map fun p => p.1).Nodup ∧ ∀ p ∈ x.2.1, p.1 < x.2.2) R.length (fun i x => ([(16, .int .i64 (i : Nat)), (15, .int .i64 (R.length : Nat)), (14, .ro R.length (rcs R)), (5, .fn (.func 85) [] [.ptr 1 0]), (4, .ptr 1 0)], x.2.1, x.2.2)) (ns1, m1, nx1) ⟨by rw [List.take_zero, recB, List.append_nil]; exact o1, nd1, lt1⟩ ?_ ?_
  · exact Le.sameT (Nat.zero_le _) ⟨rfl, rfl, rfl, rfl, rfl, trivial⟩ (memSame_slf nd1) nd1
  rintro i ⟨ns, m, nx⟩ ⟨hi', o1, nd1, lt1⟩
  have o1 : OutAt m 1 ([0#8] ++ numX (R.length : Nat) ++ recB (R.take i)) ns := o1
  have nd1 : (m.map fun p => p.1).Nodup := nd1
  have lt1 : ∀ p ∈ m, p.1 < nx := lt1
  have hll : ([0#8] ++ numX (R.length : Nat) ++ recB (R.take i)).length ≤ 50000 := by
    have := recB_len (R.take i)
    rw [List.length_append, List.length_append]
    rw [List.length_take] at this
    show 1 + _ + _ ≤ _
    omega
  rcases Nat.lt_or_ge i R.length with h | h
  · have g1 : decide ((i : Int) < (R.length : Int)) = true := decide_eq_true (by omega)
    have w1 : IntKind.i64.wrap ((i : Int) + 1) = ((i + 1 : Nat) : Int) := by rw [wrap_i64] <;> omega
    obtain ⟨r, hr⟩ : ∃ r, r = R.getD i (0, 0) := ⟨_, rfl⟩
    have hrm : r ∈ R := by rw [hr, List.getD_eq_getElem?_getD, List.getElem?_eq_getElem h]; exact List.getElem_mem h
    obtain ⟨hff, hf2⟩ := hi r hrm
    have hf := hff
    have hs : R.take (i + 1) = R.take i ++ [r] := by rw [List.take_add_one, List.getElem?_eq_getElem h, hr, List.getD_eq_getElem?_getD, List.getElem?_eq_getElem h]; rfl
    have hg := rcs_take R i h
    rw [← hr] at hg
    have hl := rcs_len R
    have hsp : spl [AV.int .i64 0, AV.int .i64 0] 0 [AV.int .i64 r.1, AV.int .i64 r.2] = [AV.int .i64 r.1, AV.int .i64 r.2] := rfl
    have ht2 : List.take 2 [AV.int .i64 r.1, AV.int .i64 r.2] = [AV.int .i64 r.1, AV.int .i64 r.2] := rfl
    simp (maxSteps := 1000000) -implicitDefEqProofs only [go_sem, seval, -List.reduceReplicate, g1, hg, hsp, ht2]
    refine ⟨by omega, by omega, by rw [List.length_drop]; omega, ?_⟩
    refine (fitsOk r).flat0 ⟨rfl, trivial⟩ (fun _ => rfl) rfl ?_
    have gc := Gr.cons nd1 lt1 (.cells [AV.int .i64 r.1, AV.int .i64 r.2] 126)
    unfold fitB at hf
    simp only [Bool.and_eq_true, decide_eq_true_eq] at hf
    simp (maxSteps := 1000000) -implicitDefEqProofs only [go_sem, seval, -List.reduceReplicate, hff, hg, hsp, ht2]
    have nsl := o1.lt lt1
    refine (putNOk gc.nd gc.lt (o1.grow gc) r.1 (by omega) (by omega) (by omega)).weak ?_
    rintro v2 m2 nx2 ⟨rfl, l2, nd2, lt2, ⟨ns2, o2, k2⟩, kp2⟩
    have hc2 := kp2 nx _ (by have := o1.clt lt1; omega) (fun hm => by have := nsl nx hm; omega) (by rw [look_cons, if_pos rfl])
    simp (maxSteps := 1000000) -implicitDefEqProofs only [go_sem, seval, -List.reduceReplicate, hc2]
    refine (putNOk nd2 lt2 o2 r.2 (by omega) (by omega) (by rw [List.length_append]; have := numX_len r.1; omega)).weak ?_
    rintro v3 m3 nx3 ⟨rfl, l3, nd3, lt3, ⟨ns3, o3, k3⟩, kp3⟩
    simp (maxSteps := 1000000) -implicitDefEqProofs only [go_sem, seval, -List.reduceReplicate, w1]
    have e3 : [0#8] ++ numX (R.length : Nat) ++ recB (R.take i) ++ numX r.1 ++ numX r.2 = [0#8] ++ numX (R.length : Nat) ++ recB (R.take (i + 1)) := by
      rw [hs, recB_app]
      simp only [recB, List.append_nil, List.append_assoc]
    rw [e3] at o3
    exact UpX_normal h (ns3, m3, nx3) ⟨o3, nd3, lt3⟩ (Le.sameT (Nat.zero_le _) ⟨rfl, rfl, rfl, rfl, rfl, trivial⟩ (memSame_slf nd3) nd3)
  · have hiR : i = R.length := by omega
    subst hiR
    have g1 : decide ((R.length : Int) < (R.length : Int)) = false := decide_eq_false (by omega)
    rw [List.take_length] at o1 hll
    obtain ⟨X, hX⟩ : ∃ X, X = idxA R := ⟨_, rfl⟩
    have o1 : OutAt m 1 X ns := by rw [hX]; exact o1
    have hll : X.length ≤ 50000 := by rw [hX]; exact hll
    have hX0 : X ≠ [] := by rw [hX]; exact fun e => by cases e
    obtain ⟨v, h1, h2, h3, h4⟩ := o1
    obtain ⟨q1, q2, q3, q4, q5⟩ := h2.facts
    have q6 := h2.len Try.prog 22
    have hp := pad_and X.length (by omega)
    simp (maxSteps := 1000000) -implicitDefEqProofs only [go_sem, seval, -List.reduceReplicate, g1, h1, q1, q2, q3, q4, q5, q6, hp]
    refine appz_by h2 h3 hX0 nd1 lt1 (fun _ _ => rfl) (by unfold padN; omega) (q := .i64) (by kernel_rfl) (by kernel_rfl) (by kernel_rfl) (by kernel_rfl) (by kernel_rfl) ?_
    intro v2 m2 nx2 ns2 c1 c2 c3 c4 c5 c6 c7 c8
    have ha2 := c7 1 _ h4 h1
    obtain ⟨r1, r2, r3, r4, r5⟩ := c1.facts
    simp (maxSteps := 1000000) -implicitDefEqProofs only [go_sem, seval, -List.reduceReplicate, ha2, r1, r2, r3, r4, r5]
    have n1 : 1 ∉ ns2 := fun hm => by
      rcases c4 1 hm with hh | hh
      · exact h4 hh
      · obtain ⟨p, hp, e⟩ := look_lt h1; have := lt1 p hp; omega
    have hB : X ++ List.replicate (padN X.length) 0 = idxB R := by rw [hX]; rfl
    rw [hB] at c1 c2
    obtain ⟨M3, hM3⟩ : ∃ M3 : Mem, M3 = Eng.upd m2 1 (.cells [v2] 22) := ⟨_, rfl⟩
    rw [← hM3]
    have DU := (rdmT (nx := nx2) c5).upd 1 (.cells [v2] 22)
    have lt3 := upd_lt c6 1 (.cells [v2] 22)
    have hl3 : Eng.look M3 1 = some (.cells [v2] 22) := by rw [hM3]; exact look_upd_same _ ha2
    rw [← hM3] at DU lt3
    have d1 : ByAt 5 M3 v2 (idxB R) ns2 := c1.ext fun k hk o ho => by
      rw [hM3, look_upd_other _ (fun e => n1 (by rw [e]; exact hk))]; exact ho
    have hBl : (idxB R).length ≤ 60000 := by
      have e : (idxB R).length = X.length + padN X.length := by rw [← hB, List.length_append, List.length_replicate]
      rw [e]; unfold padN; omega
    have f1 : decide (nx2 ≤ 1) = false := by
      obtain ⟨p, hp, e⟩ := look_lt hl3; have := lt3 p hp; exact decide_eq_false (by omega)
    have f2 : ns2.contains 1 = false := by
      cases hcn : ns2.contains 1 with
      | false => rfl
      | true => exact absurd (List.contains_iff_mem.1 hcn) n1
    refine ⟨Fx.mixed, .inl ⟨[(0, false), (1, false), (2, true), (3, true), (4, false), (5, false)], ns2, by kernel_rfl, (fun j hj => ⟨rfl, by obtain ⟨o, ho⟩ := d1.live j hj; rw [ho]; rfl⟩), ?_⟩⟩
    simp (maxSteps := 1000000) -implicitDefEqProofs only [go_sem, seval, -List.reduceReplicate, hl3, f1, f2, r1, r2, r3, r4]
    refine CallG.byK (sumOk 1 (idxB R) (by omega)) rfl DU.nd lt3 ⟨rfl, d1.arg, trivial⟩ ?_
    intro v4 m4 nx4 ns4 e1 e2 e3 g4
    have hs4 := e1.src
    simp only [srcx, Nat.mul_one] at hs4
    simp (maxSteps := 1000000) -implicitDefEqProofs only [go_sem, seval, -List.reduceReplicate, hs4, one1_bvs]
    refine appk_by (d1.grow g4) c2 g4.nd (fun n hn => by have := g4.le; simp [wrD]; omega) g4.lt (fun k hk => by simp [wrD, hk]) (by have : (chk 1 (idxB R)).length = 4 := lowS_len _ _; omega) ?_
    intro v5 m5 nx5 ns5 i1 i2 i3 i4 i5 i6 i7 i8
    simp (maxSteps := 1000000) -implicitDefEqProofs only [go_sem, seval, -List.reduceReplicate]
    exact Fin.by (X := idxX R) i1 i2 okT (fun _ _ => rfl)
end Go.Proofs.Ytmdeoikpiiambaa
end
section
/- An index: records' bytes, by the document. BRIEF -/
set_option linter.unusedVariables false
set_option linter.unusedSimpArgs false
set_option maxRecDepth 100000
namespace Go.Proofs.Ytmdeoikpiiambaa
open Go Go.Eng

theorem rputBy (m : BitVec 64) (hm : m.toNat < 9223372036854775808) : CallG false Try.prog 91 [.int .u64 (m.toNat : Int)] (fun _ => true) [] 0 (ByK 5 idG (putX m) [] 0) := by
  have h9 : m.toNat < 128 ^ 9 := hm
  have hR := rputOk 10 m (by decide) (by decide) (Nat.lt_of_lt_of_le h9 (by decide))
  rw [rput_eq, ← putX] at hR
  refine hR.weak ?_
  rintro v m' nx ⟨cap, sp, h1, h2, rfl, rfl, rfl⟩
  refine ⟨_, [0], rfl, .row (sp := sp.map AV.val) rfl (by rw [look_cons, if_pos rfl]; rfl) (by rw [List.length_map]; exact h1) h2 (val_pln _), (fun e => by cases e), fun k hk => Nat.zero_le _, ⟨Nat.zero_le _, by simp, (fun p hp => by cases List.mem_singleton.1 hp; exact Nat.zero_lt_one), fun _ _ h => by cases h⟩, fun _ => ?_⟩
  show noRoM [(0, rowO (putX m) sp)] = true
  simp only [rowO, noRoM, noRoO, noRoL_append, bvs_noRo, plnL_noRo (val_pln sp), Bool.and_self]
theorem rcs_at2 (R : List (Int × Int)) : ∀ (i : Nat), i < R.length → (rcs R).getD (i * 2) (AV.int .i64 0) = AV.int .i64 (R.getD i (0, 0)).1 ∧ (rcs R).getD (i * 2 + 1) (AV.int .i64 0) = AV.int .i64 (R.getD i (0, 0)).2 := by
  induction R with
  | nil => intro i h; cases h
  | cons r t ih =>
    intro i h
    cases i with
    | zero => exact ⟨rfl, rfl⟩
    | succ i =>
      rw [show (i + 1) * 2 = i * 2 + 1 + 1 by omega]
      exact ih i (by rw [List.length_cons] at h; omega)
def preX (R : List (Int × Int)) (i : Nat) : List (BitVec 8) := [0#8] ++ numX (R.length : Nat) ++ recB (R.take i)
def zrs (X : List (BitVec 8)) (j : Nat) : List (BitVec 8) := X ++ List.replicate j 0#8
def ByN (m : Mem) (nx : Nat) (v : AV) (X : List (BitVec 8)) (ns : List Nat) : Prop := ByAt 5 m v X ns ∧ v ≠ .ro X.length (bvs .u8 X) ∧ (m.map fun p => p.1).Nodup ∧ ∀ p ∈ m, p.1 < nx
set_option maxHeartbeats 2000000 in
theorem putROk (R : List (Int × Int)) (hR : R.length ≤ 1000) (hi : ∀ r ∈ R, fitB r = true ∧ r.2 < 9223372036854775808) : CallG false Try.prog 34 [.ro R.length (rcs R)] (fun _ => true) [] 0 (ByK 5 idG (idxX R) [] 0) := by
  refine fn_okG Try.func34 rfl (by show 1 ≤ _; decide) ?_
  have bn : ∀ n : Int, 0 ≤ n → n < 9223372036854775808 → (BitVec.ofInt 64 n).toNat < 9223372036854775808 := fun n h1 h2 => by rw [BitVec.toNat_ofInt]; omega
  have w0 : IntKind.u64.wrap ((R.length : Nat) : Int) = (((BitVec.ofInt 64 ((R.length : Nat) : Int)).toNat : Nat) : Int) := wrapbv64 _
  simp (maxSteps := 1000000) -implicitDefEqProofs only [go_sem, seval, -List.reduceReplicate, Try.results34, Try.ntmps34, w0]
  have hb := bn (R.length : Nat) (by omega) (by omega)
  have hN : putX (BitVec.ofNat 64 R.length) = numX (R.length : Nat) := by rw [numX, BitVec.ofInt_natCast]
  rw [BitVec.ofInt_natCast] at hb
  refine ⟨.inr trivial, ?_⟩
  change CallG false _ _ _ _ [(0, .cells (bvs .u8 [0#8]) 5)] 1 _
  refine CallG.byK (rputBy _ hb) rfl (by simp) (by intro p hp; cases List.mem_singleton.1 hp; exact Nat.zero_lt_one) ⟨rfl, trivial⟩ ?_
  rw [hN]
  intro s1 m1 nx1 ns1 b1 b2 b3 g1
  have hs := b1.src
  simp only [srcx, Nat.mul_one] at hs
  have b0 : ByAt 5 m1 (.sl 0 0 1 1) [0#8] [0] := .row (X := [0#8]) (sp := []) rfl (g1.kp 0 _ rfl) rfl (by decide) rfl
  simp (maxSteps := 1000000) -implicitDefEqProofs only [go_sem, seval, -List.reduceReplicate, hs, one1_bvs]
  refine appk_by b0 (fun e => by cases e) g1.nd (fun _ _ => rfl) g1.lt (fun _ _ => rfl) (by have := numX_len (R.length : Nat); show 1 + _ ≤ _; omega) ?_
  intro v2 m2 nx2 ns2 c1 c2 c3 c4 c5 c6 c7 c8
  simp (maxSteps := 1000000) -implicitDefEqProofs only [go_sem, seval, -List.reduceReplicate]
  have hrl := recB_len R
  have hnl := numX_len (R.length : Nat)
  refine LoopOk.upX (fun i (x : AV × List Nat × Mem × Nat) => ByN x.2.2.1 x.2.2.2 x.1 (preX R i) x.2.1) R.length (fun i x => ([(4, .int .i64 (i : Nat)), (3, x.1), (2, .nils), (0, .ro R.length (rcs R))], x.2.2.1, x.2.2.2)) (v2, ns2, m2, nx2) (by refine ⟨?_, ?_, c5, c6⟩ <;> rw [preX, List.take_zero, recB, List.append_nil]; exact c1; exact c2) ?_ ?_
  · exact Le.sameT (Nat.zero_le _) ⟨rfl, rfl, rfl, rfl, trivial⟩ (memSame_slf c5) c5
  rintro i ⟨v, ns, m, nx⟩ ⟨hi', d1, d2, nd1, lt1⟩
  have d1 : ByAt 5 m v (preX R i) ns := d1
  have d2 : v ≠ .ro (preX R i).length (bvs .u8 (preX R i)) := d2
  have nd1 : (m.map fun p => p.1).Nodup := nd1
  have lt1 : ∀ p ∈ m, p.1 < nx := lt1
  have hll : (preX R i).length ≤ 50000 := by
    unfold preX
    have := recB_len (R.take i)
    rw [List.length_append, List.length_append]
    rw [List.length_take] at this
    show 1 + _ + _ ≤ _
    omega
  rcases Nat.lt_or_ge i R.length with h | h
  · have g2 : decide ((i : Int) < (R.length : Int)) = true := decide_eq_true (by omega)
    have w1 : IntKind.i64.wrap ((i : Int) + 1) = ((i + 1 : Nat) : Int) := by rw [wrap_i64] <;> omega
    obtain ⟨r, hr⟩ : ∃ r, r = R.getD i (0, 0) := ⟨_, rfl⟩
    have hrm : r ∈ R := by rw [hr, List.getD_eq_getElem?_getD, List.getElem?_eq_getElem h]; exact List.getElem_mem h
    obtain ⟨hff, hf2⟩ := hi r hrm
    have hf := hff
    have hs3 : R.take (i + 1) = R.take i ++ [r] := by rw [List.take_add_one, List.getElem?_eq_getElem h, hr, List.getD_eq_getElem?_getD, List.getElem?_eq_getElem h]; rfl
    obtain ⟨hg1, hg2⟩ := rcs_at2 R i h
    rw [← hr] at hg1 hg2
    have hl := rcs_len R
    unfold fitB at hf
    simp only [Bool.and_eq_true, decide_eq_true_eq] at hf
    have w2 : IntKind.u64.wrap r.1 = (((BitVec.ofInt 64 r.1).toNat : Nat) : Int) := wrapbv64 _
    have w3 : IntKind.u64.wrap r.2 = (((BitVec.ofInt 64 r.2).toNat : Nat) : Int) := wrapbv64 _
    obtain ⟨q1, q2, q3, q4, q5⟩ := d1.facts
    simp (maxSteps := 1000000) -implicitDefEqProofs only [go_sem, seval, -List.reduceReplicate, g2, hg1, w2, w3, q1, q2, q3, q4, q5]
    refine ⟨by omega, by omega, by rw [List.length_drop]; omega, ?_⟩
    refine CallG.byK (rputBy _ (bn r.1 (by omega) (by omega))) rfl nd1 lt1 ⟨rfl, trivial⟩ ?_
    intro s3 m3 nx3 ns3 e1 e2 e3 g3
    have hs4 := e1.src
    simp only [srcx, Nat.mul_one] at hs4
    simp (maxSteps := 1000000) -implicitDefEqProofs only [go_sem, seval, -List.reduceReplicate, hs4, one1_bvs]
    refine appk_by (d1.grow g3) d2 g3.nd (fun _ _ => rfl) g3.lt (fun _ _ => rfl) (by have := numX_len r.1; unfold numX at this; omega) ?_
    intro v5 m5 nx5 ns5 i1 i2 i3 i4 i5 i6 i7 i8
    obtain ⟨r1, r2, r3, r4, r5⟩ := i1.facts
    simp (maxSteps := 1000000) -implicitDefEqProofs only [go_sem, seval, -List.reduceReplicate, hg2, w3, r1, r2, r3, r4, r5]
    refine ⟨by omega, by omega, by rw [List.length_drop, List.length_drop]; omega, ?_⟩
    refine CallG.byK (rputBy _ (bn r.2 (by omega) (by omega))) rfl i5 i6 ⟨rfl, trivial⟩ ?_
    intro s6 m6 nx6 ns6 f1 f2 f3 g6
    have hs7 := f1.src
    simp only [srcx, Nat.mul_one] at hs7
    simp (maxSteps := 1000000) -implicitDefEqProofs only [go_sem, seval, -List.reduceReplicate, hs7, one1_bvs]
    refine appk_by (i1.grow g6) i2 g6.nd (fun _ _ => rfl) g6.lt (fun _ _ => rfl) (by have := numX_len r.1; have := numX_len r.2; unfold numX at this; rw [List.length_append]; unfold numX at *; omega) ?_
    intro v8 m8 nx8 ns8 j1 j2 j3 j4 j5 j6 j7 j8
    simp (maxSteps := 1000000) -implicitDefEqProofs only [go_sem, seval, -List.reduceReplicate, w1]
    have e3 : preX R i ++ putX (BitVec.ofInt 64 r.1) ++ putX (BitVec.ofInt 64 r.2) = preX R (i + 1) := by
      unfold preX
      rw [hs3, recB_app]
      simp only [recB, numX, List.append_nil, List.append_assoc]
    rw [e3] at j1 j2
    exact UpX_normal h (v8, ns8, m8, nx8) ⟨j1, j2, j5, j6⟩ (Le.sameT (Nat.zero_le _) ⟨rfl, rfl, rfl, rfl, trivial⟩ (memSame_slf j5) j5)
  · have hiR : i = R.length := by omega
    subst hiR
    have g2 : decide ((R.length : Int) < (R.length : Int)) = false := decide_eq_false (by omega)
    have hX0 : preX R R.length = idxA R := by unfold preX idxA; rw [List.take_length]
    rw [hX0] at d1 d2 hll
    obtain ⟨X, hX⟩ : ∃ X, X = idxA R := ⟨_, rfl⟩
    rw [← hX] at d1 d2 hll
    obtain ⟨q1, q2, q3, q4, q5⟩ := d1.facts
    simp (maxSteps := 1000000) -implicitDefEqProofs only [go_sem, seval, -List.reduceReplicate, g2, q1, q2, q3, q4, q5]
    have hpl : padN X.length ≤ 3 := by unfold padN; omega
    have hz0 : zrs X 0 = X := List.append_nil X
    refine LoopOk.upX (fun j (x : AV × List Nat × Mem × Nat) => ByN x.2.2.1 x.2.2.2 x.1 (zrs X j) x.2.1) (padN X.length) (fun j x => ([(3, x.1), (2, .nils), (0, .ro R.length (rcs R))], x.2.2.1, x.2.2.2)) (v, ns, m, nx) ⟨by rw [hz0]; exact d1, by rw [hz0]; exact d2, nd1, lt1⟩ ?_ ?_
    · exact Le.sameT (Nat.zero_le _) ⟨rfl, rfl, rfl, trivial⟩ (memSame_slf nd1) nd1
    rintro j ⟨v, ns, m, nx⟩ ⟨hj', d1, d2, nd1, lt1⟩
    have d1 : ByAt 5 m v (zrs X j) ns := d1
    have d2 : v ≠ .ro (zrs X j).length (bvs .u8 (zrs X j)) := d2
    have nd1 : (m.map fun p => p.1).Nodup := nd1
    have lt1 : ∀ p ∈ m, p.1 < nx := lt1
    have hXj : (zrs X j).length = X.length + j := by unfold zrs; rw [List.length_append, List.length_replicate]
    obtain ⟨q1, q2, q3, q4, q5⟩ := d1.facts
    have q6 := d1.len Try.prog 22
    rw [hXj] at q6
    have hj : j ≤ padN X.length := hj'
    rcases Nat.lt_or_ge j (padN X.length) with h | h
    · have g3 : (((X.length + j : Nat) : Int).tmod 4 != 0) = true := by
        rw [bne_iff_ne]
        intro e
        rw [Int.tmod_eq_emod_of_nonneg (by omega)] at e
        unfold padN at h
        omega
      simp (maxSteps := 1000000) -implicitDefEqProofs only [go_sem, seval, -List.reduceReplicate, q1, q2, q3, q4, q5, q6, g3]
      refine ⟨.inr trivial, rfl, rfl, ?_⟩
      change appk v ((nx, .cells (bvs .u8 [0#8]) 5) :: m) (nx + 1) (fun _ => true) 5 1 1 (([0#8] : List (BitVec 8)).length, bvs .u8 [0#8]) _
      have gc := Gr.cons nd1 lt1 (.cells (bvs .u8 [0#8]) 5)
      have hzj : zrs X j ++ [0#8] = zrs X (j + 1) := by unfold zrs; rw [List.append_assoc, List.replicate_succ']
      refine appk_by (d1.grow gc) d2 gc.nd (fun _ _ => rfl) gc.lt (fun _ _ => rfl) (by rw [hXj]; show _ + 1 ≤ _; omega) ?_
      rw [hzj]
      intro v8 m8 nx8 ns8 j1 j2 j3 j4 j5 j6 j7 j8
      simp (maxSteps := 1000000) -implicitDefEqProofs only [go_sem, seval, -List.reduceReplicate]
      exact UpX_normal h (v8, ns8, m8, nx8) ⟨j1, j2, j5, j6⟩ (Le.sameT (Nat.zero_le _) ⟨rfl, rfl, rfl, trivial⟩ (memSame_slf j5) j5)
    · have hje : j = padN X.length := by omega
      have g3 : (((X.length + j : Nat) : Int).tmod 4 != 0) = false := by
        rw [bne_eq_false_iff_eq, Int.tmod_eq_emod_of_nonneg (by omega), hje]
        unfold padN
        omega
      simp (maxSteps := 1000000) -implicitDefEqProofs only [go_sem, seval, -List.reduceReplicate, q1, q2, q3, q4, q5, q6, g3]
      have hB : zrs X j = idxB R := by unfold zrs idxB; rw [hje, hX]; rfl
      rw [hB] at d1 d2 hXj
      refine CallG.byK (refSumOk 1 (idxB R) (by omega)) rfl nd1 lt1 ⟨rfl, d1.arg, trivial⟩ ?_
      intro v4 m4 nx4 ns4 e1 e2 e3 g4
      have hs4 := e1.src
      simp only [srcx, Nat.mul_one] at hs4
      simp (maxSteps := 1000000) -implicitDefEqProofs only [go_sem, seval, -List.reduceReplicate, hs4, one1_bvs]
      refine appk_by (d1.grow g4) d2 g4.nd (fun _ _ => rfl) g4.lt (fun _ _ => rfl) (by have : (chk 1 (idxB R)).length = 4 := lowS_len _ _; omega) ?_
      intro v5 m5 nx5 ns5 i1 i2 i3 i4 i5 i6 i7 i8
      simp (maxSteps := 1000000) -implicitDefEqProofs only [go_sem, seval, -List.reduceReplicate]
      exact Fin.by (X := idxX R) i1 i2 idG (fun _ _ => rfl)
end Go.Proofs.Ytmdeoikpiiambaa
end
section
/- An index: records that can't be put. BRIEF -/
set_option linter.unusedVariables false
set_option linter.unusedSimpArgs false
set_option maxRecDepth 100000
namespace Go.Proofs.Ytmdeoikpiiambaa
open Go Go.Eng

def erT (s : AV) : AV := .tup [s, .int .i64 1]
theorem byE {fz : Bool} {P : Program} {g : FuncId} {args0 args : List AV} {wr : Nat → Bool} {m : Mem} {nx : Nat} {K : Kv} {X : List (BitVec 8)} (h : CallG false P g args0 (fun _ => true) [] 0 (ByK 5 erT X [] 0)) (nd : (m.map fun p => p.1).Nodup) (lt : ∀ p ∈ m, p.1 < nx)
    (ha : argsx m [] (rf [] nx 0) args args0) (hK : ∀ s m' nx' ns, ByAt 5 m' s X ns → s ≠ .ro X.length (bvs .u8 X) → (∀ k ∈ ns, nx ≤ k) → Gr m nx m' nx' → K (.tup [s, .int .i64 1]) m' nx') : CallG fz P g args wr m nx K := by
  refine (CallOk.by h.any nd lt ha (fun _ _ => rfl) (fun s => by simp [erT, noRo, noRoL])).weak ?_
  rintro v m' nx' ⟨s, ns, rfl, h1, h2, h3, h4⟩
  exact hK _ _ _ ns h1 h2 h3 h4
def allF (R : List (Int × Int)) (i : Nat) : Bool := (R.take i).all fitB
theorem allF_step {R : List (Int × Int)} {i : Nat} (h : i < R.length) : allF R (i + 1) = (allF R i && fitB (R.getD i (0, 0))) := by
  unfold allF
  rw [List.take_add_one, List.getElem?_eq_getElem h, List.getD_eq_getElem?_getD, List.getElem?_eq_getElem h, List.all_append]
  simp
set_option maxHeartbeats 2000000 in
theorem putBad (R : List (Int × Int)) (hR : R.length ≤ 1000) (hi : ∀ r ∈ R, r.2 < 9223372036854775808) (hb : R.all fitB = false) : CallG false Try.prog 30 [.ro R.length (rcs R)] (fun _ => true) [] 0 (ByK 5 erT [] [] 0) := by
  refine fn_okG Try.func30 rfl (by show 1 ≤ _; decide) ?_
  simp (maxSteps := 1000000) -implicitDefEqProofs only [go_sem, seval, -List.reduceReplicate, Try.results30, Try.ntmps30]
  refine ⟨.inr trivial, ?_⟩
  change CallG false _ _ _ _ [(1, .cells [AV.sl 0 0 1 1] 22), (0, .cells (bvs .u8 [0#8]) 5)] 2 _
  obtain ⟨M, hM⟩ : ∃ M : Mem, M = [(1, .cells [AV.sl 0 0 1 1] 22), (0, .cells (bvs .u8 [0#8]) 5)] := ⟨_, rfl⟩
  rw [← hM]
  have nd : (M.map fun p => p.1).Nodup := by rw [hM]; simp
  have lt : ∀ p ∈ M, p.1 < 2 := by
    intro p hp
    rw [hM] at hp
    simp only [List.mem_cons, List.not_mem_nil, or_false] at hp
    rcases hp with rfl | rfl <;> (show (_ : Nat) < 2; omega)
  have o0 : OutAt M 1 [0#8] [0] := ⟨.sl 0 0 1 1, by rw [hM]; rfl, .row (X := [0#8]) (sp := []) rfl (by rw [hM, List.append_nil]; rfl) rfl (by decide) rfl, (fun e => by cases e), by decide⟩
  refine (putNOk nd lt o0 (R.length : Nat) (by omega) (by omega) (by show 1 ≤ _; decide)).weak ?_
  rintro v m1 nx1 ⟨rfl, l1, nd1, lt1, ⟨ns1, o1, k1⟩, _⟩
  simp (maxSteps := 1000000) -implicitDefEqProofs only [go_sem, seval, -List.reduceReplicate]
  have hrl := recB_len R
  have hnl := numX_len (R.length : Nat)
  refine LoopOk.upX (fun i (x : List Nat × Mem × Nat) => allF R i = true ∧ OutAt x.2.1 1 ([0#8] ++ numX (R.length : Nat) ++ recB (R.take i)) x.1 ∧ (x.2.1.map fun p => p.1).Nodup ∧ ∀ p ∈ x.2.1, p.1 < x.2.2) R.length (fun i x => ([(16, .int .i64 (i : Nat)), (15, .int .i64 (R.length : Nat)), (14, .ro R.length (rcs R)), (5, .fn (.func 85) [] [.ptr 1 0]), (4, .ptr 1 0)], x.2.1, x.2.2)) (ns1, m1, nx1) ⟨rfl, by rw [List.take_zero, recB, List.append_nil]; exact o1, nd1, lt1⟩ ?_ ?_
  · exact Le.sameT (Nat.zero_le _) ⟨rfl, rfl, rfl, rfl, rfl, trivial⟩ (memSame_slf nd1) nd1
  rintro i ⟨ns, m, nx⟩ ⟨hi', ha, o1, nd1, lt1⟩
  have o1 : OutAt m 1 ([0#8] ++ numX (R.length : Nat) ++ recB (R.take i)) ns := o1
  have nd1 : (m.map fun p => p.1).Nodup := nd1
  have lt1 : ∀ p ∈ m, p.1 < nx := lt1
  have hll : ([0#8] ++ numX (R.length : Nat) ++ recB (R.take i)).length ≤ 50000 := by
    have := recB_len (R.take i)
    rw [List.length_append, List.length_append]
    rw [List.length_take] at this
    show 1 + _ + _ ≤ _
    omega
  rcases Nat.lt_or_ge i R.length with h | h
  · have g1 : decide ((i : Int) < (R.length : Int)) = true := decide_eq_true (by omega)
    have w1 : IntKind.i64.wrap ((i : Int) + 1) = ((i + 1 : Nat) : Int) := by rw [wrap_i64] <;> omega
    obtain ⟨r, hr⟩ : ∃ r, r = R.getD i (0, 0) := ⟨_, rfl⟩
    have hrm : r ∈ R := by rw [hr, List.getD_eq_getElem?_getD, List.getElem?_eq_getElem h]; exact List.getElem_mem h
    have hf2 := hi r hrm
    have hs : R.take (i + 1) = R.take i ++ [r] := by rw [List.take_add_one, List.getElem?_eq_getElem h, hr, List.getD_eq_getElem?_getD, List.getElem?_eq_getElem h]; rfl
    have hg := rcs_take R i h
    rw [← hr] at hg
    have hl := rcs_len R
    have hsp : spl [AV.int .i64 0, AV.int .i64 0] 0 [AV.int .i64 r.1, AV.int .i64 r.2] = [AV.int .i64 r.1, AV.int .i64 r.2] := rfl
    have ht2 : List.take 2 [AV.int .i64 r.1, AV.int .i64 r.2] = [AV.int .i64 r.1, AV.int .i64 r.2] := rfl
    simp (maxSteps := 1000000) -implicitDefEqProofs only [go_sem, seval, -List.reduceReplicate, g1, hg, hsp, ht2]
    refine ⟨by omega, by omega, by rw [List.length_drop]; omega, ?_⟩
    refine (fitsOk r).flat0 ⟨rfl, trivial⟩ (fun _ => rfl) rfl ?_
    cases hff : fitB r with
    | false =>
      simp (maxSteps := 1000000) -implicitDefEqProofs only [go_sem, seval, -List.reduceReplicate, hff, hg, hsp, ht2]
      exact Fin.by (X := []) (s := .nils) (ByAt.nil _) (fun e => by cases e) erT (fun _ _ => rfl)
    | true =>
    have hf := hff
    have ha2 : allF R (i + 1) = true := by rw [allF_step h, ha, ← hr, hff]; rfl
    have gc := Gr.cons nd1 lt1 (.cells [AV.int .i64 r.1, AV.int .i64 r.2] 126)
    unfold fitB at hf
    simp only [Bool.and_eq_true, decide_eq_true_eq] at hf
    simp (maxSteps := 1000000) -implicitDefEqProofs only [go_sem, seval, -List.reduceReplicate, hff, hg, hsp, ht2]
    have nsl := o1.lt lt1
    refine (putNOk gc.nd gc.lt (o1.grow gc) r.1 (by omega) (by omega) (by omega)).weak ?_
    rintro v2 m2 nx2 ⟨rfl, l2, nd2, lt2, ⟨ns2, o2, k2⟩, kp2⟩
    have hc2 := kp2 nx _ (by have := o1.clt lt1; omega) (fun hm => by have := nsl nx hm; omega) (by rw [look_cons, if_pos rfl])
    simp (maxSteps := 1000000) -implicitDefEqProofs only [go_sem, seval, -List.reduceReplicate, hc2]
    refine (putNOk nd2 lt2 o2 r.2 (by omega) (by omega) (by rw [List.length_append]; have := numX_len r.1; omega)).weak ?_
    rintro v3 m3 nx3 ⟨rfl, l3, nd3, lt3, ⟨ns3, o3, k3⟩, kp3⟩
    simp (maxSteps := 1000000) -implicitDefEqProofs only [go_sem, seval, -List.reduceReplicate, w1]
    have e3 : [0#8] ++ numX (R.length : Nat) ++ recB (R.take i) ++ numX r.1 ++ numX r.2 = [0#8] ++ numX (R.length : Nat) ++ recB (R.take (i + 1)) := by
      rw [hs, recB_app]
      simp only [recB, List.append_nil, List.append_assoc]
    rw [e3] at o3
    exact UpX_normal h (ns3, m3, nx3) ⟨ha2, o3, nd3, lt3⟩ (Le.sameT (Nat.zero_le _) ⟨rfl, rfl, rfl, rfl, rfl, trivial⟩ (memSame_slf nd3) nd3)
  · have hiR : i = R.length := by omega
    subst hiR
    exfalso
    rw [allF, List.take_length, hb] at ha
    cases ha
end Go.Proofs.Ytmdeoikpiiambaa
end
section
/- An index: the document's numbers. BRIEF -/
set_option linter.unusedVariables false
set_option linter.unusedSimpArgs false
set_option maxRecDepth 100000
namespace Go.Proofs.Ytmdeoikpiiambaa
open Go Go.Eng

/-- the document's number: what it is, the place behind it, the error -/
def rnu (b : List (BitVec 8)) (at_ : Nat) : Int × Int × Int := if (nuR b at_).2.2 = 6 then (0, 0, 8) else (((nuR b at_).1.toNat : Int), (at_ : Int) + (nuR b at_).2.1, (nuR b at_).2.2)
theorem rnumOk (b : List (BitVec 8)) (at_ : Nat) (ha : at_ ≤ b.length) (hb : b.length ≤ 100000) : CallG false Try.prog 92 [.ro b.length (bvs .u8 b), .int .i64 (at_ : Nat)] (fun _ => true) [] 0 fun v m nx => v = .tup [.int .i64 (rnu b at_).1, .int .i64 (rnu b at_).2.1, .int .i64 (rnu b at_).2.2] ∧ m = [] ∧ nx = 0 := by
  refine fn_okG Try.func92 rfl (by show 2 ≤ _; decide) ?_
  have hl : (b.drop at_).length = b.length - at_ := List.length_drop ..
  have ht : List.take (b.length - at_) (b.drop at_) = b.drop at_ := List.take_of_length_le (by omega)
  obtain ⟨r1, r2, r3, r4⟩ := gRes_fine (b.drop at_)
  obtain ⟨N, k, e, hr⟩ : ∃ N k e, gRes (b.drop at_) 9 0 = (N, k, e) := ⟨_, _, _, rfl⟩
  have hG := rgetOk (b.drop at_) (by omega)
  rw [hr] at r1 r2 r3 r4 hG
  have r1 : N.toNat < 9223372036854775808 := r1
  have r2 : 0 ≤ k := r2
  have r3 : k ≤ ((b.drop at_).length : Int) := r3
  have r4 : e = 0 ∨ e = 2 ∨ e = 6 := r4
  have w1 : IntKind.i64.wrap ((at_ : Int) + k) = (at_ : Int) + k := by rw [wrap_i64] <;> omega
  have w2 : IntKind.i64.wrap (N.toNat : Int) = (N.toNat : Int) := by rw [wrap_i64] <;> omega
  have hV : rnu b at_ = if e = 6 then (0, 0, 8) else ((N.toNat : Int), (at_ : Int) + k, e) := by rw [rnu, nuR, hr]
  rw [hV]
  simp (maxSteps := 1000000) -implicitDefEqProofs only [go_sem, seval, -List.reduceReplicate, Try.results92, Try.ntmps92]
  refine ⟨⟨by omega, Int.le_refl _⟩, ?_⟩
  rw [ht]
  refine hG.flat0 ⟨argx_roX hl.symm, trivial⟩ (fun _ => rfl) rfl ?_
  rcases r4 with rfl | rfl | rfl
  · simp (maxSteps := 1000000) -implicitDefEqProofs only [go_sem, seval, -List.reduceReplicate, gRet, w1, w2]
    exact Fin.flatv (fun _ => rfl) (fun _ => rfl) ⟨rfl, rfl, rfl⟩
  · simp (maxSteps := 1000000) -implicitDefEqProofs only [go_sem, seval, -List.reduceReplicate, gRet, w1, w2]
    exact Fin.flatv (fun _ => rfl) (fun _ => rfl) ⟨rfl, rfl, rfl⟩
  · simp (maxSteps := 1000000) -implicitDefEqProofs only [go_sem, seval, -List.reduceReplicate, gRet, w1, w2]
    exact Fin.flatv (fun _ => rfl) (fun _ => rfl) ⟨rfl, rfl, rfl⟩
theorem rcs_inj : ∀ {R T : List (Int × Int)}, rcs R = rcs T → R = T
  | [], [], _ => rfl
  | [], t :: T, h => by cases h
  | r :: R, [], h => by cases h
  | r :: R, t :: T, h => by
    have h : AV.int .i64 r.1 :: AV.int .i64 r.2 :: rcs R = AV.int .i64 t.1 :: AV.int .i64 t.2 :: rcs T := h
    injection h with h1 h2
    injection h2 with h2 h3
    injection h1 with _ h1
    injection h2 with _ h2
    rw [rcs_inj h3, Prod.ext h1 h2]
def rngI (R : List (Int × Int)) : Prop := ∀ r ∈ R, (-9223372036854775808 ≤ r.1 ∧ r.1 < 9223372036854775808) ∧ (-9223372036854775808 ≤ r.2 ∧ r.2 < 9223372036854775808)
theorem recLits (r : Int × Int) (h : (-9223372036854775808 ≤ r.1 ∧ r.1 < 9223372036854775808) ∧ (-9223372036854775808 ≤ r.2 ∧ r.2 < 9223372036854775808)) : aggLits Try.prog 50 [.int .i64 r.1, .int .i64 r.2] = some [Lit.int .i64 r.1, Lit.int .i64 r.2] := by
  have c56 : Try.prog.cellsOf 50 = 2 := by kernel_rfl
  have c3 : Try.prog.cellsOf 2 = 1 := by kernel_rfl
  have u3 : Try.prog.underlying 2 = some (.int .i64) := Try.underlying2
  have u56 := Try.underlying50
  have hf : (Value.agg [Value.int .i64 r.1, Value.int .i64 r.2].toArray).formed Try.prog 50 = true := by
    simp only [Value.formed, u56, c56, List.size_toArray, List.length_cons, List.length_nil]
    rfl
  simp only [aggLits, avVals, Option.map_some, Option.bind_some, hf, if_true]
  unfold Program.keyLits
  simp only [u56, c56, List.length_cons, List.length_nil, Nat.reduceAdd]
  rw [if_pos (And.intro (by trivial) (by kernel_rfl))]
  simp only [List.mapM_cons, List.mapM_nil, List.drop_zero, c3, List.take_succ_cons, List.take_zero, List.drop_succ_cons]
  unfold Program.keyLits
  simp only [u3, wf_int64 h.1.1 h.1.2, wf_int64 h.2.1 h.2.2, and_self, if_true]
  rfl
set_option maxHeartbeats 1000000 in
theorem sameOk (R T : List (Int × Int)) (hR : R.length ≤ 1000) (hT : T.length ≤ 1000) (kR : rngI R) (kT : rngI T) : CallG false Try.prog 35 [.ro R.length (rcs R), .ro T.length (rcs T)] (fun _ => true) [] 0 fun v m nx => v = .bool (decide (R = T)) ∧ m = [] ∧ nx = 0 := by
  refine fn_okG Try.func35 rfl (by show 2 ≤ _; decide) ?_
  by_cases hl : R.length = T.length
  rotate_left
  · have g1 : (((R.length : Nat) : Int) != ((T.length : Nat) : Int)) = true := by rw [bne_iff_ne]; omega
    have g2 : decide (R = T) = false := decide_eq_false (fun e => hl (by rw [e]))
    simp (maxSteps := 1000000) -implicitDefEqProofs only [go_sem, seval, -List.reduceReplicate, Try.results35, Try.ntmps35, g1, g2]
    exact Fin.flatv (fun _ => rfl) (fun _ => rfl) ⟨rfl, rfl, rfl⟩
  have g1 : (((R.length : Nat) : Int) != ((T.length : Nat) : Int)) = false := by rw [bne_eq_false_iff_eq]; omega
  simp (maxSteps := 1000000) -implicitDefEqProofs only [go_sem, seval, -List.reduceReplicate, Try.results35, Try.ntmps35, g1]
  refine LoopOk.upX (fun i (x : Unit) => R.take i = T.take i) R.length (fun i x => ([(5, .int .i64 (i : Nat)), (4, .bool false), (1, .ro T.length (rcs T)), (0, .ro R.length (rcs R))], [], 0)) () rfl ?_ ?_
  · exact Le.sameT (Nat.zero_le _) ⟨rfl, rfl, rfl, rfl, trivial⟩ (memSame_slf List.nodup_nil) List.nodup_nil
  rintro i ⟨⟩ ⟨hi, he⟩
  rcases Nat.lt_or_ge i R.length with h | h
  · have g2 : decide ((i : Int) < (R.length : Int)) = true := decide_eq_true (by omega)
    have w1 : IntKind.i64.wrap ((i : Int) + 1) = ((i + 1 : Nat) : Int) := by rw [wrap_i64] <;> omega
    have hg := rcs_take R i h
    have hg2 := rcs_take T i (by omega)
    have hlR := rcs_len R
    have hlT := rcs_len T
    simp (maxSteps := 1000000) -implicitDefEqProofs only [go_sem, seval, -List.reduceReplicate, g2, hg, hg2, w1]
    refine ⟨Fx.mixed, .inl ⟨[(0, false), (1, false), (2, false), (3, false), (4, false), (5, false), (6, false), (7, false), (8, false)], [], by kernel_rfl, (fun n hn => by cases hn), ?_⟩⟩
    obtain ⟨r, hr⟩ : ∃ r, r = R.getD i (0, 0) := ⟨_, rfl⟩
    obtain ⟨s, hs⟩ : ∃ s, s = T.getD i (0, 0) := ⟨_, rfl⟩
    have hrm : r ∈ R := by rw [hr, List.getD_eq_getElem?_getD, List.getElem?_eq_getElem h]; exact List.getElem_mem h
    have h2 : i < T.length := by omega
    have hsm : s ∈ T := by rw [hs, List.getD_eq_getElem?_getD, List.getElem?_eq_getElem h2]; exact List.getElem_mem h2
    have hgr : R[i]? = some r := by rw [hr, List.getD_eq_getElem?_getD, List.getElem?_eq_getElem h]; rfl
    have hgs : T[i]? = some s := by rw [hs, List.getD_eq_getElem?_getD, List.getElem?_eq_getElem h2]; rfl
    rw [← hr] at hg
    rw [← hs] at hg2
    have l1 := recLits r (kR r hrm)
    have l2 := recLits s (kT s hsm)
    by_cases hrs : r = s
    · subst hrs
      simp (maxSteps := 1000000) -implicitDefEqProofs only [go_sem, seval, -List.reduceReplicate, g2, hg, hg2, w1, l1, l2, litEq_self]
      refine ⟨by omega, by omega, by rw [List.length_drop]; omega, by omega, by omega, by rw [List.length_drop]; omega, ?_⟩
      refine UpX_normal h () ?_ (Le.sameT (Nat.zero_le _) ⟨rfl, rfl, rfl, rfl, trivial⟩ (memSame_slf List.nodup_nil) List.nodup_nil)
      rw [List.take_add_one, List.take_add_one, he, hgr, hgs]
    · have hne : litEq [Lit.int .i64 r.1, Lit.int .i64 r.2] [Lit.int .i64 s.1, Lit.int .i64 s.2] = false := litEq_ne fun e => by
        injection e with e1 e2
        injection e2 with e2 _
        injection e1 with _ e1
        injection e2 with _ e2
        exact hrs (Prod.ext e1 e2)
      have g3 : decide (R = T) = false := decide_eq_false fun e => by
        subst e
        rw [hgr] at hgs
        exact hrs (Option.some.inj hgs)
      simp (maxSteps := 1000000) -implicitDefEqProofs only [go_sem, seval, -List.reduceReplicate, g2, hg, hg2, w1, l1, l2, hne, g3]
      refine ⟨by omega, by omega, by rw [List.length_drop]; omega, by omega, by omega, by rw [List.length_drop]; omega, ?_⟩
      exact Fin.flatv (fun _ => rfl) (fun _ => rfl) ⟨rfl, rfl, rfl⟩
  · have hiR : i = R.length := by omega
    subst hiR
    have g2 : decide ((R.length : Int) < (R.length : Int)) = false := decide_eq_false (by omega)
    have g3 : decide (R = T) = true := by
      apply decide_eq_true
      rw [List.take_length, hl, List.take_length] at he
      exact he
    simp (maxSteps := 1000000) -implicitDefEqProofs only [go_sem, seval, -List.reduceReplicate, g2, g3]
    exact Fin.flatv (fun _ => rfl) (fun _ => rfl) ⟨rfl, rfl, rfl⟩
end Go.Proofs.Ytmdeoikpiiambaa
end
section
/- An index: what the document gets. BRIEF -/
set_option linter.unusedVariables false
set_option linter.unusedSimpArgs false
set_option maxRecDepth 100000
namespace Go.Proofs.Ytmdeoikpiiambaa
open Go Go.Eng

theorem rnu_fine (b : List (BitVec 8)) (at_ : Nat) (ha : at_ ≤ b.length) :
    ((rnu b at_).2.2 = 0 ∧ 0 ≤ (rnu b at_).1 ∧ (rnu b at_).1 < 9223372036854775808 ∧ ∃ nx : Nat, (rnu b at_).2.1 = (nx : Int) ∧ at_ < nx ∧ nx ≤ b.length) ∨ (rnu b at_).2.2 = 2 ∨ (rnu b at_).2.2 = 8 := by
  rw [rnu, nuR]
  have hl : (b.drop at_).length = b.length - at_ := List.length_drop ..
  have hf := (gRes_fine (b.drop at_)).1
  rcases gRes_cases (b.drop at_) 9 0 with h | h | ⟨j, a1, a2, a3, a4⟩
  · rw [h]; exact .inr (.inl rfl)
  · rw [h]; exact .inr (.inr rfl)
  · left
    rw [a4] at hf ⊢
    refine ⟨rfl, Int.natCast_nonneg _, ?_, at_ + (j + 1), ?_, by omega, by omega⟩
    · show (((gN (b.drop at_) (j + 1)).toNat : Nat) : Int) < _
      have hf : (gN (b.drop at_) (j + 1)).toNat < 9223372036854775808 := hf
      omega
    · show (at_ : Int) + ((j : Int) + 1) = _
      omega
/-- records, the place behind, an error -/
abbrev GR := List (Int × Int) × Int × Int
def gSum (b : List (BitVec 8)) (at_ : Nat) (R : List (Int × Int)) : GR := if b.length < at_ + 4 then ([], 0, 2) else if (b.drop at_).take 4 = chk 1 (b.take at_) then (R, (at_ : Int) + 4, 0) else ([], 0, 8)
def gPad (b : List (BitVec 8)) : Nat → Nat → List (Int × Int) → GR
  | 0, at_, R => gSum b at_ R
  | n + 1, at_, R => if b.length ≤ at_ then ([], 0, 2) else if b.getD at_ 0 = 0 then gPad b n (at_ + 1) R else ([], 0, 8)
def gRec (b : List (BitVec 8)) : Nat → Nat → List (Int × Int) → GR
  | 0, at_, R => gPad b (padN at_) at_ R
  | n + 1, at_, R =>
    if (rnu b at_).2.2 = 0 then
      if (rnu b at_).1 < 5 ∨ (rnu b at_).1 > 9223372036854775804 then ([], 0, 8)
      else if (rnu b (rnu b at_).2.1.toNat).2.2 = 0 then gRec b n (rnu b (rnu b at_).2.1.toNat).2.1.toNat (R ++ [((rnu b at_).1, (rnu b (rnu b at_).2.1.toNat).1)])
      else ([], 0, (rnu b (rnu b at_).2.1.toNat).2.2)
    else ([], 0, (rnu b at_).2.2)
def gAll (b : List (BitVec 8)) : GR := if b = [] then ([], 0, 2) else if b.getD 0 0 = 0 then if (rnu b 1).2.2 = 0 then gRec b (rnu b 1).1.toNat (rnu b 1).2.1.toNat [] else ([], 0, (rnu b 1).2.2) else ([], 0, 8)
def grT (g : GR) (s : AV) : AV := .tup [s, .int .i64 g.2.1, .int .i64 g.2.2]
/-- records, told so -/
def GrK (ty : TypeId) (g : GR) : Kv := SlK' ty 2 (grT g) g.1.length (rcs g.1) [] 0
theorem GrK.bad {ty : TypeId} {m : Mem} {nx : Nat} {g : GR} {e : Int} (h : g = ([], 0, e)) : Fin 0 (fun _ => true) m nx (GrK ty g) (.tup [.nils, .int .i64 0, .int .i64 e]) := by
  subst h
  exact Fin.bySl (x := .nils) (k := 0) (L := []) (.nil _ _ _) (fun e => by cases e) (grT ([], 0, e)) (fun _ _ => rfl)
theorem GrK.good {ty : TypeId} {m : Mem} {nx : Nat} {g : GR} {R : List (Int × Int)} {n e : Int} {v : AV} {ns : List Nat} {k : Nat} (h : g = (R, n, e)) (hk : R.length = k) (sl : SlA ty 2 m v k (rcs R) ns) (nro : v ≠ .ro k (rcs R)) : Fin 0 (fun _ => true) m nx (GrK ty g) (.tup [v, .int .i64 n, .int .i64 e]) := by
  subst h
  subst hk
  exact Fin.bySl sl nro (grT (R, n, e)) (fun _ _ => rfl)
structure GInv (b : List (BitVec 8)) (ty : TypeId) (many : Nat) (i : Nat) (v : AV) (ns : List Nat) (at_ : Nat) (R : List (Int × Int)) (m : Mem) (nx : Nat) : Prop where
  sl : SlA ty 2 m v i (rcs R) ns
  nro : v ≠ .ro i (rcs R)
  len : R.length = i
  le : i ≤ many
  atl : at_ ≤ b.length
  lt : i < at_
  eq : gAll b = gRec b (many - i) at_ R
  nd : (m.map fun p => p.1).Nodup
  mlt : ∀ p ∈ m, p.1 < nx
set_option maxHeartbeats 2000000 in
theorem rgetsOk (b : List (BitVec 8)) (hb : b.length ≤ 100000) : CallG false Try.prog 36 [.ro b.length (bvs .u8 b)] (fun _ => true) [] 0 (GrK 50 (gAll b)) := by
  refine fn_okG Try.func36 rfl (by show 1 ≤ _; decide) ?_
  rcases Nat.eq_zero_or_pos b.length with h0 | h0
  · have g1 : (((b.length : Nat) : Int) == 0) = true := by rw [beq_iff_eq]; omega
    simp (maxSteps := 1000000) -implicitDefEqProofs only [go_sem, seval, -List.reduceReplicate, Try.results36, Try.ntmps36, g1]
    exact GrK.bad (by rw [gAll, if_pos (List.length_eq_zero_iff.1 h0)])
  have g1 : (((b.length : Nat) : Int) == 0) = false := by rw [beq_eq_false_iff_ne]; omega
  have hne : b ≠ [] := fun e => by rw [e] at h0; exact absurd h0 (by decide)
  by_cases hz : b.getD 0 0 = 0
  rotate_left
  · have g2 : (b.getD 0 0#8 != 0#8) = true := by rw [bne_iff_ne]; exact hz
    simp (maxSteps := 1000000) -implicitDefEqProofs only [go_sem, seval, -List.reduceReplicate, Try.results36, Try.ntmps36, g1, g2]
    exact ⟨by omega, h0, h0, GrK.bad (by rw [gAll, if_neg hne, if_neg hz])⟩
  have g2 : (b.getD 0 0#8 != 0#8) = false := by rw [bne_eq_false_iff_eq]; exact hz
  have hN := rnumOk b 1 (by omega) hb
  have hall : gAll b = if (rnu b 1).2.2 = 0 then gRec b (rnu b 1).1.toNat (rnu b 1).2.1.toNat [] else ([], 0, (rnu b 1).2.2) := by rw [gAll, if_neg hne, if_pos hz]
  have hfine := rnu_fine b 1 (by omega)
  obtain ⟨many, at0, bad, hr⟩ : ∃ u n w, rnu b 1 = (u, n, w) := ⟨_, _, _, rfl⟩
  rw [hr] at hN hall hfine
  simp (maxSteps := 1000000) -implicitDefEqProofs only [go_sem, seval, -List.reduceReplicate, Try.results36, Try.ntmps36, g1, g2]
  refine ⟨by omega, h0, h0, ?_⟩
  refine hN.flat0 ⟨argx_roX rfl, rfl, trivial⟩ (fun _ => rfl) rfl ?_
  by_cases hbad : bad = 0
  rotate_left
  · have g3 : (bad != 0) = true := by rw [bne_iff_ne]; exact hbad
    simp (maxSteps := 1000000) -implicitDefEqProofs only [go_sem, seval, -List.reduceReplicate, g3]
    exact GrK.bad (by rw [hall]; exact if_neg hbad)
  have g3 : (bad != 0) = false := by rw [bne_eq_false_iff_eq]; exact hbad
  simp (maxSteps := 1000000) -implicitDefEqProofs only [go_sem, seval, -List.reduceReplicate, g3]
  subst hbad
  rcases hfine with ⟨_, f1, f2, at1, f3, f4, f5⟩ | h | h
  rotate_left
  · exact absurd (show (0 : Int) = 2 from h) (by decide)
  · exact absurd (show (0 : Int) = 8 from h) (by decide)
  have f1 : 0 ≤ many := f1
  have f2 : many < 9223372036854775808 := f2
  have f3 : at0 = (at1 : Int) := f3
  subst f3
  have hall : gAll b = gRec b many.toNat at1 [] := hall
  obtain ⟨M, rfl⟩ : ∃ M : Nat, many = (M : Int) := ⟨many.toNat, by omega⟩
  have hall : gAll b = gRec b M at1 [] := hall
  refine LoopOk.upX (fun i (x : AV × List Nat × Nat × List (Int × Int) × Mem × Nat) => GInv b 50 M i x.1 x.2.1 x.2.2.1 x.2.2.2.1 x.2.2.2.2.1 x.2.2.2.2.2) b.length (fun i x => ([(9, .int .i64 (i : Nat)), (8, x.1), (6, .int .i64 (x.2.2.1 : Nat)), (5, .int .i64 (M : Nat)), (4, .int .i64 0), (3, .int .i64 0), (2, .nils), (0, .ro b.length (bvs .u8 b))], x.2.2.2.2.1, x.2.2.2.2.2)) (.nils, [], at1, [], [], 0) ⟨.nil _ _ _, (fun e => by cases e), rfl, Nat.zero_le _, f5, by show 0 < at1; omega, hall, List.nodup_nil, fun p hp => by cases hp⟩ ?_ ?_
  · exact Le.sameT (Nat.zero_le _) ⟨rfl, rfl, rfl, rfl, rfl, rfl, rfl, rfl, trivial⟩ (memSame_slf List.nodup_nil) List.nodup_nil
  rintro i ⟨v, ns, at_, R, m, nx⟩ ⟨hi, J⟩
  have J : GInv b 50 M i v ns at_ R m nx := J
  have atl := J.atl
  have ilt := J.lt
  have ile := J.le
  obtain ⟨q1, q2, q3, q4, q5⟩ := J.sl.facts
  rcases Nat.lt_or_ge i M with h | h
  · have g4 : decide ((i : Int) < (M : Int)) = true := decide_eq_true (by omega)
    have w1 : IntKind.i64.wrap ((i : Int) + 1) = ((i + 1 : Nat) : Int) := by rw [wrap_i64] <;> omega
    simp (maxSteps := 1000000) -implicitDefEqProofs only [go_sem, seval, -List.reduceReplicate, g4, w1, q1, q2, q3, q4, q5]
    refine (rnumOk b at_ atl hb).flat0 ⟨argx_roX rfl, rfl, trivial⟩ (fun _ => rfl) rfl ?_
    have hq := J.eq
    rw [show M - i = (M - (i + 1)) + 1 by omega, gRec] at hq
    have hfine := rnu_fine b at_ atl
    obtain ⟨u, n1, e1, hr1⟩ : ∃ u n w, rnu b at_ = (u, n, w) := ⟨_, _, _, rfl⟩
    rw [hr1] at hq hfine ⊢
    by_cases hb1 : e1 = 0
    rotate_left
    · have g5 : (e1 != 0) = true := by rw [bne_iff_ne]; exact hb1
      simp (maxSteps := 1000000) -implicitDefEqProofs only [go_sem, seval, -List.reduceReplicate, g5]
      exact GrK.bad (hq.trans (if_neg hb1))
    have g5 : (e1 != 0) = false := by rw [bne_eq_false_iff_eq]; exact hb1
    subst hb1
    rcases hfine with ⟨_, k1, k2, at2, k3, k4, k5⟩ | h5 | h5
    rotate_left
    · exact absurd (show (0 : Int) = 2 from h5) (by decide)
    · exact absurd (show (0 : Int) = 8 from h5) (by decide)
    have k3 : n1 = (at2 : Int) := k3
    subst k3
    rw [if_pos rfl] at hq
    have k2 : u < 9223372036854775808 := k2
    by_cases hu : u < 5 ∨ u > 9223372036854775804
    · rw [if_pos hu] at hq
      by_cases hu1 : u < 5
      · have g6 : decide (u < 5) = true := decide_eq_true hu1
        simp (maxSteps := 1000000) -implicitDefEqProofs only [go_sem, seval, -List.reduceReplicate, g5, g6]
        exact GrK.bad hq
      · have g6 : decide (u < 5) = false := decide_eq_false hu1
        have g7 : decide (u > 9223372036854775804) = true := decide_eq_true (by omega)
        simp (maxSteps := 1000000) -implicitDefEqProofs only [go_sem, seval, -List.reduceReplicate, g5, g6, g7]
        exact GrK.bad hq
    rw [if_neg hu] at hq
    have g6 : decide (u < 5) = false := decide_eq_false (by omega)
    have g7 : decide (u > 9223372036854775804) = false := decide_eq_false (by omega)
    simp (maxSteps := 1000000) -implicitDefEqProofs only [go_sem, seval, -List.reduceReplicate, g5, g6, g7]
    refine (rnumOk b at2 k5 hb).flat0 ⟨argx_roX rfl, rfl, trivial⟩ (fun _ => rfl) rfl ?_
    have ht2 : ((at2 : Nat) : Int).toNat = at2 := rfl
    have hq : gAll b = if (rnu b at2).2.2 = 0 then gRec b (M - (i + 1)) (rnu b at2).2.1.toNat (R ++ [(u, (rnu b at2).1)]) else ([], 0, (rnu b at2).2.2) := hq
    have hfine := rnu_fine b at2 k5
    obtain ⟨p, n2, e2, hr2⟩ : ∃ u n w, rnu b at2 = (u, n, w) := ⟨_, _, _, rfl⟩
    rw [hr2] at hq hfine ⊢
    by_cases hb2 : e2 = 0
    rotate_left
    · have g8 : (e2 != 0) = true := by rw [bne_iff_ne]; exact hb2
      simp (maxSteps := 1000000) -implicitDefEqProofs only [go_sem, seval, -List.reduceReplicate, g8]
      exact GrK.bad (hq.trans (if_neg hb2))
    have g8 : (e2 != 0) = false := by rw [bne_eq_false_iff_eq]; exact hb2
    subst hb2
    rcases hfine with ⟨_, y1, y2, at3, y3, y4, y5⟩ | h5 | h5
    rotate_left
    · exact absurd (show (0 : Int) = 2 from h5) (by decide)
    · exact absurd (show (0 : Int) = 8 from h5) (by decide)
    have y3 : n2 = (at3 : Int) := y3
    subst y3
    rw [if_pos rfl] at hq
    have hq : gAll b = gRec b (M - (i + 1)) at3 (R ++ [(u, p)]) := hq
    have hz : zfill [AV.int .i64 0, AV.int .i64 0] 2 = [AV.int .i64 0, AV.int .i64 0] := rfl
    simp (maxSteps := 1000000) -implicitDefEqProofs only [go_sem, seval, -List.reduceReplicate, g8, byR50, hz]
    refine ⟨.inr trivial, rfl, rfl, ?_⟩
    have gc := Gr.cons J.nd J.mlt (.cells [AV.int .i64 u, AV.int .i64 p] 50)
    have hlR : (rcs R).length = i * 2 := by rw [rcs_len, J.len]
    have hs : rcs R ++ [AV.int .i64 u, AV.int .i64 p] = rcs (R ++ [(u, p)]) := rcs_app R [(u, p)]
    refine appk_sl (j := 1) (Y := [AV.int .i64 u, AV.int .i64 p]) (J.sl.grow gc) J.nro gc.nd gc.lt (fun _ _ => rfl) rfl rfl (by decide) (by omega) ?_
    intro v' m' nx' ns' c1 c2 c3 c4 c5 c6 c7 c8
    rw [hs] at c1 c2
    simp (maxSteps := 1000000) -implicitDefEqProofs only [go_sem, seval, -List.reduceReplicate, w1]
    exact UpX_normal (by omega) (v', ns', at3, R ++ [(u, p)], m', nx') ⟨c1, c2, by rw [List.length_append, J.len]; rfl, h, y5, by show i + 1 < at3; omega, hq, c5, c6⟩ (Le.sameT (Nat.zero_le _) ⟨rfl, rfl, rfl, rfl, rfl, rfl, rfl, rfl, trivial⟩ (memSame_slf c5) c5)
  · have g4 : decide ((i : Int) < (M : Int)) = false := decide_eq_false (by omega)
    simp (maxSteps := 1000000) -implicitDefEqProofs only [go_sem, seval, -List.reduceReplicate, g4, q1, q2, q3, q4, q5]
    have hq := J.eq
    rw [show M - i = 0 by omega, gRec] at hq
    have hpl : padN at_ ≤ 3 := by unfold padN; omega
    refine LoopOk.upX (fun j (x : Unit) => at_ + j ≤ b.length ∧ gAll b = gPad b (padN at_ - j) (at_ + j) R) (padN at_) (fun j x => ([(8, v), (6, .int .i64 ((at_ + j : Nat) : Int)), (4, .int .i64 0), (3, .int .i64 0), (2, .nils), (0, .ro b.length (bvs .u8 b))], m, nx)) () ⟨atl, hq⟩ ?_ ?_
    · exact Le.sameT (Nat.zero_le _) ⟨rfl, rfl, rfl, rfl, rfl, rfl, trivial⟩ (memSame_slf J.nd) J.nd
    rintro j ⟨⟩ ⟨hj, hal, hq⟩
    have hal : at_ + j ≤ b.length := hal
    have hq : gAll b = gPad b (padN at_ - j) (at_ + j) R := hq
    rcases Nat.lt_or_ge j (padN at_) with h' | h'
    · have g6 : (((at_ + j : Nat) : Int).tmod 4 != 0) = true := by
        rw [bne_iff_ne]
        intro e
        rw [Int.tmod_eq_emod_of_nonneg (by omega)] at e
        unfold padN at h'
        omega
      rw [show padN at_ - j = (padN at_ - (j + 1)) + 1 by omega, gPad] at hq
      by_cases hle : b.length ≤ at_ + j
      · rw [if_pos hle] at hq
        have g7 : decide (((at_ + j : Nat) : Int) ≥ (b.length : Int)) = true := decide_eq_true (by omega)
        simp (maxSteps := 1000000) -implicitDefEqProofs only [go_sem, seval, -List.reduceReplicate, q1, q2, q3, q4, q5, g6, g7]
        exact GrK.bad hq
      rw [if_neg hle] at hq
      have g7 : decide (((at_ + j : Nat) : Int) ≥ (b.length : Int)) = false := decide_eq_false (by omega)
      have hld : 0 < (b.drop (at_ + j)).length := by rw [List.length_drop]; omega
      have w2 : IntKind.i64.wrap (((at_ + j : Nat) : Int) + 1) = ((at_ + (j + 1) : Nat) : Int) := by rw [wrap_i64] <;> omega
      by_cases hz : b.getD (at_ + j) 0 = 0
      · have g8 : (b.getD (at_ + j) 0#8 != 0#8) = false := by rw [bne_eq_false_iff_eq]; exact hz
        rw [if_pos hz] at hq
        simp (maxSteps := 1000000) -implicitDefEqProofs only [go_sem, seval, -List.reduceReplicate, q1, q2, q3, q4, q5, g6, g7, g8, w2]
        refine ⟨by omega, by omega, hld, ?_⟩
        exact UpX_normal h' () ⟨by omega, hq⟩ (Le.sameT (Nat.zero_le _) ⟨rfl, rfl, rfl, rfl, rfl, rfl, trivial⟩ (memSame_slf J.nd) J.nd)
      · have g8 : (b.getD (at_ + j) 0#8 != 0#8) = true := by rw [bne_iff_ne]; exact hz
        rw [if_neg hz] at hq
        simp (maxSteps := 1000000) -implicitDefEqProofs only [go_sem, seval, -List.reduceReplicate, q1, q2, q3, q4, q5, g6, g7, g8, w2]
        exact ⟨by omega, by omega, hld, GrK.bad hq⟩
    · have hje : j = padN at_ := by omega
      have g6 : (((at_ + j : Nat) : Int).tmod 4 != 0) = false := by
        rw [bne_eq_false_iff_eq, Int.tmod_eq_emod_of_nonneg (by omega), hje]
        unfold padN
        omega
      rw [show padN at_ - j = 0 by omega, gPad] at hq
      have w4 : IntKind.i64.wrap (((at_ + j : Nat) : Int) + 4) = ((at_ + j + 4 : Nat) : Int) := by rw [wrap_i64] <;> omega
      rw [gSum] at hq
      by_cases hl4 : b.length < at_ + j + 4
      · rw [if_pos hl4] at hq
        have g9 : decide (((at_ + j + 4 : Nat) : Int) > (b.length : Int)) = true := decide_eq_true (by omega)
        simp (maxSteps := 1000000) -implicitDefEqProofs only [go_sem, seval, -List.reduceReplicate, q1, q2, q3, q4, q5, g6, w4, g9]
        exact GrK.bad hq
      rw [if_neg hl4] at hq
      have g9 : decide (((at_ + j + 4 : Nat) : Int) > (b.length : Int)) = false := decide_eq_false (by omega)
      simp (maxSteps := 1000000) -implicitDefEqProofs only [go_sem, seval, -List.reduceReplicate, q1, q2, q3, q4, q5, g6, w4, g9]
      refine ⟨Fx.mixed, .inl ⟨[(0, false), (1, false), (2, false), (3, false), (4, false), (5, false), (6, false), (7, false), (8, false), (9, true), (10, true), (11, false)], [], by kernel_rfl, (fun n hn => by cases hn), ?_⟩⟩
      simp (maxSteps := 1000000) -implicitDefEqProofs only [go_sem, seval, -List.reduceReplicate, u8s_bvs, strOf_def, w4]
      refine ⟨⟨by omega, by omega⟩, by rw [List.length_take, List.length_drop]; omega, by omega, ?_⟩
      refine CallG.byK (refSumOk 1 (b.take (at_ + j)) (by rw [List.length_take]; omega)) rfl J.nd J.mlt ⟨rfl, argx_roX (by rw [List.length_take]; omega), trivial⟩ ?_
      intro v3 m3 nx3 ns3 e1 e2 e3 g3'
      simp (maxSteps := 1000000) -implicitDefEqProofs only [go_sem, seval, -List.reduceReplicate]
      rw [e1.cvx elB intB strT9]
      simp (maxSteps := 1000000) -implicitDefEqProofs only [go_sem, seval, -List.reduceReplicate, strEq]
      have t4 : List.take (at_ + j + 4 - (at_ + j)) (List.take (at_ + j + 4 - (at_ + j)) (List.drop (at_ + j) b)) = (b.drop (at_ + j)).take 4 := by
        rw [show at_ + j + 4 - (at_ + j) = 4 by omega, List.take_take, Nat.min_self]
      by_cases hc : (b.drop (at_ + j)).take 4 = chk 1 (b.take (at_ + j))
      · rw [if_pos hc] at hq
        have g10 : decide ((b.drop (at_ + j)).take 4 = chk 1 (b.take (at_ + j))) = true := decide_eq_true hc
        simp (maxSteps := 1000000) -implicitDefEqProofs only [go_sem, seval, -List.reduceReplicate, t4, g10, q1, q2, q3, q4, q5, w4]
        exact GrK.good hq J.len (J.sl.grow g3') J.nro
      · rw [if_neg hc] at hq
        have g10 : decide ((b.drop (at_ + j)).take 4 = chk 1 (b.take (at_ + j))) = false := decide_eq_false hc
        simp (maxSteps := 1000000) -implicitDefEqProofs only [go_sem, seval, -List.reduceReplicate, t4, g10]
        exact GrK.bad hq
end Go.Proofs.Ytmdeoikpiiambaa
end
section
/- An index: the records that any bytes hold are in their range. BRIEF -/
set_option linter.unusedVariables false
set_option linter.unusedSimpArgs false
set_option maxRecDepth 100000
namespace Go.Proofs.Ytmdeoikpiiambaa
open Go Go.Eng

def goodI (R : List (Int × Int)) : Prop := ∀ r ∈ R, fitB r = true ∧ r.2 < 9223372036854775808
theorem goodI_nil : goodI [] := fun r h => by cases h
theorem goodI.rng {R : List (Int × Int)} (h : goodI R) : rngI R := fun r hr => by
  obtain ⟨h1, h2⟩ := h r hr
  unfold fitB at h1
  simp only [Bool.and_eq_true, decide_eq_true_eq] at h1
  omega
theorem gSum_good {b : List (BitVec 8)} {at_ : Nat} {R : List (Int × Int)} (h : goodI R) : goodI (gSum b at_ R).1 := by
  unfold gSum
  split
  · exact goodI_nil
  · split
    · exact h
    · exact goodI_nil
theorem gPad_good {b : List (BitVec 8)} {R : List (Int × Int)} (h : goodI R) : ∀ n at_, goodI (gPad b n at_ R).1
  | 0, at_ => gSum_good h
  | n + 1, at_ => by
    rw [gPad]
    split
    · exact goodI_nil
    · split
      · exact gPad_good h n _
      · exact goodI_nil
theorem gRec_good {b : List (BitVec 8)} : ∀ n at_ R, at_ ≤ b.length → goodI R → goodI (gRec b n at_ R).1
  | 0, at_, R, _, h => gPad_good h _ _
  | n + 1, at_, R, ha, h => by
    rw [gRec]
    by_cases h1 : (rnu b at_).2.2 = 0
    rotate_left
    · rw [if_neg h1]; exact goodI_nil
    rw [if_pos h1]
    by_cases h2 : (rnu b at_).1 < 5 ∨ (rnu b at_).1 > 9223372036854775804
    · rw [if_pos h2]; exact goodI_nil
    rw [if_neg h2]
    rcases rnu_fine b at_ ha with ⟨_, k1, k2, at2, k3, k4, k5⟩ | k | k
    rotate_left
    · rw [k] at h1; exact absurd h1 (by decide)
    · rw [k] at h1; exact absurd h1 (by decide)
    have e2 : (rnu b at_).2.1.toNat = at2 := by rw [k3]; rfl
    rw [e2]
    by_cases h3 : (rnu b at2).2.2 = 0
    rotate_left
    · rw [if_neg h3]; exact goodI_nil
    rw [if_pos h3]
    rcases rnu_fine b at2 k5 with ⟨_, y1, y2, at3, y3, y4, y5⟩ | k | k
    rotate_left
    · rw [k] at h3; exact absurd h3 (by decide)
    · rw [k] at h3; exact absurd h3 (by decide)
    have e3 : (rnu b at2).2.1.toNat = at3 := by rw [y3]; rfl
    rw [e3]
    refine gRec_good n at3 _ y5 fun r hr => ?_
    rcases List.mem_append.1 hr with hr | hr
    · exact h r hr
    · rw [List.mem_singleton.1 hr]
      refine ⟨?_, y2⟩
      unfold fitB
      simp only [Bool.and_eq_true, decide_eq_true_eq]
      omega
theorem gAll_good (b : List (BitVec 8)) : goodI (gAll b).1 := by
  rw [gAll]
  split
  · exact goodI_nil
  next h0 =>
  have hl : 1 ≤ b.length := by cases b with | nil => exact absurd rfl h0 | cons x t => rw [List.length_cons]; omega
  split
  · by_cases h1 : (rnu b 1).2.2 = 0
    · rw [if_pos h1]
      rcases rnu_fine b 1 hl with ⟨_, k1, k2, at2, k3, k4, k5⟩ | k | k
      · have e2 : (rnu b 1).2.1.toNat = at2 := by rw [k3]; rfl
        rw [e2]
        exact gRec_good _ _ _ k5 goodI_nil
      · rw [k] at h1; exact absurd h1 (by decide)
      · rw [k] at h1; exact absurd h1 (by decide)
    · rw [if_neg h1]; exact goodI_nil
  · exact goodI_nil
end Go.Proofs.Ytmdeoikpiiambaa
end
section
/- An index: what the program gets. BRIEF -/
set_option linter.unusedVariables false
set_option linter.unusedSimpArgs false
set_option maxRecDepth 100000
namespace Go.Proofs.Ytmdeoikpiiambaa
open Go Go.Eng

/-- the program's number is the document's -/
theorem nu_rnu (b : List (BitVec 8)) (at_ : Nat) (ha : at_ ≤ b.length) : nuB b at_ 0 = (rnu b at_).2.2 ∧ ((rnu b at_).2.2 = 0 → nuV b at_ 0 = (rnu b at_).1 ∧ ((nuA b at_ 0 : Nat) : Int) = (rnu b at_).2.1) ∧ nuA b at_ 0 ≤ b.length := by
  have hl : (b.drop at_).length = b.length - at_ := List.length_drop ..
  rw [nuB, nuV, nuA, rnu, if_pos rfl, if_pos rfl, if_pos rfl, nuR]
  rcases gRes_cases (b.drop at_) 9 0 with h | h | ⟨j, a1, a2, a3, a4⟩
  · rw [h]; exact ⟨rfl, (fun e => absurd (show (2 : Int) = 0 from e) (by decide)), ha⟩
  · rw [h]; exact ⟨rfl, (fun e => absurd (show (8 : Int) = 0 from e) (by decide)), ha⟩
  · rw [a4]
    refine ⟨rfl, fun _ => ⟨rfl, rfl⟩, ?_⟩
    show at_ + (j + 1) ≤ _
    omega
theorem tkXlen (b : List (BitVec 8)) (at_ : Nat) (bad : Int) (n : Nat) : (tkX b at_ bad n).length = n := by
  unfold tkX
  by_cases h : tkB b at_ bad n = 0
  · rw [if_pos h, List.length_take, List.length_drop]
    unfold tkB at h
    by_cases g : bad = 0 ∧ b.length < at_ + n
    · rw [if_pos g] at h; exact absurd h (by decide)
    · rw [if_neg g] at h
      omega
  · rw [if_neg h, List.length_replicate]
theorem el5 : elemT Try.prog 22 = some 5 := by kernel_rfl
theorem sz5 : sizeT Try.prog 5 = some 1 := by kernel_rfl
theorem kn5 : known Try.prog 5 = true := by kernel_rfl
theorem ag5 : aggT Try.prog 5 = false := by kernel_rfl
/-- an element of bytes somewhere -/
theorem byAt_idx {m : Mem} {v : AV} {X : List (BitVec 8)} {ns : List Nat} (h : ByAt 5 m v X ns) (i : Nat) (hi : i < X.length) :
    ∃ p, (∀ k : AV → Prop, k p → idxx Try.prog 22 v (.int .i64 (i : Nat)) k) ∧ (∀ k : AV → Prop, k (.int .u8 ((X.getD i 0).toNat : Int)) → loadx Try.prog (fun _ => true) m 5 p k) := by
  rcases h with ⟨rfl, rfl, rfl⟩ | ⟨rfl, rfl⟩ | ⟨n, off, cap, pre, sp, rfl, rfl, hl, hp, h1, h2, h3, h4, h5⟩
  · cases hi
  · refine ⟨.rop ((bvs .u8 X).drop i), fun k hk => ?_, fun k hk => ?_⟩
    · rw [idxx_ro, el5]
      refine ⟨5, rfl, 1, sz5, ⟨by omega, by omega⟩, by rw [bvs_length]; show i * 1 < _; omega, ?_⟩
      show k (.rop ((bvs .u8 X).drop (i * 1)))
      rw [Nat.mul_one]; exact hk
    · show known _ _ = true ∧ pickx (aggT Try.prog 5) _ _ _ _ _
      rw [ag5]
      refine ⟨kn5, ?_⟩
      refine ⟨by rw [List.length_drop, bvs_length]; omega, ?_⟩
      have e : ((bvs .u8 X).drop i).getD 0 (.int .u8 0) = .int .u8 ((X.getD i 0).toNat : Int) := by
        rw [← bvs_getD, List.getD_eq_getElem?_getD, List.getElem?_drop, Nat.add_zero, ← List.getD_eq_getElem?_getD]
      have d : dflt Try.prog 5 = .int .u8 0 := by kernel_rfl
      rw [d, e]; exact hk
  · refine ⟨.ptr n (off + i), fun k hk => ?_, fun k hk => ?_⟩
    · rw [idxx_sl, el5]
      refine ⟨5, rfl, 1, sz5, ⟨by omega, by omega⟩, ?_⟩
      show k (.ptr n (off + i * 1))
      rw [Nat.mul_one]; exact hk
    · unfold loadx
      simp only [hl]
      rw [ag5]
      refine ⟨trivial, kn5, ?_⟩
      refine ⟨by rw [List.length_append, List.length_append, bvs_length]; omega, ?_⟩
      have e : (pre ++ (bvs .u8 X ++ sp)).getD (off + i) (.int .u8 0) = .int .u8 ((X.getD i 0).toNat : Int) := by
        rw [← bvs_getD, List.getD_eq_getElem?_getD, List.getElem?_append_right (by omega), show off + i - pre.length = i by omega, List.getElem?_append_left (by rw [bvs_length]; exact hi), ← List.getD_eq_getElem?_getD]
      have d : dflt Try.prog 5 = .int .u8 0 := by kernel_rfl
      rw [d, e]; exact hk
/-- what a reader gets, step by step: the state ahead of each step -/
structure GJ (b : List (BitVec 8)) (v : AV) (ns : List Nat) (at_ : Nat) (bad : Int) (i : Nat) (R : List (Int × Int)) (m : Mem) (nx : Nat) : Prop where
  sl : SlA 126 2 m v i (rcs R) ns
  nro : v ≠ .ro i (rcs R)
  len : R.length = i
  n0 : 0 ∉ ns
  rd : Eng.look m 0 = some (rdO b (at_ : Int) bad)
  nd : (m.map fun p => p.1).Nodup
  mlt : ∀ p ∈ m, p.1 < nx
  atl : at_ ≤ b.length
theorem GJ.ne0 {b : List (BitVec 8)} {v : AV} {ns : List Nat} {at_ : Nat} {bad : Int} {i : Nat} {R : List (Int × Int)} {m : Mem} {nx : Nat} (J : GJ b v ns at_ bad i R m nx) : ∀ j ∈ ns, 0 ≠ j := fun j hj e => J.n0 (by rw [e]; exact hj)
theorem GJ.pos {b : List (BitVec 8)} {v : AV} {ns : List Nat} {at_ : Nat} {bad : Int} {i : Nat} {R : List (Int × Int)} {m : Mem} {nx : Nat} (J : GJ b v ns at_ bad i R m nx) : 0 < nx := by
  obtain ⟨p, hp, e⟩ := look_lt J.rd; have := J.mlt p hp; omega
theorem GJ.upd {b : List (BitVec 8)} {v : AV} {ns : List Nat} {at_ : Nat} {bad : Int} {i : Nat} {R : List (Int × Int)} {m : Mem} {nx : Nat} (J : GJ b v ns at_ bad i R m nx) (at' : Nat) (bad' : Int) (h : at' ≤ b.length) : GJ b v ns at' bad' i R (Eng.upd m 0 (rdO b (at' : Int) bad')) nx :=
  ⟨J.sl.ext fun j hj o ho => by rw [look_upd_other _ (J.ne0 j hj)]; exact ho, J.nro, J.len, J.n0, look_upd_same _ J.rd, ((rdmT (nx := nx) J.nd).upd 0 _).nd, upd_lt J.mlt 0 _, h⟩
theorem GJ.grow {b : List (BitVec 8)} {v : AV} {ns : List Nat} {at_ at' : Nat} {bad bad' : Int} {i : Nat} {R : List (Int × Int)} {m m' : Mem} {nx nx' : Nat} (J : GJ b v ns at_ bad i R m nx) (h : at' ≤ b.length) (nd : (m'.map fun p => p.1).Nodup) (lt : ∀ p ∈ m', p.1 < nx') (rd : Eng.look m' 0 = some (rdO b (at' : Int) bad')) (kp : ∀ k X, k ≠ 0 → Eng.look m k = some X → Eng.look m' k = some X) : GJ b v ns at' bad' i R m' nx' :=
  ⟨J.sl.ext fun j hj o ho => kp j o (fun e => J.ne0 j hj e.symm) ho, J.nro, J.len, J.n0, rd, nd, lt, h⟩
theorem GJ.gr {b : List (BitVec 8)} {v : AV} {ns : List Nat} {at_ : Nat} {bad : Int} {i : Nat} {R : List (Int × Int)} {m m' : Mem} {nx nx' : Nat} (J : GJ b v ns at_ bad i R m nx) (g : Gr m nx m' nx') : GJ b v ns at_ bad i R m' nx' :=
  ⟨J.sl.grow g, J.nro, J.len, J.n0, g.kp _ _ J.rd, g.nd, g.lt, J.atl⟩
theorem GJ.cons {b : List (BitVec 8)} {v : AV} {ns : List Nat} {at_ : Nat} {bad : Int} {i : Nat} {R : List (Int × Int)} {m : Mem} {nx : Nat} (J : GJ b v ns at_ bad i R m nx) (o : AObj) : GJ b v ns at_ bad i R ((nx, o) :: m) (nx + 1) := J.gr (Gr.cons J.nd J.mlt o)
theorem GJ.num {b : List (BitVec 8)} {v : AV} {ns : List Nat} {at_ : Nat} {bad : Int} {i : Nat} {R : List (Int × Int)} {m : Mem} {nx : Nat} (J : GJ b v ns at_ bad i R m nx) : nuA b at_ bad ≤ b.length := by
  by_cases h : bad = 0
  · subst h; exact (nu_rnu b at_ J.atl).2.2
  · rw [nuA, if_neg h]; exact J.atl
/-- what all comes to, where so many records are still to come; an error that stands -/
def J1 (b : List (BitVec 8)) (n at_ : Nat) (bad : Int) (R : List (Int × Int)) : Prop := (bad = 0 ∧ gAll b = gRec b n at_ R) ∨ (bad ≠ 0 ∧ gAll b = ([], 0, bad))
theorem nuV_rng (b : List (BitVec 8)) (at_ : Nat) (bad : Int) : 0 ≤ nuV b at_ bad ∧ nuV b at_ bad < 9223372036854775808 := by
  rw [nuV]
  split
  · have := (gRes_fine (b.drop at_)).1
    rw [nuR]
    omega
  · exact ⟨by decide, by decide⟩
theorem nu_step (b : List (BitVec 8)) (n at_ : Nat) (R : List (Int × Int)) (ha : at_ ≤ b.length) (h : gAll b = gRec b (n + 1) at_ R) (is : Bool) (his : is = (decide (nuV b at_ 0 < 5) || decide (nuV b at_ 0 > 9223372036854775804))) :
    J1 b n (nuA b (nuA b at_ 0) (wrB is (nuB b at_ 0))) (nuB b (nuA b at_ 0) (wrB is (nuB b at_ 0))) (R ++ [(nuV b at_ 0, nuV b (nuA b at_ 0) (wrB is (nuB b at_ 0)))]) ∧ (nuB b (nuA b at_ 0) (wrB is (nuB b at_ 0)) = 0 → at_ < nuA b (nuA b at_ 0) (wrB is (nuB b at_ 0))) := by
  obtain ⟨n1, n2, n3⟩ := nu_rnu b at_ ha
  rw [gRec] at h
  by_cases h1 : (rnu b at_).2.2 = 0
  rotate_left
  · rw [if_neg h1] at h
    have e1 : wrB is (nuB b at_ 0) = nuB b at_ 0 := by rw [wrB, if_neg (fun e => h1 (by rw [← n1]; exact e.2))]
    have e2 : nuB b (nuA b at_ 0) (nuB b at_ 0) = nuB b at_ 0 := by rw [nuB, if_neg (by rw [n1]; exact h1)]
    rw [e1, e2, n1]
    exact ⟨.inr ⟨h1, h⟩, fun e => absurd e h1⟩
  rw [if_pos h1] at h
  obtain ⟨v1, a1⟩ := n2 h1
  rw [h1] at n1
  rw [n1]
  have a2 : (rnu b at_).2.1.toNat = nuA b at_ 0 := by rw [← a1]; rfl
  rw [a2, ← v1] at h
  have hlt : at_ < nuA b at_ 0 := by
    rcases rnu_fine b at_ ha with ⟨_, _, _, k, k1, k2, _⟩ | k | k
    · rw [k1] at a1; omega
    · rw [k] at h1; exact absurd h1 (by decide)
    · rw [k] at h1; exact absurd h1 (by decide)
  by_cases h2 : nuV b at_ 0 < 5 ∨ nuV b at_ 0 > 9223372036854775804
  · rw [if_pos h2] at h
    have e1 : is = true := by rw [his]; simpa using h2
    have e2 : wrB is 0 = 8 := by rw [e1]; rfl
    rw [e2]
    have e3 : nuB b (nuA b at_ 0) 8 = 8 := rfl
    rw [e3]
    exact ⟨.inr ⟨by decide, h⟩, fun e => absurd e (by decide)⟩
  rw [if_neg h2] at h
  have e1 : is = false := by rw [his]; simpa using h2
  have e2 : wrB is 0 = 0 := by rw [e1]; rfl
  rw [e2]
  obtain ⟨m1, m2, m3⟩ := nu_rnu b (nuA b at_ 0) n3
  by_cases h3 : (rnu b (nuA b at_ 0)).2.2 = 0
  rotate_left
  · rw [if_neg h3] at h
    rw [m1]
    exact ⟨.inr ⟨h3, h⟩, fun e => absurd e h3⟩
  rw [if_pos h3] at h
  obtain ⟨v2, a3⟩ := m2 h3
  have a4 : (rnu b (nuA b at_ 0)).2.1.toNat = nuA b (nuA b at_ 0) 0 := by rw [← a3]; rfl
  rw [a4, ← v2] at h
  rw [m1, h3]
  refine ⟨.inl ⟨rfl, h⟩, fun _ => ?_⟩
  rcases rnu_fine b (nuA b at_ 0) n3 with ⟨_, _, _, k, k1, k2, _⟩ | k | k
  · rw [k1] at a3; omega
  · rw [k] at h3; exact absurd h3 (by decide)
  · rw [k] at h3; exact absurd h3 (by decide)
/-- the begin: the first byte, how many records -/
theorem nu_first (b : List (BitVec 8)) (is : Bool) (his : is = ((tkX b 0 0 1).getD 0 0#8 != 0#8)) : J1 b (nuV b (tkA b 0 0 1) (wrB is (tkB b 0 0 1))).toNat (nuA b (tkA b 0 0 1) (wrB is (tkB b 0 0 1))) (nuB b (tkA b 0 0 1) (wrB is (tkB b 0 0 1))) [] ∧ (nuB b (tkA b 0 0 1) (wrB is (tkB b 0 0 1)) = 0 → 0 < nuA b (tkA b 0 0 1) (wrB is (tkB b 0 0 1))) ∧ tkA b 0 0 1 ≤ b.length := by
  have his : is = ((tkX b 0 0 1).getD 0 0 != 0) := his
  by_cases h0 : b = []
  · subst h0
    have e1 : tkB [] 0 0 1 = 2 := rfl
    have e2 : wrB is 2 = 2 := by rw [wrB, if_neg (fun e => absurd e.2 (by decide))]
    rw [e1, e2]
    have e3 : ∀ a, nuB [] a 2 = 2 := fun a => rfl
    rw [e3]
    exact ⟨.inr ⟨by decide, rfl⟩, (fun e => absurd e (by decide)), by decide⟩
  have hl : 1 ≤ b.length := by cases b with | nil => exact absurd rfl h0 | cons x t => rw [List.length_cons]; omega
  have e1 : tkB b 0 0 1 = 0 := by rw [tkB, if_neg (by omega)]
  have e2 : tkA b 0 0 1 = 1 := by rw [tkA, if_pos e1]
  have e3 : (tkX b 0 0 1).getD 0 0 = b.getD 0 0 := by
    rw [tkX, if_pos e1]
    cases b with
    | nil => exact absurd rfl h0
    | cons x t => rfl
  rw [e1, e2]
  rw [e3] at his
  by_cases hz : b.getD 0 0 = 0
  rotate_left
  · have e4 : is = true := by rw [his]; simpa using hz
    have e5 : wrB is 0 = 8 := by rw [e4]; rfl
    rw [e5]
    have e6 : nuB b 1 8 = 8 := rfl
    rw [e6]
    exact ⟨.inr ⟨by decide, by rw [gAll, if_neg h0, if_neg hz]⟩, (fun e => absurd e (by decide)), hl⟩
  have e4 : is = false := by rw [his, hz]; rfl
  have e5 : wrB is 0 = 0 := by rw [e4]; rfl
  rw [e5]
  obtain ⟨n1, n2, n3⟩ := nu_rnu b 1 hl
  have hg : gAll b = if (rnu b 1).2.2 = 0 then gRec b (rnu b 1).1.toNat (rnu b 1).2.1.toNat [] else ([], 0, (rnu b 1).2.2) := by rw [gAll, if_neg h0, if_pos hz]
  by_cases h1 : (rnu b 1).2.2 = 0
  rotate_left
  · rw [n1]
    rw [if_neg h1] at hg
    exact ⟨.inr ⟨h1, hg⟩, (fun e => absurd e h1), hl⟩
  rw [if_pos h1] at hg
  obtain ⟨v1, a1⟩ := n2 h1
  have a2 : (rnu b 1).2.1.toNat = nuA b 1 0 := by rw [← a1]; rfl
  rw [a2, ← v1] at hg
  rw [n1, h1]
  refine ⟨.inl ⟨rfl, hg⟩, fun _ => ?_, hl⟩
  rcases rnu_fine b 1 hl with ⟨_, _, _, k, k1, k2, _⟩ | k | k
  · rw [k1] at a1; omega
  · rw [k] at h1; exact absurd h1 (by decide)
  · rw [k] at h1; exact absurd h1 (by decide)
/-- what all comes to, where so many zeros are still to come -/
def J2 (b : List (BitVec 8)) (n at_ : Nat) (bad : Int) (R : List (Int × Int)) : Prop := (bad = 0 ∧ gAll b = gPad b n at_ R) ∨ (bad ≠ 0 ∧ gAll b = ([], 0, bad))
theorem pad_step (b : List (BitVec 8)) (n at_ : Nat) (R : List (Int × Int)) (h : gAll b = gPad b (n + 1) at_ R) (is : Bool) (his : is = ((tkX b at_ 0 1).getD 0 0#8 != 0#8)) : J2 b n (tkA b at_ 0 1) (wrB is (tkB b at_ 0 1)) R ∧ (tkB b at_ 0 1 = 0 → tkA b at_ 0 1 = at_ + 1) := by
  have his : is = ((tkX b at_ 0 1).getD 0 0 != 0) := his
  rw [gPad] at h
  by_cases hl : b.length ≤ at_
  · rw [if_pos hl] at h
    have e1 : tkB b at_ 0 1 = 2 := by rw [tkB, if_pos ⟨rfl, by omega⟩]
    rw [e1]
    have e2 : wrB is 2 = 2 := by rw [wrB, if_neg (fun e => absurd e.2 (by decide))]
    rw [e2]
    exact ⟨.inr ⟨by decide, h⟩, fun e => absurd e (by decide)⟩
  rw [if_neg hl] at h
  have e1 : tkB b at_ 0 1 = 0 := by rw [tkB, if_neg (by omega)]
  have e2 : tkA b at_ 0 1 = at_ + 1 := by rw [tkA, if_pos e1]
  have e3 : (tkX b at_ 0 1).getD 0 0 = b.getD at_ 0 := by
    rw [tkX, if_pos e1, List.getD_eq_getElem?_getD, List.getElem?_take, if_pos (by decide), List.getElem?_drop, Nat.add_zero, ← List.getD_eq_getElem?_getD]
  rw [e1, e2]
  rw [e3] at his
  refine ⟨?_, fun _ => rfl⟩
  by_cases hz : b.getD at_ 0 = 0
  · rw [if_pos hz] at h
    have e4 : is = false := by rw [his, hz]; rfl
    have e5 : wrB is 0 = 0 := by rw [e4]; rfl
    rw [e5]
    exact .inl ⟨rfl, h⟩
  · rw [if_neg hz] at h
    have e4 : is = true := by rw [his]; simpa using hz
    have e5 : wrB is 0 = 8 := by rw [e4]; rfl
    rw [e5]
    exact .inr ⟨by decide, h⟩
end Go.Proofs.Ytmdeoikpiiambaa
end
section
/- An index: what was put is got, and what was got is put so. BRIEF -/
set_option linter.unusedVariables false
set_option linter.unusedSimpArgs false
set_option maxRecDepth 100000
namespace Go.Proofs.Ytmdeoikpiiambaa
open Go Go.Eng

theorem digs_same : ∀ (f g : Nat) (m : BitVec 64), 1 ≤ f → f ≤ g → m.toNat < 128 ^ f → digs g m = digs f m
  | 0, g, m, h, _, _ => by omega
  | f + 1, 0, m, _, h, _ => by omega
  | f + 1, g + 1, m, _, hg, hm => by
    rw [digs, digs]
    split
    · rename_i hc
      have hs : (m >>> 7).toNat = m.toNat / 128 := by rw [BitVec.toNat_ushiftRight, Nat.shiftRight_eq_div_pow]
      have hf1 : 1 ≤ f := by
        rcases Nat.eq_zero_or_pos f with h0 | h0
        · subst h0; omega
        · exact h0
      rw [digs_same f g (m >>> 7) hf1 (by omega) (by rw [hs]; rw [Nat.pow_succ] at hm; exact Nat.div_lt_of_lt_mul (by rw [Nat.mul_comm]; exact hm))]
    · rfl
theorem put_got (n : BitVec 64) (hn : n.toNat < 9223372036854775808) (more : List (BitVec 8)) : gRes (putX n ++ more) 9 0 = (n, ((putX n).length : Int), 0) := by
  have h9 : n.toNat < 128 ^ 9 := hn
  have hd : digs 10 n = digs 9 n := digs_same 9 10 n (by decide) (by decide) h9
  have hX : putX n = (digs 9 n).map byD := by rw [putX, hd]
  obtain ⟨r, h1, h2⟩ := get_digs (putX n ++ more) 9 0 n 9 (by decide) (by decide) h9 (Nat.le_refl _) (.inl rfl) (fun j hj => by
    rw [hX]
    have hl : j < ((digs 9 n).map byD).length := by rw [List.length_map]; exact hj
    refine ⟨by rw [List.length_append]; omega, ?_⟩
    rw [Nat.zero_add, List.getD_eq_getElem?_getD, List.getElem?_append_left hl, ← List.getD_eq_getElem?_getD])
  rw [h1]
  have hr : r = n := by
    refine BitVec.eq_of_toNat_eq ?_
    rw [h2]
    show 0 + n.toNat * 1 = n.toNat
    omega
  have hl : (putX n).length = (digs 9 n).length := by rw [hX, List.length_map]
  rw [hr, hl]
  congr 2
  omega
theorem got_put {b : List (BitVec 8)} {n : BitVec 64} {k : Int} (hr : gRes b 9 0 = (n, k, 0)) : k = ((putX n).length : Int) ∧ b.take (putX n).length = putX n ∧ (putX n).length ≤ b.length := by
  obtain ⟨m, m1, m2, m3, m4⟩ := get_back b 9 0 n k rfl hr
  obtain ⟨g1, g2, g3⟩ := m4 10 n (by decide) (by rw [m1]; show 0 + m * 1 = m; omega)
  have hl : (putX n).length = (digs 10 n).length := by rw [putX, List.length_map]
  rw [hl]
  refine ⟨by omega, ?_, by omega⟩
  refine List.ext_getElem? fun j => ?_
  rcases Nat.lt_or_ge j (digs 10 n).length with hj | hj
  · have h1 := g3 j hj
    have l1 : j < ((digs 10 n).map byD).length := by rw [List.length_map]; exact hj
    have l2 : j < b.length := by omega
    rw [Nat.zero_add, List.getD_eq_getElem?_getD, List.getD_eq_getElem?_getD, List.getElem?_eq_getElem l1, List.getElem?_eq_getElem l2] at h1
    rw [List.getElem?_take, if_pos hj, putX, List.getElem?_eq_getElem l1, List.getElem?_eq_getElem l2]
    exact congrArg some h1.symm
  · rw [List.getElem?_take, if_neg (by omega), List.getElem?_eq_none (by rw [putX, List.length_map]; exact hj)]
theorem ofInt_nat {n : Int} (h0 : 0 ≤ n) (h1 : n < 9223372036854775808) : ((BitVec.ofInt 64 n).toNat : Int) = n ∧ (BitVec.ofInt 64 n).toNat < 9223372036854775808 := by
  rw [BitVec.toNat_ofInt]
  omega
theorem rnu_put (P more : List (BitVec 8)) (n : Int) (h0 : 0 ≤ n) (h1 : n < 9223372036854775808) : rnu (P ++ (numX n ++ more)) P.length = (n, ((P.length + (numX n).length : Nat) : Int), 0) := by
  obtain ⟨e1, e2⟩ := ofInt_nat h0 h1
  rw [rnu, nuR, List.drop_left, numX, put_got _ e2, if_neg (by show ¬ (0 : Int) = 6; decide)]
  refine Prod.ext e1 (Prod.ext ?_ rfl)
  show (P.length : Int) + ((putX (BitVec.ofInt 64 n)).length : Int) = ((P.length + (putX (BitVec.ofInt 64 n)).length : Nat) : Int)
  omega
theorem rnu_back {b : List (BitVec 8)} {at_ : Nat} {n k : Int} (ha : at_ ≤ b.length) (h : rnu b at_ = (n, k, 0)) : 0 ≤ n ∧ n < 9223372036854775808 ∧ ∃ q : Nat, k = (q : Int) ∧ q = at_ + (numX n).length ∧ q ≤ b.length ∧ b.take q = b.take at_ ++ numX n := by
  rw [rnu] at h
  by_cases h6 : (nuR b at_).2.2 = 6
  · rw [if_pos h6] at h
    have := congrArg (fun x => x.2.2) h
    exact absurd this (by show ¬ (8 : Int) = 0; decide)
  rw [if_neg h6] at h
  have hf := (gRes_fine (b.drop at_)).1
  rw [nuR] at h
  obtain ⟨N, j, e, hr⟩ : ∃ N j e, gRes (b.drop at_) 9 0 = (N, j, e) := ⟨_, _, _, rfl⟩
  rw [hr] at h hf
  have hf : N.toNat < 9223372036854775808 := hf
  simp only [Prod.mk.injEq] at h
  obtain ⟨rfl, rfl, rfl⟩ := h
  obtain ⟨g1, g2, g3⟩ := got_put hr
  have hN : numX (N.toNat : Int) = putX N := by
    rw [numX]
    congr 1
    refine BitVec.eq_of_toNat_eq ?_
    rw [BitVec.toNat_ofInt]
    omega
  rw [hN]
  rw [List.length_drop] at g3
  refine ⟨Int.natCast_nonneg _, by omega, at_ + (putX N).length, by omega, rfl, by omega, ?_⟩
  rw [List.take_add, g2]
/-! what was put is got -/
theorem gSum_put (B more : List (BitVec 8)) (R : List (Int × Int)) : gSum (B ++ (chk 1 B ++ more)) B.length R = (R, (B.length : Int) + 4, 0) := by
  have h4 : (chk 1 B).length = 4 := lowS_len _ _
  rw [gSum, if_neg (by rw [List.length_append, List.length_append]; omega), List.drop_left, List.take_left, List.take_append_of_le_length (by omega), List.take_of_length_le (by omega), if_pos rfl]
theorem gPad_put (Z : List (BitVec 8)) (R : List (Int × Int)) : ∀ (n : Nat) (P : List (BitVec 8)), gPad (P ++ (List.replicate n 0 ++ Z)) n P.length R = gSum (P ++ (List.replicate n 0 ++ Z)) (P.length + n) R
  | 0, P => rfl
  | n + 1, P => by
    have e : P ++ (List.replicate (n + 1) 0 ++ Z) = (P ++ [0#8]) ++ (List.replicate n 0 ++ Z) := by rw [List.replicate_succ]; simp
    have ih := gPad_put Z R n (P ++ [0#8])
    rw [← e] at ih
    have hl : (P ++ [0#8]).length = P.length + 1 := List.length_append
    rw [gPad, if_neg (by rw [List.length_append, List.length_append, List.length_replicate]; omega), if_pos ?_, ← hl, ih, hl, show P.length + 1 + n = P.length + (n + 1) by omega]
    rw [List.getD_eq_getElem?_getD, List.getElem?_append_right (Nat.le_refl _), Nat.sub_self]
    rfl
theorem gRec_put (Z : List (BitVec 8)) : ∀ (T R : List (Int × Int)) (P : List (BitVec 8)), goodI T → gRec (P ++ (recB T ++ Z)) T.length P.length R = gPad (P ++ (recB T ++ Z)) (padN (P ++ recB T).length) (P ++ recB T).length (R ++ T)
  | [], R, P, h => by
    show gPad _ (padN P.length) P.length R = _
    rw [recB, List.append_nil, List.append_nil]
  | r :: T, R, P, h => by
    obtain ⟨hf, h2⟩ := h r (.head _)
    unfold fitB at hf
    simp only [Bool.and_eq_true, decide_eq_true_eq] at hf
    have e1 : P ++ (recB (r :: T) ++ Z) = P ++ (numX r.1 ++ (numX r.2 ++ (recB T ++ Z))) := by simp only [recB, List.append_assoc]
    have e2 : P ++ (recB (r :: T) ++ Z) = (P ++ numX r.1) ++ (numX r.2 ++ (recB T ++ Z)) := by simp only [recB, List.append_assoc]
    have e3 : P ++ (recB (r :: T) ++ Z) = (P ++ numX r.1 ++ numX r.2) ++ (recB T ++ Z) := by simp only [recB, List.append_assoc]
    have n1 := rnu_put P (numX r.2 ++ (recB T ++ Z)) r.1 (by omega) (by omega)
    have n2 := rnu_put (P ++ numX r.1) (recB T ++ Z) r.2 (by omega) (by omega)
    have ih := gRec_put Z T (R ++ [r]) (P ++ numX r.1 ++ numX r.2) (fun x hx => h x (.tail _ hx))
    rw [← e1] at n1
    rw [← e2, List.length_append] at n2
    rw [← e3] at ih
    have e4 : P ++ numX r.1 ++ numX r.2 ++ recB T = P ++ recB (r :: T) := by simp only [recB, List.append_assoc]
    rw [e4, List.append_assoc R] at ih
    have l2 : (P ++ numX r.1 ++ numX r.2).length = P.length + (numX r.1).length + (numX r.2).length := by rw [List.length_append, List.length_append]
    rw [l2] at ih
    rw [List.length_cons, gRec, n1]
    rw [if_pos rfl, if_neg (by show ¬ (r.1 < 5 ∨ r.1 > 9223372036854775804); omega)]
    have t1 : ((((P.length + (numX r.1).length : Nat) : Int), (0 : Int)).1).toNat = P.length + (numX r.1).length := rfl
    show (if (rnu _ (((P.length + (numX r.1).length : Nat) : Int)).toNat).2.2 = 0 then _ else _) = _
    rw [Int.toNat_natCast, n2, if_pos rfl]
    show gRec _ T.length (((P.length + (numX r.1).length + (numX r.2).length : Nat) : Int)).toNat (R ++ [(r.1, r.2)]) = _
    rw [Int.toNat_natCast]
    exact ih
theorem idxA_eq (R : List (Int × Int)) : idxA R = [0#8] ++ numX (R.length : Nat) ++ recB R := rfl
theorem gAll_put (R : List (Int × Int)) (more : List (BitVec 8)) (hR : R.length ≤ 1000) (h : goodI R) : gAll (idxX R ++ more) = (R, ((idxX R).length : Int), 0) := by
  have e0 : idxX R ++ more = [0#8] ++ (numX (R.length : Nat) ++ (recB R ++ (List.replicate (padN (idxA R).length) 0 ++ (chk 1 (idxB R) ++ more)))) := by
    rw [idxX, idxB]; simp only [idxA_eq, List.append_assoc]
  have e1 : idxX R ++ more = ([0#8] ++ numX (R.length : Nat)) ++ (recB R ++ (List.replicate (padN (idxA R).length) 0 ++ (chk 1 (idxB R) ++ more))) := by
    rw [e0, List.append_assoc]
  have e2 : idxX R ++ more = idxA R ++ (List.replicate (padN (idxA R).length) 0 ++ (chk 1 (idxB R) ++ more)) := by
    rw [e1, idxA_eq]; simp only [List.append_assoc]
  have e3 : idxX R ++ more = idxB R ++ (chk 1 (idxB R) ++ more) := by rw [idxX, List.append_assoc]
  have n1 := rnu_put [0#8] (recB R ++ (List.replicate (padN (idxA R).length) 0 ++ (chk 1 (idxB R) ++ more))) (R.length : Nat) (by omega) (by omega)
  rw [← e0] at n1
  have r1 := gRec_put (List.replicate (padN (idxA R).length) 0 ++ (chk 1 (idxB R) ++ more)) R [] ([0#8] ++ numX (R.length : Nat)) h
  rw [← e1, ← idxA_eq, List.nil_append] at r1
  have p1 := gPad_put (chk 1 (idxB R) ++ more) R (padN (idxA R).length) (idxA R)
  rw [← e2] at p1
  have s1 := gSum_put (idxB R) more R
  rw [← e3] at s1
  have lB : (idxB R).length = (idxA R).length + padN (idxA R).length := by rw [idxB, List.length_append, List.length_replicate]
  have lX : (idxX R).length = (idxB R).length + 4 := by rw [idxX, List.length_append]; congr 1
  have h0 : idxX R ++ more ≠ [] := by rw [e0]; simp
  rw [gAll, if_neg h0, if_pos (by rw [e0]; rfl)]
  have n1 : rnu (idxX R ++ more) 1 = (((R.length : Nat) : Int), ((1 + (numX (R.length : Nat)).length : Nat) : Int), 0) := n1
  rw [n1, if_pos rfl]
  show gRec _ ((R.length : Nat) : Int).toNat (((1 + (numX (R.length : Nat)).length : Nat) : Int)).toNat [] = _
  rw [Int.toNat_natCast, Int.toNat_natCast]
  have l1 : ([0#8] ++ numX (R.length : Nat)).length = 1 + (numX (R.length : Nat)).length := List.length_append
  rw [l1] at r1
  rw [r1, p1, ← lB, s1, lX]
  rfl
/-! what was got is put so -/
theorem gSum_back {b : List (BitVec 8)} {at_ : Nat} {R S : List (Int × Int)} {k : Int} (h : gSum b at_ R = (S, k, 0)) : S = R ∧ k = ((at_ + 4 : Nat) : Int) ∧ at_ + 4 ≤ b.length ∧ b.take (at_ + 4) = b.take at_ ++ chk 1 (b.take at_) := by
  rw [gSum] at h
  split at h
  · exact absurd (congrArg (fun x => x.2.2) h) (by show ¬ (2 : Int) = 0; decide)
  split at h
  · rename_i h1 h2
    simp only [Prod.mk.injEq] at h
    obtain ⟨rfl, rfl, _⟩ := h
    exact ⟨rfl, by omega, by omega, by rw [List.take_add, h2]⟩
  · exact absurd (congrArg (fun x => x.2.2) h) (by show ¬ (8 : Int) = 0; decide)
theorem take_succ_get (b : List (BitVec 8)) (at_ : Nat) (h : at_ < b.length) : b.take (at_ + 1) = b.take at_ ++ [b.getD at_ 0] := by
  rw [List.take_add_one, List.getD_eq_getElem?_getD, List.getElem?_eq_getElem h]; rfl
theorem gPad_back {b : List (BitVec 8)} {R S : List (Int × Int)} {k : Int} : ∀ (n at_ : Nat), at_ ≤ b.length → gPad b n at_ R = (S, k, 0) → gSum b (at_ + n) R = (S, k, 0) ∧ b.take (at_ + n) = b.take at_ ++ List.replicate n 0 ∧ at_ + n ≤ b.length
  | 0, at_, ha, h => ⟨h, by simp, ha⟩
  | n + 1, at_, ha, h => by
    rw [gPad] at h
    split at h
    · exact absurd (congrArg (fun x => x.2.2) h) (by show ¬ (2 : Int) = 0; decide)
    split at h
    · rename_i h1 h2
      obtain ⟨i1, i2, i3⟩ := gPad_back n (at_ + 1) (by omega) h
      rw [show at_ + (n + 1) = at_ + 1 + n by omega]
      refine ⟨i1, ?_, i3⟩
      rw [i2, take_succ_get b at_ (by omega), h2, List.replicate_succ]
      simp
    · exact absurd (congrArg (fun x => x.2.2) h) (by show ¬ (8 : Int) = 0; decide)
theorem gRec_back {b : List (BitVec 8)} {S : List (Int × Int)} {k : Int} : ∀ (n at_ : Nat) (R : List (Int × Int)), at_ ≤ b.length → gRec b n at_ R = (S, k, 0) →
    ∃ T, T.length = n ∧ at_ + (recB T).length ≤ b.length ∧ b.take (at_ + (recB T).length) = b.take at_ ++ recB T ∧ gPad b (padN (at_ + (recB T).length)) (at_ + (recB T).length) (R ++ T) = (S, k, 0)
  | 0, at_, R, ha, h => ⟨[], rfl, ha, by simp [recB], by rw [gRec] at h; simpa [recB] using h⟩
  | n + 1, at_, R, ha, h => by
    rw [gRec] at h
    by_cases h1 : (rnu b at_).2.2 = 0
    rotate_left
    · rw [if_neg h1] at h
      exact absurd (congrArg (fun x => x.2.2) h) h1
    rw [if_pos h1] at h
    by_cases h2 : (rnu b at_).1 < 5 ∨ (rnu b at_).1 > 9223372036854775804
    · rw [if_pos h2] at h
      exact absurd (congrArg (fun x => x.2.2) h) (by show ¬ (8 : Int) = 0; decide)
    rw [if_neg h2] at h
    obtain ⟨u, k1, e, hr⟩ : ∃ u k1 e, rnu b at_ = (u, k1, e) := ⟨_, _, _, rfl⟩
    rw [hr] at h h1
    have h1 : e = 0 := h1
    subst h1
    obtain ⟨_, _, q, rfl, q1, q2, q3⟩ := rnu_back ha hr
    have eq1 : ((((q : Nat) : Int), (0 : Int)).1).toNat = q := rfl
    have h : (if (rnu b q).2.2 = 0 then gRec b n (rnu b q).2.1.toNat (R ++ [(u, (rnu b q).1)]) else ([], 0, (rnu b q).2.2)) = (S, k, 0) := h
    by_cases h3 : (rnu b q).2.2 = 0
    rotate_left
    · rw [if_neg h3] at h
      exact absurd (congrArg (fun x => x.2.2) h) h3
    rw [if_pos h3] at h
    obtain ⟨v, k2, e, hr2⟩ : ∃ u k1 e, rnu b q = (u, k1, e) := ⟨_, _, _, rfl⟩
    rw [hr2] at h h3
    have h3 : e = 0 := h3
    subst h3
    obtain ⟨_, _, p, rfl, p1, p2, p3⟩ := rnu_back q2 hr2
    have h : gRec b n p (R ++ [(u, v)]) = (S, k, 0) := h
    obtain ⟨T, t1, t2, t3, t4⟩ := gRec_back n p (R ++ [(u, v)]) p2 h
    have el : at_ + (recB ((u, v) :: T)).length = p + (recB T).length := by
      rw [recB, List.length_append, List.length_append, p1, q1]
      show at_ + ((numX u).length + ((numX v).length + _)) = _
      omega
    refine ⟨(u, v) :: T, by rw [List.length_cons, t1], by rw [el]; exact t2, ?_, ?_⟩
    · rw [el, t3, p3, q3, recB]
      simp only [List.append_assoc]
    · rw [el]
      rw [List.append_assoc] at t4
      exact t4
theorem recB_ge : ∀ S : List (Int × Int), S.length ≤ (recB S).length
  | [] => Nat.le_refl _
  | r :: T => by
    have ih := recB_ge T
    have h1 : 1 ≤ (numX r.1).length := by
      rw [numX, putX, List.length_map, digs]
      split <;> (rw [List.length_cons]; omega)
    rw [recB, List.length_append, List.length_append, List.length_cons]
    omega
theorem gAll_back {b : List (BitVec 8)} {S : List (Int × Int)} {k : Int} (h : gAll b = (S, k, 0)) : ∃ n : Nat, k = (n : Int) ∧ n ≤ b.length ∧ b.take n = idxX S ∧ S.length ≤ b.length := by
  rw [gAll] at h
  split at h
  · exact absurd (congrArg (fun x => x.2.2) h) (by show ¬ (2 : Int) = 0; decide)
  rename_i h0
  have hl : 1 ≤ b.length := by cases b with | nil => exact absurd rfl h0 | cons x t => rw [List.length_cons]; omega
  split at h
  rotate_left
  · exact absurd (congrArg (fun x => x.2.2) h) (by show ¬ (8 : Int) = 0; decide)
  rename_i hz
  by_cases h1 : (rnu b 1).2.2 = 0
  rotate_left
  · rw [if_neg h1] at h
    exact absurd (congrArg (fun x => x.2.2) h) h1
  rw [if_pos h1] at h
  obtain ⟨u, k1, e, hr⟩ : ∃ u k1 e, rnu b 1 = (u, k1, e) := ⟨_, _, _, rfl⟩
  rw [hr] at h h1
  have h1 : e = 0 := h1
  subst h1
  obtain ⟨u0, u1, q, rfl, q1, q2, q3⟩ := rnu_back hl hr
  have h : gRec b u.toNat q [] = (S, k, 0) := h
  obtain ⟨T, t1, t2, t3, t4⟩ := gRec_back u.toNat q [] q2 h
  rw [List.nil_append] at t4
  obtain ⟨s1, s2, s3⟩ := gPad_back _ _ t2 t4
  obtain ⟨rfl, rfl, c1, c2⟩ := gSum_back s1
  have hu : u = ((S.length : Nat) : Int) := by omega
  have b0 : b.take 1 = [0#8] := by rw [take_succ_get b 0 (by omega), hz]; rfl
  have eA : b.take (q + (recB S).length) = idxA S := by rw [t3, q3, b0, idxA_eq, ← hu]
  have lA : q + (recB S).length = (idxA S).length := by rw [← eA, List.length_take]; omega
  have eB : b.take (q + (recB S).length + padN (q + (recB S).length)) = idxB S := by rw [s2, eA, lA]; rfl
  refine ⟨_, rfl, c1, by rw [c2, eB]; rfl, ?_⟩
  have := recB_ge S
  omega
end Go.Proofs.Ytmdeoikpiiambaa
end
section
/- An index: what the program gets. BRIEF -/
set_option linter.unusedVariables false
set_option linter.unusedSimpArgs false
set_option maxRecDepth 100000
namespace Go.Proofs.Ytmdeoikpiiambaa
open Go Go.Eng

theorem byI26 : bytesT Try.prog 126 = some 16 := by kernel_rfl
set_option maxHeartbeats 2000000 in
theorem igetsOk (b : List (BitVec 8)) (hb : b.length ≤ 100000) : CallG false Try.prog 33 [.ro b.length (bvs .u8 b)] (fun _ => true) [] 0 (GrK 126 (gAll b)) := by
  refine fn_okG Try.func33 rfl (by show 1 ≤ _; decide) ?_
  simp (maxSteps := 1000000) -implicitDefEqProofs only [go_sem, seval, -List.reduceReplicate, Try.results33, Try.ntmps33]
  obtain ⟨M0, hM0⟩ : ∃ M : Mem, M = [(0, rdO b 0 0)] := ⟨_, rfl⟩
  change CallG false _ _ _ _ [(0, rdO b 0 0)] 1 _
  rw [← hM0]
  have j0 : GJ b .nils [] 0 0 0 [] M0 1 := ⟨.nil _ _ _, (fun e => by cases e), rfl, (fun e => by cases e), by rw [hM0]; rfl, by rw [hM0]; simp, (by intro p hp; rw [hM0] at hp; cases List.mem_singleton.1 hp; exact Nat.zero_lt_one), Nat.zero_le _⟩
  refine (takeOk (rdmT j0.nd) j0.mlt j0.rd 1 (by decide) (Nat.zero_le _) hb).weak ?_
  rintro v m1 nx1 ⟨ns1, c1, c2, c3, c4, c5, c6, c7⟩
  obtain ⟨F1, F2, F3⟩ := nu_first b ((tkX b 0 0 1).getD 0 0#8 != 0#8) rfl
  have j1 := j0.grow F3 c4 c5 c6 c7
  obtain ⟨p, hp1, hp2⟩ := byAt_idx c1 0 (by rw [tkXlen]; exact Nat.zero_lt_one)
  simp (maxSteps := 1000000) -implicitDefEqProofs only [go_sem, seval, -List.reduceReplicate]
  refine hp1 _ ?_
  simp (maxSteps := 1000000) -implicitDefEqProofs only [go_sem, seval, -List.reduceReplicate]
  refine hp2 _ ?_
  simp (maxSteps := 1000000) -implicitDefEqProofs only [go_sem, seval, -List.reduceReplicate]
  refine (wrongOk (rdmT j1.nd) j1.rd _).weak ?_
  rintro v m2 nx2 ⟨rfl, hm2, rfl⟩
  have j2 := j1.upd _ (wrB ((tkX b 0 0 1).getD 0 0#8 != 0#8) (tkB b 0 0 1)) F3
  rw [← hm2] at j2
  simp (maxSteps := 1000000) -implicitDefEqProofs only [go_sem, seval, -List.reduceReplicate]
  refine (numberOk (rdmT j2.nd) j2.mlt j2.rd j2.atl hb).weak ?_
  rintro v m3 nx3 ⟨rfl, hm3, rfl⟩
  have j3 := j2.upd _ (nuB b (tkA b 0 0 1) (wrB ((tkX b 0 0 1).getD 0 0#8 != 0#8) (tkB b 0 0 1))) j2.num
  rw [← hm3] at j3
  simp (maxSteps := 1000000) -implicitDefEqProofs only [go_sem, seval, -List.reduceReplicate]
  obtain ⟨N, hN⟩ : ∃ N : Nat, nuV b (tkA b 0 0 1) (wrB ((tkX b 0 0 1).getD 0 0#8 != 0#8) (tkB b 0 0 1)) = (N : Int) := ⟨_, (Int.toNat_of_nonneg (nuV_rng b _ _).1).symm⟩
  obtain ⟨a3, ha3⟩ : ∃ x, x = nuA b (tkA b 0 0 1) (wrB ((tkX b 0 0 1).getD 0 0#8 != 0#8) (tkB b 0 0 1)) := ⟨_, rfl⟩
  obtain ⟨e3, he3⟩ : ∃ x, x = nuB b (tkA b 0 0 1) (wrB ((tkX b 0 0 1).getD 0 0#8 != 0#8) (tkB b 0 0 1)) := ⟨_, rfl⟩
  have N63 := (nuV_rng b (tkA b 0 0 1) (wrB ((tkX b 0 0 1).getD 0 0#8 != 0#8) (tkB b 0 0 1))).2
  rw [hN] at F1 N63 ⊢
  rw [← ha3, ← he3] at j3 F1 F2
  have F1 : J1 b N a3 e3 [] := F1
  refine LoopOk.upX (fun i (x : Nat × AV × List Nat × Nat × Int × List (Int × Int) × Mem × Nat) => GJ b x.2.1 x.2.2.1 x.2.2.2.1 x.2.2.2.2.1 i x.2.2.2.2.2.1 x.2.2.2.2.2.2.1 x.2.2.2.2.2.2.2 ∧ J1 b x.1 x.2.2.2.1 x.2.2.2.2.1 x.2.2.2.2.2.1 ∧ (x.2.2.2.2.1 = 0 → i < x.2.2.2.1) ∧ x.1 < 9223372036854775808) (b.length + 1) (fun i x => ([(7, .int .i64 (x.1 : Nat)), (6, x.2.1), (5, .ptr 0 0), (4, .int .i64 0), (3, .int .i64 0), (2, .nils), (0, .ro b.length (bvs .u8 b))], x.2.2.2.2.2.2.1, x.2.2.2.2.2.2.2)) (N, .nils, [], a3, e3, [], m3, nx3) ⟨j3, F1, F2, by omega⟩ ?_ ?_
  · exact Le.sameT (Nat.zero_le _) ⟨rfl, rfl, rfl, rfl, rfl, rfl, rfl, trivial⟩ (memSame_slf j3.nd) j3.nd
  rintro i ⟨n, v, ns, at_, bad, R, m, nx⟩ ⟨hi, J0, G0, hia0, hn630⟩
  have J : GJ b v ns at_ bad i R m nx := J0
  have G : J1 b n at_ bad R := G0
  have hia : bad = 0 → i < at_ := hia0
  have hn63 : n < 9223372036854775808 := hn630
  have hr := J.rd
  unfold rdO at hr
  obtain ⟨q1, q2, q3, q4, q5⟩ := J.sl.facts
  by_cases hgo : 0 < n ∧ bad = 0
  · obtain ⟨hn0, hbad⟩ := hgo
    obtain ⟨k, hk⟩ : ∃ k, n = k + 1 := ⟨n - 1, by omega⟩
    have hat := hia hbad
    have atl := J.atl
    have hg : gAll b = gRec b (k + 1) at_ R := by
      rcases G with ⟨_, h⟩ | ⟨h, _⟩
      · rw [h, hk]
      · exact absurd hbad h
    obtain ⟨S1, S2⟩ := nu_step b k at_ R J.atl hg _ rfl
    have g1 : decide (((n : Nat) : Int) > 0) = true := decide_eq_true (by omega)
    have w1 : IntKind.i64.wrap (((n : Nat) : Int) - 1) = ((k : Nat) : Int) := by rw [wrap_i64] <;> omega
    have gb : (bad == 0) = true := by rw [hbad]; rfl
    have hnum := numberOk (rdmT J.nd) J.mlt J.rd J.atl hb
    have K1 := J.upd _ (nuB b at_ bad) J.num
    rw [hbad] at hnum K1
    obtain ⟨u, hu⟩ : ∃ x, x = nuV b at_ 0 := ⟨_, rfl⟩
    rw [← hu] at S1 S2 hnum
    have hsp : spl [AV.int .i64 0, AV.int .i64 0] 0 [AV.int .i64 u, AV.int .i64 0] = [AV.int .i64 u, AV.int .i64 0] := rfl
    simp (maxSteps := 1000000) -implicitDefEqProofs only [go_sem, seval, -List.reduceReplicate, g1, hr, gb]
    refine hnum.weak ?_
    rintro v1 m1 nx1 ⟨rfl, hm1, hnx1⟩
    rw [← hm1] at K1
    rw [hnx1]
    obtain ⟨is, his⟩ : ∃ x, x = (decide (u < 5) || decide (u > 9223372036854775804)) := ⟨_, rfl⟩
    rw [← his] at S1 S2
    obtain ⟨w, hw⟩ : ∃ x, x = wrB is (nuB b at_ 0) := ⟨_, rfl⟩
    rw [← hw] at S1 S2
    have K2 := K1.cons (.cells [AV.int .i64 u, AV.int .i64 0] 126)
    have K3 := K2.upd _ w K1.atl
    have nx0 := J.pos
    have go1 : ∀ {K : Kv}, (∀ m3, m3 = Eng.upd ((nx, .cells [AV.int .i64 u, AV.int .i64 0] 126) :: m1) 0 (rdO b ((nuA b at_ 0 : Nat) : Int) w) → K (.tup []) m3 (nx + 1)) → CallG false Try.prog 88 [.ptr 0 0, .bool is] (fun _ => true) ((nx, .cells [AV.int .i64 u, AV.int .i64 0] 126) :: m1) (nx + 1) K := fun hK => (wrongOk (rdmT K2.nd) K2.rd is).weak (by rintro v m3 nx3 ⟨rfl, h, rfl⟩; exact hK _ (by rw [hw]; exact h))
    obtain ⟨p, hp⟩ : ∃ x, x = nuV b (nuA b at_ 0) w := ⟨_, rfl⟩
    have hsp2 : spl [AV.int .i64 0, AV.int .i64 0] 0 [AV.int .i64 u, AV.int .i64 p] = [AV.int .i64 u, AV.int .i64 p] := rfl
    have hz : zfill [AV.int .i64 0, AV.int .i64 0] 2 = [AV.int .i64 0, AV.int .i64 0] := rfl
    rw [← hp] at S1
    have ht2 : List.take 2 [AV.int .i64 u, AV.int .i64 p] = [AV.int .i64 u, AV.int .i64 p] := rfl
    have hz2 : (if [AV.int .i64 u, AV.int .i64 p].length = 2 ∧ [AV.int .i64 u, AV.int .i64 p].length ≤ 2 then some (setMany [AV.int .i64 0, AV.int .i64 0] 0 [AV.int .i64 u, AV.int .i64 p]) else none) = some [AV.int .i64 u, AV.int .i64 p] := rfl
    have hc : (decide (u < 5) = true ∧ True) ∨ (decide (u < 5) = false ∧ decide (u > 9223372036854775804) = true) ∨ (decide (u < 5) = false ∧ decide (u > 9223372036854775804) = false) := by
      cases decide (u < 5) <;> cases decide (u > 9223372036854775804) <;> simp
    rcases hc with ⟨c1, c2⟩ | ⟨c1, c2⟩ | ⟨c1, c2⟩ <;> (
      rw [c1] at his
      try rw [c2] at his
      simp only [Bool.or_true, Bool.or_false, Bool.true_or, Bool.false_or] at his
      simp (maxSteps := 1000000) -implicitDefEqProofs only [go_sem, seval, -List.reduceReplicate, hsp, c1, c2]
      rw [his] at go1
      refine go1 fun m3 hm3 => ?_
      rw [← hm3] at K3
      simp (maxSteps := 1000000) -implicitDefEqProofs only [go_sem, seval, -List.reduceReplicate]
      refine (numberOk (rdmT K3.nd) K3.mlt K3.rd K3.atl hb).weak ?_
      rintro v4 m4 nx4 ⟨rfl, hm4, hnx4⟩
      have K4 := K3.upd _ (nuB b (nuA b at_ 0) w) K3.num
      rw [← hm4] at K4
      rw [hnx4]
      have hx : Eng.look m4 nx = some (.cells [AV.int .i64 u, AV.int .i64 0] 126) := by
        rw [hm4, look_upd_other _ (by omega), hm3, look_upd_other _ (by omega), look_cons, if_pos rfl]
      have hx2 := look_upd_same (.cells [AV.int .i64 u, AV.int .i64 p] 126) hx
      rw [← hp]
      simp (maxSteps := 1000000) -implicitDefEqProofs only [go_sem, seval, -List.reduceReplicate, hx, hx2, hz, ht2, hz2, byI26, q1, q2, q3, q4, q5]
      have DU := (rdmT (nx := nx + 1) K4.nd).upd nx (.cells [AV.int .i64 u, AV.int .i64 p] 126)
      have lt5 := upd_lt K4.mlt nx (.cells [AV.int .i64 u, AV.int .i64 p] 126)
      have nns : ∀ j ∈ ns, nx ≠ j := fun j hj e => by have := J.sl.lt J.mlt j hj; omega
      have s5 : SlA 126 2 (Eng.upd m4 nx (.cells [AV.int .i64 u, AV.int .i64 p] 126)) v i (rcs R) ns := K4.sl.ext fun j hj o ho => by rw [look_upd_other _ (nns j hj)]; exact ho
      have r5 := (look_upd_other (.cells [AV.int .i64 u, AV.int .i64 p] 126) (show nx ≠ 0 by omega)).trans K4.rd
      have gc := Gr.cons DU.nd lt5 (.cells [AV.int .i64 u, AV.int .i64 p] 126)
      have hs : rcs R ++ [AV.int .i64 u, AV.int .i64 p] = rcs (R ++ [(u, p)]) := rcs_app R [(u, p)]
      refine ⟨.inr trivial, ?_⟩
      refine appk_sl (bt := 16) (j := 1) (Y := [AV.int .i64 u, AV.int .i64 p]) (s5.grow gc) J.nro gc.nd gc.lt (fun _ _ => rfl) rfl rfl (by decide) (by omega) ?_
      intro v' m' nx' ns' z1 z2 z3 z4 z5 z6 z7 z8
      rw [hs] at z1 z2
      simp (maxSteps := 1000000) -implicitDefEqProofs only [go_sem, seval, -List.reduceReplicate, w1]
      have h0 : 0 ∉ ns' := fun hm => by
        rcases z4 0 hm with h | h
        · exact J.n0 h
        · omega
      refine UpX_normal (by omega) (k, v', ns', nuA b (nuA b at_ 0) w, nuB b (nuA b at_ 0) w, R ++ [(u, p)], m', nx') ⟨⟨z1, z2, by rw [List.length_append, J.len]; rfl, h0, z7 0 _ J.n0 (gc.kp _ _ r5), z5, z6, K4.atl⟩, S1, fun e => by have := S2 e; show i + 1 < nuA b (nuA b at_ 0) w; omega, by show k < 9223372036854775808; omega⟩ (Le.sameT (Nat.zero_le _) ⟨rfl, rfl, rfl, rfl, rfl, rfl, rfl, trivial⟩ (memSame_slf z5) z5))
  have hx : (decide (((n : Nat) : Int) > 0) = false ∧ True) ∨ (decide (((n : Nat) : Int) > 0) = true ∧ (bad == 0) = false) := by
    rcases Nat.eq_zero_or_pos n with h | h
    · exact .inl ⟨decide_eq_false (by omega), trivial⟩
    · exact .inr ⟨decide_eq_true (by omega), by rw [beq_eq_false_iff_ne]; exact fun e => hgo ⟨h, e⟩⟩
  have G2 : J2 b (padN at_) at_ bad R := by
    rcases G with ⟨h, h2⟩ | h
    · have : n = 0 := by
        rcases Nat.eq_zero_or_pos n with h' | h'
        · exact h'
        · exact absurd ⟨h', h⟩ hgo
      rw [this, gRec] at h2
      exact .inl ⟨h, h2⟩
    · exact .inr h
  have hpl : padN at_ ≤ 3 := by unfold padN; omega
  rcases hx with ⟨x1, x2⟩ | ⟨x1, x2⟩ <;> (
    simp (maxSteps := 1000000) -implicitDefEqProofs only [go_sem, seval, -List.reduceReplicate, hr, x1, x2, q1, q2, q3, q4, q5]
    refine LoopOk.upX (fun j (x : Nat × Int × Mem × Nat) => GJ b v ns x.1 x.2.1 i R x.2.2.1 x.2.2.2 ∧ J2 b (padN at_ - j) x.1 x.2.1 R ∧ (x.2.1 = 0 → x.1 = at_ + j ∧ j ≤ padN at_)) (padN at_ + 1) (fun j x => ([(6, v), (5, .ptr 0 0), (4, .int .i64 0), (3, .int .i64 0), (2, .nils), (0, .ro b.length (bvs .u8 b))], x.2.2.1, x.2.2.2)) (at_, bad, m, nx) ⟨J, G2, fun _ => ⟨rfl, Nat.zero_le _⟩⟩ ?_ ?_
    · exact Le.sameT (Nat.zero_le _) ⟨rfl, rfl, rfl, rfl, rfl, rfl, trivial⟩ (memSame_slf J.nd) J.nd
    rintro j ⟨a5, e5, m5, nx5⟩ ⟨hj, L0, H0, I0⟩
    have L : GJ b v ns a5 e5 i R m5 nx5 := L0
    have H : J2 b (padN at_ - j) a5 e5 R := H0
    have hI : e5 = 0 → a5 = at_ + j ∧ j ≤ padN at_ := I0
    have hr5 := L.rd
    unfold rdO at hr5
    by_cases hbad5 : e5 = 0
    rotate_left
    · have y1 : (e5 == 0) = false := by rw [beq_eq_false_iff_ne]; exact hbad5
      have y2 : (e5 != 0) = true := by rw [bne_iff_ne]; exact hbad5
      have hall : gAll b = ([], 0, e5) := by
        rcases H with ⟨h, _⟩ | ⟨_, h⟩
        · exact absurd h hbad5
        · exact h
      have tB : tkB b a5 e5 4 = e5 := by rw [tkB, if_neg (fun e => hbad5 e.1)]
      have tA : tkA b a5 e5 4 = a5 := by rw [tkA, tB, if_neg hbad5]
      simp (maxSteps := 1000000) -implicitDefEqProofs only [go_sem, seval, -List.reduceReplicate, hr5, y1]
      refine (takeOk (rdmT L.nd) L.mlt L.rd 4 (by decide) L.atl hb).weak ?_
      rintro v6 m6 nx6 ⟨ns6, d1, d2, d3, d4, d5, d6, d7⟩
      rw [tA, tB] at d6
      have L6 := L.grow L.atl d4 d5 d6 d7
      have hr6 := L6.rd
      unfold rdO at hr6
      obtain ⟨p1, p2, p3, p4, p5⟩ := d1.facts
      simp (maxSteps := 1000000) -implicitDefEqProofs only [go_sem, seval, -List.reduceReplicate, hr6, y1, p1, p2, p3, p4, p5]
      refine (wrongOk (rdmT L6.nd) L6.rd false).weak ?_
      rintro v7 m7 nx7 ⟨rfl, hm7, rfl⟩
      have L7 := L6.upd _ (wrB false e5) L.atl
      rw [← hm7, show wrB false e5 = e5 from by rw [wrB, if_neg (fun e => by cases e.1)]] at L7
      have hr7 := L7.rd
      unfold rdO at hr7
      simp (maxSteps := 1000000) -implicitDefEqProofs only [go_sem, seval, -List.reduceReplicate, hr7, y2]
      refine ⟨Fx.mixed, .inl ⟨[(0, false), (1, false), (2, false), (3, false), (4, false), (5, false), (6, false)], [], by kernel_rfl, (fun n hn => by cases hn), ?_⟩⟩
      have f7 : (!decide (nx7 ≤ 0)) = true := by rw [decide_eq_false (by have := L7.pos; omega)]; rfl
      simp (maxSteps := 1000000) -implicitDefEqProofs only [go_sem, seval, -List.reduceReplicate, hr7, f7]
      exact GrK.bad hall
    obtain ⟨ha5, hjp⟩ := hI hbad5
    have hg : gAll b = gPad b (padN at_ - j) a5 R := by
      rcases H with ⟨_, h⟩ | ⟨h, _⟩
      · exact h
      · exact absurd hbad5 h
    have y1 : (e5 == 0) = true := by rw [hbad5]; rfl
    have tk := takeOk (rdmT L.nd) L.mlt L.rd
    rw [hbad5] at tk
    by_cases hjl : j < padN at_
    · have g6 : (((a5 : Nat) : Int).tmod 4 != 0) = true := by
        rw [bne_iff_ne]
        intro e
        rw [Int.tmod_eq_emod_of_nonneg (by omega)] at e
        unfold padN at hjl
        omega
      rw [show padN at_ - j = (padN at_ - (j + 1)) + 1 by omega] at hg
      obtain ⟨S1, S2⟩ := pad_step b _ a5 R hg _ rfl
      simp (maxSteps := 1000000) -implicitDefEqProofs only [go_sem, seval, -List.reduceReplicate, hr5, y1, g6]
      refine (tk 1 (by decide) L.atl hb).weak ?_
      rintro v6 m6 nx6 ⟨ns6, d1, d2, d3, d4, d5, d6, d7⟩
      have tl : tkA b a5 0 1 ≤ b.length := by
        rw [tkA]
        split
        · rename_i h
          rw [tkB] at h
          split at h
          · exact absurd h (by decide)
          · rename_i h'; omega
        · exact L.atl
      have L6 := L.grow tl d4 d5 d6 d7
      obtain ⟨p, hp1, hp2⟩ := byAt_idx d1 0 (by rw [tkXlen]; exact Nat.zero_lt_one)
      simp (maxSteps := 1000000) -implicitDefEqProofs only [go_sem, seval, -List.reduceReplicate]
      refine hp1 _ ?_
      simp (maxSteps := 1000000) -implicitDefEqProofs only [go_sem, seval, -List.reduceReplicate]
      refine hp2 _ ?_
      simp (maxSteps := 1000000) -implicitDefEqProofs only [go_sem, seval, -List.reduceReplicate]
      refine (wrongOk (rdmT L6.nd) L6.rd _).weak ?_
      rintro v7 m7 nx7 ⟨rfl, hm7, rfl⟩
      have L7 := L6.upd _ (wrB ((tkX b a5 0 1).getD 0 0#8 != 0#8) (tkB b a5 0 1)) tl
      rw [← hm7] at L7
      simp (maxSteps := 1000000) -implicitDefEqProofs only [go_sem, seval, -List.reduceReplicate]
      exact UpX_normal (by omega) (_, _, m7, nx7) ⟨L7, S1, fun e => by
        have e0 : tkB b a5 0 1 = 0 := by
          by_cases h : tkB b a5 0 1 = 0
          · exact h
          · have e : wrB ((tkX b a5 0 1).getD 0 0#8 != 0#8) (tkB b a5 0 1) = 0 := e
            rw [wrB, if_neg (fun h' => h h'.2)] at e
            exact absurd e h
        have := S2 e0
        exact ⟨by show tkA b a5 0 1 = at_ + (j + 1); omega, hjl⟩⟩ (Le.sameT (Nat.zero_le _) ⟨rfl, rfl, rfl, rfl, rfl, rfl, trivial⟩ (memSame_slf L7.nd) L7.nd)
    have g6 : (((a5 : Nat) : Int).tmod 4 != 0) = false := by
      rw [bne_eq_false_iff_eq, Int.tmod_eq_emod_of_nonneg (by omega), ha5, show j = padN at_ by omega]
      unfold padN
      omega
    rw [show padN at_ - j = 0 by omega, gPad, gSum] at hg
    have tx : ∀ e, tkB b a5 0 4 = e → e ≠ 0 → tkA b a5 0 4 = a5 := fun e h1 h2 => by rw [tkA, h1, if_neg h2]
    simp (maxSteps := 1000000) -implicitDefEqProofs only [go_sem, seval, -List.reduceReplicate, hr5, y1, g6]
    refine (tk 4 (by decide) L.atl hb).weak ?_
    rintro v6 m6 nx6 ⟨ns6, d1, d2, d3, d4, d5, d6, d7⟩
    obtain ⟨p1, p2, p3, p4, p5⟩ := d1.facts
    by_cases hl4 : b.length < a5 + 4
    · rw [if_pos hl4] at hg
      have tB : tkB b a5 0 4 = 2 := by rw [tkB, if_pos ⟨rfl, hl4⟩]
      rw [tx 2 tB (by decide), tB] at d6
      have L6 := L.grow L.atl d4 d5 d6 d7
      have hr6 := L6.rd
      unfold rdO at hr6
      simp (maxSteps := 1000000) -implicitDefEqProofs only [go_sem, seval, -List.reduceReplicate, hr6, p1, p2, p3, p4, p5]
      refine (wrongOk (rdmT L6.nd) L6.rd false).weak ?_
      rintro v7 m7 nx7 ⟨rfl, hm7, rfl⟩
      have L7 := L6.upd _ (wrB false 2) L.atl
      rw [← hm7, show wrB false 2 = 2 from rfl] at L7
      have hr7 := L7.rd
      unfold rdO at hr7
      simp (maxSteps := 1000000) -implicitDefEqProofs only [go_sem, seval, -List.reduceReplicate, hr7]
      refine ⟨Fx.mixed, .inl ⟨[(0, false), (1, false), (2, false), (3, false), (4, false), (5, false), (6, false)], [], by kernel_rfl, (fun n hn => by cases hn), ?_⟩⟩
      have f7 : (!decide (nx7 ≤ 0)) = true := by rw [decide_eq_false (by have := L7.pos; omega)]; rfl
      simp (maxSteps := 1000000) -implicitDefEqProofs only [go_sem, seval, -List.reduceReplicate, hr7, f7]
      exact GrK.bad hg
    rw [if_neg hl4] at hg
    have tB : tkB b a5 0 4 = 0 := by rw [tkB, if_neg (fun e => hl4 e.2)]
    have tA : tkA b a5 0 4 = a5 + 4 := by rw [tkA, if_pos tB]
    have tX : tkX b a5 0 4 = (b.drop a5).take 4 := by rw [tkX, if_pos tB]
    rw [tA, tB] at d6
    rw [tX] at d1
    have L6 := L.grow (by omega) d4 d5 d6 d7
    have hr6 := L6.rd
    unfold rdO at hr6
    simp (maxSteps := 1000000) -implicitDefEqProofs only [go_sem, seval, -List.reduceReplicate, hr6, p1, p2, p3, p4, p5]
    refine ⟨by omega, ?_⟩
    rw [Nat.sub_zero]
    have hlt : (b.take a5).length = a5 := by rw [List.length_take]; have := L.atl; omega
    refine CallG.byK (sumOk 1 (b.take a5) (by omega)) rfl L6.nd L6.mlt ⟨rfl, argx_roX hlt.symm, trivial⟩ ?_
    intro v7 m7 nx7 ns7 t1 t2 t3 g7
    have L7 := L6.gr g7
    simp (maxSteps := 1000000) -implicitDefEqProofs only [go_sem, seval, -List.reduceReplicate]
    refine (equalOk ((b.drop a5).take 4) (chk 1 (b.take a5))).flat0 ⟨(d1.grow g7).arg, t1.arg, trivial⟩ (fun _ => rfl) rfl ?_
    by_cases hc : (b.drop a5).take 4 = chk 1 (b.take a5)
    · rw [if_pos hc] at hg
      have g10 : decide ((b.drop a5).take 4 = chk 1 (b.take a5)) = true := decide_eq_true hc
      simp (maxSteps := 1000000) -implicitDefEqProofs only [go_sem, seval, -List.reduceReplicate, g10]
      refine (wrongOk (rdmT L7.nd) L7.rd false).weak ?_
      rintro v8 m8 nx8 ⟨rfl, hm8, rfl⟩
      have L8 := L7.upd _ (wrB false 0) L7.atl
      rw [← hm8, show wrB false 0 = 0 from rfl] at L8
      have hr8 := L8.rd
      unfold rdO at hr8
      simp (maxSteps := 1000000) -implicitDefEqProofs only [go_sem, seval, -List.reduceReplicate, hr8]
      refine ⟨Fx.mixed, .inl ⟨[(0, false), (1, false), (2, false), (3, false), (4, false), (5, false), (6, false), (7, false)], [], by kernel_rfl, (fun n hn => by cases hn), ?_⟩⟩
      have f7 : (!decide (nx8 ≤ 0)) = true := by rw [decide_eq_false (by have := L8.pos; omega)]; rfl
      simp (maxSteps := 1000000) -implicitDefEqProofs only [go_sem, seval, -List.reduceReplicate, hr8, f7, q1, q2, q3, q4, q5]
      exact GrK.good hg L8.len L8.sl L8.nro
    · rw [if_neg hc] at hg
      have g10 : decide ((b.drop a5).take 4 = chk 1 (b.take a5)) = false := decide_eq_false hc
      simp (maxSteps := 1000000) -implicitDefEqProofs only [go_sem, seval, -List.reduceReplicate, g10]
      refine (wrongOk (rdmT L7.nd) L7.rd true).weak ?_
      rintro v8 m8 nx8 ⟨rfl, hm8, rfl⟩
      have L8 := L7.upd _ (wrB true 0) L7.atl
      rw [← hm8, show wrB true 0 = 8 from rfl] at L8
      have hr8 := L8.rd
      unfold rdO at hr8
      simp (maxSteps := 1000000) -implicitDefEqProofs only [go_sem, seval, -List.reduceReplicate, hr8]
      refine ⟨Fx.mixed, .inl ⟨[(0, false), (1, false), (2, false), (3, false), (4, false), (5, false), (6, false)], [], by kernel_rfl, (fun n hn => by cases hn), ?_⟩⟩
      have f7 : (!decide (nx8 ≤ 0)) = true := by rw [decide_eq_false (by have := L8.pos; omega)]; rfl
      simp (maxSteps := 1000000) -implicitDefEqProofs only [go_sem, seval, -List.reduceReplicate, hr8, f7]
      exact GrK.bad hg)
end Go.Proofs.Ytmdeoikpiiambaa
end
section
/- An index: the document's examples; the law on what is got. BRIEF -/
set_option linter.unusedVariables false
set_option linter.unusedSimpArgs false
set_option maxRecDepth 100000
namespace Go.Proofs.Ytmdeoikpiiambaa
open Go Go.Eng

theorem grT_ren (g : GR) (f : Nat → Nat) (s : AV) : renA f (grT g s) = grT g (renA f s) := rfl
theorem grT_ro (g : GR) (s : AV) : noRo (grT g s) = noRo s := by simp [grT, noRo, noRoL]
theorem gPad_bad {b : List (BitVec 8)} {R : List (Int × Int)} : ∀ n at_, (gPad b n at_ R).2.2 = 0 ∨ ((gPad b n at_ R).1 = [] ∧ (gPad b n at_ R).2.1 = 0)
  | 0, at_ => by
    rw [gPad, gSum]
    split
    · exact .inr ⟨rfl, rfl⟩
    split
    · exact .inl rfl
    · exact .inr ⟨rfl, rfl⟩
  | n + 1, at_ => by
    rw [gPad]
    split
    · exact .inr ⟨rfl, rfl⟩
    split
    · exact gPad_bad n _
    · exact .inr ⟨rfl, rfl⟩
theorem gRec_bad {b : List (BitVec 8)} : ∀ n at_ R, (gRec b n at_ R).2.2 = 0 ∨ ((gRec b n at_ R).1 = [] ∧ (gRec b n at_ R).2.1 = 0)
  | 0, at_, R => gPad_bad _ _
  | n + 1, at_, R => by
    rw [gRec]
    split
    · split
      · exact .inr ⟨rfl, rfl⟩
      · split
        · exact gRec_bad n _ _
        · exact .inr ⟨rfl, rfl⟩
    · exact .inr ⟨rfl, rfl⟩
theorem gAll_bad (b : List (BitVec 8)) : (gAll b).2.2 = 0 ∨ ((gAll b).1 = [] ∧ (gAll b).2.1 = 0) := by
  rw [gAll]
  split
  · exact .inr ⟨rfl, rfl⟩
  split
  · split
    · exact gRec_bad _ _ _
    · exact .inr ⟨rfl, rfl⟩
  · exact .inr ⟨rfl, rfl⟩
theorem gAll_len (b : List (BitVec 8)) : (gAll b).1.length ≤ b.length := by
  rcases gAll_bad b with h | ⟨h, _⟩
  · obtain ⟨n, h1, h2, h3, h4⟩ := gAll_back (b := b) (S := (gAll b).1) (k := (gAll b).2.1) (Prod.ext rfl (Prod.ext rfl h))
    exact h4
  · rw [h]; exact Nat.zero_le _
theorem knows18 : CallG false Try.prog 29 [] (fun _ => true) [] 0 fun v m nx => v = .bool true ∧ m = [] ∧ nx = 0 := by
  refine fn_okG Try.func29 rfl (Nat.zero_le _) ?_
  have hl : (idxX []).length = 8 := by
    have h4 : (chk 1 (idxB [])).length = 4 := lowS_len _ _
    have hB : (idxB []).length = 4 := rfl
    rw [idxX, List.length_append, h4, hB]
  have hG := gAll_put [] [] (by decide) goodI_nil
  rw [List.append_nil] at hG
  have h1 : gAll [1#8] = ([], 0, 8) := rfl
  have i1 := igetsOk (idxX []) (by omega)
  have i2 := igetsOk [1#8] (by decide)
  rw [hG] at i1
  rw [h1] at i2
  simp (maxSteps := 1000000) -implicitDefEqProofs only [go_sem, seval, -List.reduceReplicate, Try.results29, Try.ntmps29]
  refine byT (putOk [] (by decide) (fun r h => by cases h)) nd0 lt0 ⟨⟨rfl, rfl⟩, trivial⟩ ?_
  intro s m nx ns b1 b2 b3 g
  have q6 := b1.len Try.prog 22
  have q1 := b1.facts.1
  simp (maxSteps := 1000000) -implicitDefEqProofs only [go_sem, seval, -List.reduceReplicate]
  refine CallG.bySl i1 g.nd g.lt (grT_ren _) (grT_ro _) ⟨b1.arg, trivial⟩ ?_
  intro x m2 nx2 ns2 c1 c2 c3 g2
  have q7 := c1.len Try.prog 44
  have p1 := c1.facts.1
  simp (maxSteps := 1000000) -implicitDefEqProofs only [go_sem, seval, -List.reduceReplicate, grT]
  refine ⟨.inr trivial, ?_⟩
  have gc := Gr.cons g2.nd g2.lt (.cells (bvs .u8 [1#8]) 5)
  have r1 : ByAt 5 ((nx2, .cells (bvs .u8 [1#8]) 5) :: m2) (.sl nx2 0 1 1) [1#8] [nx2] := .row (X := [1#8]) (sp := []) rfl (by rw [look_cons, if_pos rfl, List.append_nil]) rfl (by decide) rfl
  refine CallG.bySl i2 gc.nd gc.lt (grT_ren _) (grT_ro _) ⟨r1.arg, trivial⟩ ?_
  intro y m3 nx3 ns3 d1 d2 d3 g3
  simp (maxSteps := 1000000) -implicitDefEqProofs only [go_sem, seval, -List.reduceReplicate, grT, q1, p1, q6, q7, hl]
  exact Fin.flatv (fun _ => rfl) (fun _ => rfl) ⟨rfl, rfl, rfl⟩
theorem kn18 {fz : Bool} {wr : Nat → Bool} {m : Mem} {nx : Nat} {K : Kv} (h : K (.bool true) m nx) : CallG fz Try.prog 29 [] wr m nx K := knows18.flat0 trivial (fun _ => rfl) rfl h
theorem idG_ren (f : Nat → Nat) (s : AV) : renA f (idG s) = idG (renA f s) := rfl
theorem idG_ro (s : AV) : noRo (idG s) = noRo s := rfl
set_option maxHeartbeats 1000000 in
theorem indexGetsOk (b : List (BitVec 8)) (hb : b.length ≤ maxLen) : CallOk Try.prog 7 [.ro b.length (bvs .u8 b)] (fun _ => true) [] 0 fun v _ _ => v = .bool true := by
  refine fn_ok Try.func7 rfl (by show 1 ≤ _; decide) ?_
  have fin : ∀ {m : Mem} {nx : Nat}, Eng.Fin 0 (fun _ => true) m nx (fun v _ _ => v = .bool true) (.bool true) := Fin.flatv (fun _ => rfl) (fun _ => rfl) rfl
  by_cases h1 : 600 < b.length
  · have e1 : decide ((b.length : Int) > 600) = true := decide_eq_true (by omega)
    simp (maxSteps := 1000000) -implicitDefEqProofs only [go_sem, seval, -List.reduceReplicate, Try.results7, Try.ntmps7, e1]
    refine kn18 ?_
    simp (maxSteps := 1000000) -implicitDefEqProofs only [go_sem, seval, -List.reduceReplicate]
    exact fin
  have e1 : decide ((b.length : Int) > 600) = false := decide_eq_false (by omega)
  have hlen := gAll_len b
  have hgood := gAll_good b
  have hback : (gAll b).2.2 = 0 → ∃ n : Nat, (gAll b).2.1 = (n : Int) ∧ n ≤ b.length ∧ b.take n = idxX (gAll b).1 := fun h => by
    obtain ⟨n, h1, h2, h3, h4⟩ := gAll_back (b := b) (S := (gAll b).1) (k := (gAll b).2.1) (Prod.ext rfl (Prod.ext rfl h))
    exact ⟨n, h1, h2, h3⟩
  have i1 := igetsOk b (by omega)
  have i2 := rgetsOk b (by omega)
  obtain ⟨R, n, e, hr⟩ : ∃ R n e, gAll b = (R, n, e) := ⟨_, _, _, rfl⟩
  rw [hr] at i1 i2 hlen hgood hback
  have hlen : R.length ≤ b.length := hlen
  have hgood : goodI R := hgood
  simp (maxSteps := 1000000) -implicitDefEqProofs only [go_sem, seval, -List.reduceReplicate, Try.results7, Try.ntmps7, e1]
  refine CallG.bySl i1 nd0 lt0 (grT_ren _) (grT_ro _) ⟨argx_roX rfl, trivial⟩ ?_
  intro x m1 nx1 ns1 a1 a2 a3 g1
  simp (maxSteps := 1000000) -implicitDefEqProofs only [go_sem, seval, -List.reduceReplicate, grT]
  refine CallG.bySl i2 g1.nd g1.lt (grT_ren _) (grT_ro _) ⟨argx_roX rfl, trivial⟩ ?_
  intro y m2 nx2 ns2 b1 b2 b3 g2
  simp (maxSteps := 1000000) -implicitDefEqProofs only [go_sem, seval, -List.reduceReplicate, grT]
  refine CallG.bySl (asOk R (by omega)) g2.nd g2.lt idG_ren idG_ro ⟨(a1.grow g2).arg, trivial⟩ ?_
  intro z m3 nx3 ns3 c1 c2 c3 g3
  have s1 := sameOk R R (by omega) (by omega) hgood.rng hgood.rng
  rw [decide_eq_true rfl] at s1
  simp (maxSteps := 1000000) -implicitDefEqProofs only [go_sem, seval, -List.reduceReplicate, idG]
  refine s1.flat0 ⟨c1.arg, (b1.grow g3).arg, trivial⟩ (fun _ => rfl) rfl ?_
  have ne1 : (n != n) = false := bne_self_eq_false _
  have ne2 : (e != e) = false := bne_self_eq_false _
  by_cases he : e = 0
  rotate_left
  · have g9 : (e != 0) = true := by rw [bne_iff_ne]; exact he
    simp (maxSteps := 1000000) -implicitDefEqProofs only [go_sem, seval, -List.reduceReplicate, ne1, ne2, g9]
    refine kn18 ?_
    simp (maxSteps := 1000000) -implicitDefEqProofs only [go_sem, seval, -List.reduceReplicate]
    exact fin
  have g9 : (e != 0) = false := by rw [bne_eq_false_iff_eq]; exact he
  obtain ⟨k, hk, k1, k2⟩ := hback he
  have hk : n = (k : Int) := hk
  have k2 : b.take k = idxX R := k2
  simp (maxSteps := 1000000) -implicitDefEqProofs only [go_sem, seval, -List.reduceReplicate, ne1, ne2, g9]
  refine byT (putOk R (by omega) hgood) g3.nd g3.lt ⟨((a1.grow g2).grow g3).arg, trivial⟩ ?_
  intro s m4 nx4 ns4 d1 d2 d3 g4
  simp (maxSteps := 1000000) -implicitDefEqProofs only [go_sem, seval, -List.reduceReplicate]
  refine ⟨Fx.mixed, .inl ⟨[(0, false), (1, false), (2, false), (3, false), (4, false), (5, false), (6, false), (7, false), (8, false), (9, false), (10, false), (11, false), (12, true), (13, false), (14, false)], [], by kernel_rfl, (fun n hn => by cases hn), ?_⟩⟩
  have hT : List.take (k - 0) (List.take (k - 0) b) = idxX R := by rw [Nat.sub_zero, List.take_take, Nat.min_self, k2]
  rw [hk]
  simp (maxSteps := 1000000) -implicitDefEqProofs only [go_sem, seval, -List.reduceReplicate]
  rw [d1.conv (rdOld d1 g4.lt) elB intB strT9]
  simp (maxSteps := 1000000) -implicitDefEqProofs only [go_sem, seval, -List.reduceReplicate, u8s_bvs, hT, strOf_def, strEq]
  refine ⟨by omega, by rw [List.length_take]; omega, ?_⟩
  refine kn18 ?_
  simp (maxSteps := 1000000) -implicitDefEqProofs only [go_sem, seval, -List.reduceReplicate]
  exact fin
end Go.Proofs.Ytmdeoikpiiambaa
end
