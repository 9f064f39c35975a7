/- Finding: Best. -/
import Derived.Test.YtmnbbpckglppjaaEng19
import Derived.Test.YtmnbbpckglppjaaEng26
import Derived.Test.YtmnbbpckglppjaaFnd
set_option linter.unusedVariables false
set_option linter.unusedSimpArgs false
set_option maxRecDepth 100000
namespace Go.Proofs.Ytmnbbpckglppjaa
open Go Go.Eng

/-- a place of pairs, as the map tells it -/
def PosA (m : Mem) (nx : Nat) (l : List Nat) : Option AV → Prop
  | none => l = []
  | some v => ∃ (n cp : Nat) (s : List Value), v = .sl n 0 l.length cp ∧ Eng.look m n = some (.cells (bvs .i64 (pv l) ++ s.map AV.val) 3) ∧ l.length + s.length = cp ∧ cp ≤ maxI ∧ n < nx
/-- a finder of bytes, wherever it lies -/
structure FndAt (m : Mem) (nx a : Nat) (d : List (BitVec 8)) (dict nice : Int) (b c cap : Nat) (sp : List Value) (keys : List Key) (vals : List AV) (born : List Nat) : Prop where
  o : Eng.look m a = some (finO b c d.length cap dict nice)
  r : Eng.look m b = some (rowO d sp)
  p : Eng.look m c = some (.mx .b keys vals born)
  an : a < nx
  bn : b < nx
  cn : c < nx
  cl : d.length + sp.length = cap
  q : ∀ x y, PosA m nx (posN d x y (d.length - 1)) (xget (.b x y) keys vals)
def BestP (d : List (BitVec 8)) (dict nice p M : Int) : Nat × Nat := if p < 0 ∨ (d.length : Int) ≤ p then (0, 0) else bestR d p.toNat (min (min M nice) ((d.length - p.toNat : Nat) : Int)).toNat (min p dict).toNat
def BestV (d : List (BitVec 8)) (dict nice p M : Int) : AV := .tup [.int .i64 ((BestP d dict nice p M).1 : Nat), .int .i64 ((BestP d dict nice p M).2 : Nat)]
theorem bestR_small (d : List (BitVec 8)) (p m D : Nat) (h : m < 2) : bestR d p m D = (0, 0) := by
  have := scanR_le d p m D
  rw [bestR, fil, if_pos (by omega)]
theorem rowTwo (d : List (BitVec 8)) (S : List AV) (i : Nat) (h : i + 1 < d.length) : List.take 2 (List.drop i (bvs .u8 d ++ S)) = [.int .u8 ((d.getD i 0).toNat : Int), .int .u8 ((d.getD (i + 1) 0).toNat : Int)] := by
  rw [List.drop_append_of_le_length (by rw [bvs_length]; omega), List.take_append_of_le_length (by rw [List.length_drop, bvs_length]; omega), bvs_drop, bvs_take]
  have h1 : i < d.length := by omega
  rw [List.drop_eq_getElem_cons h1, List.drop_eq_getElem_cons h, List.take_succ_cons, List.take_succ_cons, List.take_zero, bvs_cons, bvs_cons, bvs_nil]
  rw [List.getD_eq_getElem?_getD, List.getD_eq_getElem?_getD, List.getElem?_eq_getElem h1, List.getElem?_eq_getElem h]
  rfl
def iv (r t : Nat) : Int := (r : Int) - 1 - (t : Int)
set_option maxHeartbeats 2000000 in
theorem bestOk {wr : Nat → Bool} {m : Mem} {nx a b c cap : Nat} {sp : List Value} {d : List (BitVec 8)} {dict nice : Int} {keys : List Key} {vals : List AV} {born : List Nat} (r : Rdm wr m nx) (F : FndAt m nx a d dict nice b c cap sp keys vals born)
    (p M : Int) (hl : d.length ≤ 1000000) (hd : 1 ≤ dict) (hcap : cap ≤ maxI) :
    CallG false Try.prog 21 [.ptr a 0, .int .i64 p, .int .i64 M] wr m nx (Kr (BestV d dict nice p M) m nx) := by
  refine fn_okG Try.func21 rfl (by show 3 ≤ _; decide) ?_
  have h1 := F.o
  have h2 := F.r
  have h3 := F.p
  have ra : decide (nx ≤ a) = false := decide_eq_false (by have := F.an; omega)
  have rb : decide (nx ≤ b) = false := decide_eq_false (by have := F.bn; omega)
  have rc : decide (nx ≤ c) = false := decide_eq_false (by have := F.cn; omega)
  rcases Int.lt_or_le p 0 with g | g
  · have g1 : decide (p < 0) = true := decide_eq_true g
    simp (config := { maxSteps := 1000000, implicitDefEqProofs := false }) only [-List.reduceReplicate, Nat.reduceBEq, renA, renL, renM, renO, evx, evs, evp, Eng.look, cst, cst1, putd, dstOk, params, loadx, partx, loI, hiI, bltx, mmI, boxx, srcx, calx, nilx, upd, del, resv, fillA, setMany, Nat.reduceLT, Nat.reduceLeDiff, Nat.reduceEqDiff, Nat.reduceAdd, Nat.reduceMul, Nat.reduceSub, reduceIte, reduceCtorEq, if_true, if_false, ite_true, ite_false, eq_self, forall_const, implies_true, Int.reduceLT, Int.reduceLE, Int.reduceToNat, Int.reduceAdd, Int.reduceSub, Int.reduceNeg, ne_eq, Int.reduceEq, Int.reduceNe, Int.reduceBEq, Int.reduceBNe, beq_self_eq_true, bne_self_eq_false, BitVec.reduceBEq, BitVec.reduceBNe, BitVec.reduceOfInt, BitVec.reduceSetWidth, wrD, engS0, engS1, engS2, engS3, engS4, engS5, engS6, engS7, engS8, engS9, engU0, engT0, engT1, engT2, Fx.t1, Fx.t2, Fx.t3, Fx.t4, Fx.t5, Fx.t23, Fx.t35, Fx.t91, Fx.t109, Fx.t110, Fx.t111, Fx.t112, Fx.t113, Fx.en68, Fx.en69, Fx.en70, Try.results21, Try.ntmps21, g1]
    rw [BestV, BestP, if_pos (.inl g)]
    exact r.fin _
  have g1 : decide (p < 0) = false := decide_eq_false (by omega)
  rcases Int.lt_or_le (p : Int) (d.length : Int) |>.symm with g' | g'
  · have g2 : decide (p ≥ (d.length : Int)) = true := decide_eq_true g'
    simp (config := { maxSteps := 1000000, implicitDefEqProofs := false }) only [-List.reduceReplicate, Nat.reduceBEq, renA, renL, renM, renO, evx, evs, evp, Eng.look, cst, cst1, putd, dstOk, params, loadx, partx, loI, hiI, bltx, mmI, boxx, srcx, calx, nilx, upd, del, resv, fillA, setMany, Nat.reduceLT, Nat.reduceLeDiff, Nat.reduceEqDiff, Nat.reduceAdd, Nat.reduceMul, Nat.reduceSub, reduceIte, reduceCtorEq, if_true, if_false, ite_true, ite_false, eq_self, forall_const, implies_true, Int.reduceLT, Int.reduceLE, Int.reduceToNat, Int.reduceAdd, Int.reduceSub, Int.reduceNeg, ne_eq, Int.reduceEq, Int.reduceNe, Int.reduceBEq, Int.reduceBNe, beq_self_eq_true, bne_self_eq_false, BitVec.reduceBEq, BitVec.reduceBNe, BitVec.reduceOfInt, BitVec.reduceSetWidth, wrD, engS0, engS1, engS2, engS3, engS4, engS5, engS6, engS7, engS8, engS9, engU0, engT0, engT1, engT2, Fx.t1, Fx.t2, Fx.t3, Fx.t4, Fx.t5, Fx.t23, Fx.t35, Fx.t91, Fx.t109, Fx.t110, Fx.t111, Fx.t112, Fx.t113, Fx.en68, Fx.en69, Fx.en70, Try.results21, Try.ntmps21, g1, g2, h1, finO]
    rw [BestV, BestP, if_pos (.inr g')]
    exact r.fin _
  have g2 : decide (p ≥ (d.length : Int)) = false := decide_eq_false (by omega)
  rw [BestV, BestP, if_neg (by omega)]
  obtain ⟨P, rfl⟩ : ∃ P : Nat, p = (P : Int) := ⟨p.toNat, by omega⟩
  rw [Int.toNat_natCast]
  simp (config := { maxSteps := 1000000, implicitDefEqProofs := false }) only [-List.reduceReplicate, Nat.reduceBEq, renA, renL, renM, renO, evx, evs, evp, Eng.look, cst, cst1, putd, dstOk, params, loadx, partx, loI, hiI, bltx, mmI, boxx, srcx, calx, nilx, upd, del, resv, fillA, setMany, Nat.reduceLT, Nat.reduceLeDiff, Nat.reduceEqDiff, Nat.reduceAdd, Nat.reduceMul, Nat.reduceSub, reduceIte, reduceCtorEq, if_true, if_false, ite_true, ite_false, eq_self, forall_const, implies_true, Int.reduceLT, Int.reduceLE, Int.reduceToNat, Int.reduceAdd, Int.reduceSub, Int.reduceNeg, ne_eq, Int.reduceEq, Int.reduceNe, Int.reduceBEq, Int.reduceBNe, beq_self_eq_true, bne_self_eq_false, BitVec.reduceBEq, BitVec.reduceBNe, BitVec.reduceOfInt, BitVec.reduceSetWidth, wrD, engS0, engS1, engS2, engS3, engS4, engS5, engS6, engS7, engS8, engS9, engU0, engT0, engT1, engT2, Fx.t1, Fx.t2, Fx.t3, Fx.t4, Fx.t5, Fx.t23, Fx.t35, Fx.t91, Fx.t109, Fx.t110, Fx.t111, Fx.t112, Fx.t113, Fx.en68, Fx.en69, Fx.en70, Try.results21, Try.ntmps21, g1, g2, h1, finO]
  refine (cutOk r h1 P M nice (by omega) hl).weak ?_
  rintro v m' nx' ⟨rfl, rfl, rfl⟩
  obtain ⟨N, hN⟩ : ∃ N : Int, N = min (min M nice) ((d.length - P : Nat) : Int) := ⟨_, rfl⟩
  rw [← hN]
  rcases Int.lt_or_le N 2 with k | k
  · have k1 : decide (N < 2) = true := decide_eq_true k
    simp (config := { maxSteps := 1000000, implicitDefEqProofs := false }) only [-List.reduceReplicate, Nat.reduceBEq, renA, renL, renM, renO, evx, evs, evp, Eng.look, cst, cst1, putd, dstOk, params, loadx, partx, loI, hiI, bltx, mmI, boxx, srcx, calx, nilx, upd, del, resv, fillA, setMany, Nat.reduceLT, Nat.reduceLeDiff, Nat.reduceEqDiff, Nat.reduceAdd, Nat.reduceMul, Nat.reduceSub, reduceIte, reduceCtorEq, if_true, if_false, ite_true, ite_false, eq_self, forall_const, implies_true, Int.reduceLT, Int.reduceLE, Int.reduceToNat, Int.reduceAdd, Int.reduceSub, Int.reduceNeg, ne_eq, Int.reduceEq, Int.reduceNe, Int.reduceBEq, Int.reduceBNe, beq_self_eq_true, bne_self_eq_false, BitVec.reduceBEq, BitVec.reduceBNe, BitVec.reduceOfInt, BitVec.reduceSetWidth, wrD, engS0, engS1, engS2, engS3, engS4, engS5, engS6, engS7, engS8, engS9, engU0, engT0, engT1, engT2, Fx.t1, Fx.t2, Fx.t3, Fx.t4, Fx.t5, Fx.t23, Fx.t35, Fx.t91, Fx.t109, Fx.t110, Fx.t111, Fx.t112, Fx.t113, Fx.en68, Fx.en69, Fx.en70, k1]
    rw [bestR_small _ _ _ _ (by omega)]
    exact r.fin _
  have k1 : decide (N < 2) = false := decide_eq_false (by omega)
  obtain ⟨n, rfl⟩ : ∃ n : Nat, N = (n : Int) := ⟨N.toNat, by omega⟩
  rw [Int.toNat_natCast]
  have hP : P + 1 < d.length := by omega
  have w1 : IntKind.i64.wrap ((P : Int) + 2) = ((P + 2 : Nat) : Int) := by rw [wrap_i64] <;> omega
  have hcl := F.cl
  have two := rowTwo d (sp.map AV.val) P hP
  obtain ⟨l, hll⟩ : ∃ l, l = posN d (d.getD P 0) (d.getD (P + 1) 0) (d.length - 1) := ⟨_, rfl⟩
  have hq := F.q (d.getD P 0) (d.getD (P + 1) 0)
  rw [← hll] at hq
  have hle := posN_len d (d.getD P 0) (d.getD (P + 1) 0) (d.length - 1)
  rw [← hll] at hle
  have hmem : ∀ x ∈ l, x < 1000000 := fun x hx => by
    rw [hll, posN_mem] at hx
    omega
  have sl1 : (decide ((0 : Int) ≤ (P : Int))) = true := decide_eq_true (by omega)
  simp (config := { maxSteps := 1000000, implicitDefEqProofs := false }) only [-List.reduceReplicate, Nat.reduceBEq, renA, renL, renM, renO, evx, evs, evp, Eng.look, cst, cst1, putd, dstOk, params, loadx, partx, loI, hiI, bltx, mmI, boxx, srcx, calx, nilx, upd, del, resv, fillA, setMany, Nat.reduceLT, Nat.reduceLeDiff, Nat.reduceEqDiff, Nat.reduceAdd, Nat.reduceMul, Nat.reduceSub, reduceIte, reduceCtorEq, if_true, if_false, ite_true, ite_false, eq_self, forall_const, implies_true, Int.reduceLT, Int.reduceLE, Int.reduceToNat, Int.reduceAdd, Int.reduceSub, Int.reduceNeg, ne_eq, Int.reduceEq, Int.reduceNe, Int.reduceBEq, Int.reduceBNe, beq_self_eq_true, bne_self_eq_false, BitVec.reduceBEq, BitVec.reduceBNe, BitVec.reduceOfInt, BitVec.reduceSetWidth, wrD, engS0, engS1, engS2, engS3, engS4, engS5, engS6, engS7, engS8, engS9, engU0, engT0, engT1, engT2, Fx.t1, Fx.t2, Fx.t3, Fx.t4, Fx.t5, Fx.t23, Fx.t35, Fx.t91, Fx.t109, Fx.t110, Fx.t111, Fx.t112, Fx.t113, Fx.en68, Fx.en69, Fx.en70, k1]
  refine ⟨Fx.mixed, .inl ⟨[(0, false), (1, false), (2, false), (3, false), (4, false), (5, false), (6, false), (7, false), (8, false), (9, false), (10, false), (11, false), (12, false), (13, false), (14, true), (15, false)], [], by kernel_rfl, (fun n hn => by cases hn), ?_⟩⟩
  cases hv : xget (.b (d.getD P 0) (d.getD (P + 1) 0)) keys vals with
  | none =>
    rw [hv] at hq
    have hq : l = [] := hq
    simp (config := { maxSteps := 1000000, implicitDefEqProofs := false }) only [-List.reduceReplicate, Nat.reduceBEq, renA, renL, renM, renO, evx, evs, evp, Eng.look, cst, cst1, putd, dstOk, params, loadx, partx, loI, hiI, bltx, mmI, boxx, srcx, calx, nilx, upd, del, resv, fillA, setMany, Nat.reduceLT, Nat.reduceLeDiff, Nat.reduceEqDiff, Nat.reduceAdd, Nat.reduceMul, Nat.reduceSub, reduceIte, reduceCtorEq, if_true, if_false, ite_true, ite_false, eq_self, forall_const, implies_true, Int.reduceLT, Int.reduceLE, Int.reduceToNat, Int.reduceAdd, Int.reduceSub, Int.reduceNeg, ne_eq, Int.reduceEq, Int.reduceNe, Int.reduceBEq, Int.reduceBNe, beq_self_eq_true, bne_self_eq_false, BitVec.reduceBEq, BitVec.reduceBNe, BitVec.reduceOfInt, BitVec.reduceSetWidth, wrD, engS0, engS1, engS2, engS3, engS4, engS5, engS6, engS7, engS8, engS9, engU0, engT0, engT1, engT2, Fx.t1, Fx.t2, Fx.t3, Fx.t4, Fx.t5, Fx.t23, Fx.t35, Fx.t91, Fx.t109, Fx.t110, Fx.t111, Fx.t112, Fx.t113, Fx.en68, Fx.en69, Fx.en70, h1, h2, h3, finO, rowO, ra, rb, rc, w1, Int.toNat_natCast, two, hv]
    refine ⟨⟨by omega, by omega⟩, by omega, by omega, ?_⟩
    refine (belowNil r P (.ptr a 0)).weak ?_
    rintro v m2 nx2 ⟨rfl, rfl, rfl⟩
    have w2 : IntKind.i64.wrap (0 - 1) = -1 := by decide
    simp (config := { maxSteps := 1000000, implicitDefEqProofs := false }) only [-List.reduceReplicate, Nat.reduceBEq, renA, renL, renM, renO, evx, evs, evp, Eng.look, cst, cst1, putd, dstOk, params, loadx, partx, loI, hiI, bltx, mmI, boxx, srcx, calx, nilx, upd, del, resv, fillA, setMany, Nat.reduceLT, Nat.reduceLeDiff, Nat.reduceEqDiff, Nat.reduceAdd, Nat.reduceMul, Nat.reduceSub, reduceIte, reduceCtorEq, if_true, if_false, ite_true, ite_false, eq_self, forall_const, implies_true, Int.reduceLT, Int.reduceLE, Int.reduceToNat, Int.reduceAdd, Int.reduceSub, Int.reduceNeg, ne_eq, Int.reduceEq, Int.reduceNe, Int.reduceBEq, Int.reduceBNe, beq_self_eq_true, bne_self_eq_false, BitVec.reduceBEq, BitVec.reduceBNe, BitVec.reduceOfInt, BitVec.reduceSetWidth, wrD, engS0, engS1, engS2, engS3, engS4, engS5, engS6, engS7, engS8, engS9, engU0, engT0, engT1, engT2, Fx.t1, Fx.t2, Fx.t3, Fx.t4, Fx.t5, Fx.t23, Fx.t35, Fx.t91, Fx.t109, Fx.t110, Fx.t111, Fx.t112, Fx.t113, Fx.en68, Fx.en69, Fx.en70, w2]
    refine LoopOk.up 0 (fun i => ([(11, .int .i64 (-1)), (10, .int .i64 0), (9, .int .i64 0), (8, .nils), (2, .int .i64 n), (1, .int .i64 P), (0, .ptr a 0)], m2, nx2)) (r.le ⟨rfl, rfl, rfl, rfl, rfl, rfl, rfl, trivial⟩) ?_
    intro i hi
    have w3 : decide ((-1 : Int) ≥ 0) = false := by decide
    simp (config := { maxSteps := 1000000, implicitDefEqProofs := false }) only [-List.reduceReplicate, Nat.reduceBEq, renA, renL, renM, renO, evx, evs, evp, Eng.look, cst, cst1, putd, dstOk, params, loadx, partx, loI, hiI, bltx, mmI, boxx, srcx, calx, nilx, upd, del, resv, fillA, setMany, Nat.reduceLT, Nat.reduceLeDiff, Nat.reduceEqDiff, Nat.reduceAdd, Nat.reduceMul, Nat.reduceSub, reduceIte, reduceCtorEq, if_true, if_false, ite_true, ite_false, eq_self, forall_const, implies_true, Int.reduceLT, Int.reduceLE, Int.reduceToNat, Int.reduceAdd, Int.reduceSub, Int.reduceNeg, ne_eq, Int.reduceEq, Int.reduceNe, Int.reduceBEq, Int.reduceBNe, beq_self_eq_true, bne_self_eq_false, BitVec.reduceBEq, BitVec.reduceBNe, BitVec.reduceOfInt, BitVec.reduceSetWidth, wrD, engS0, engS1, engS2, engS3, engS4, engS5, engS6, engS7, engS8, engS9, engU0, engT0, engT1, engT2, Fx.t1, Fx.t2, Fx.t3, Fx.t4, Fx.t5, Fx.t23, Fx.t35, Fx.t91, Fx.t109, Fx.t110, Fx.t111, Fx.t112, Fx.t113, Fx.en68, Fx.en69, Fx.en70]
    refine ⟨Fx.mixed, .inl ⟨[(0, false), (1, false), (2, false), (3, false), (4, false), (5, false), (6, false), (7, false), (8, false), (9, false), (10, false), (11, false), (12, false), (13, false), (14, false), (15, false), (16, false), (17, false), (18, false), (19, false)], [], by kernel_rfl, (fun n hn => by cases hn), ?_⟩⟩
    simp (config := { maxSteps := 1000000, implicitDefEqProofs := false }) only [-List.reduceReplicate, Nat.reduceBEq, renA, renL, renM, renO, evx, evs, evp, Eng.look, cst, cst1, putd, dstOk, params, loadx, partx, loI, hiI, bltx, mmI, boxx, srcx, calx, nilx, upd, del, resv, fillA, setMany, Nat.reduceLT, Nat.reduceLeDiff, Nat.reduceEqDiff, Nat.reduceAdd, Nat.reduceMul, Nat.reduceSub, reduceIte, reduceCtorEq, if_true, if_false, ite_true, ite_false, eq_self, forall_const, implies_true, Int.reduceLT, Int.reduceLE, Int.reduceToNat, Int.reduceAdd, Int.reduceSub, Int.reduceNeg, ne_eq, Int.reduceEq, Int.reduceNe, Int.reduceBEq, Int.reduceBNe, beq_self_eq_true, bne_self_eq_false, BitVec.reduceBEq, BitVec.reduceBNe, BitVec.reduceOfInt, BitVec.reduceSetWidth, wrD, engS0, engS1, engS2, engS3, engS4, engS5, engS6, engS7, engS8, engS9, engU0, engT0, engT1, engT2, Fx.t1, Fx.t2, Fx.t3, Fx.t4, Fx.t5, Fx.t23, Fx.t35, Fx.t91, Fx.t109, Fx.t110, Fx.t111, Fx.t112, Fx.t113, Fx.en68, Fx.en69, Fx.en70, w3]
    rw [best_end hll rfl rfl hP (by omega : 2 ≤ n) (r := 0) (Nat.zero_le _) (fun j hj => by omega) (fun j _ hj => by rw [hq] at hj; exact absurd hj (by simp)) 0 (min (P : Int) dict).toNat (Nat.le_refl _) (by show 0 ≤ _; omega) (by omega) (fun h => by omega)]
    exact r.fin _
  | some v =>
    rw [hv] at hq
    obtain ⟨nn, cp, s, rfl, hn, c1, c2, hnn⟩ := hq
    have rn : decide (nx' ≤ nn) = false := decide_eq_false (by omega)
    simp (config := { maxSteps := 1000000, implicitDefEqProofs := false }) only [-List.reduceReplicate, Nat.reduceBEq, renA, renL, renM, renO, evx, evs, evp, Eng.look, cst, cst1, putd, dstOk, params, loadx, partx, loI, hiI, bltx, mmI, boxx, srcx, calx, nilx, upd, del, resv, fillA, setMany, Nat.reduceLT, Nat.reduceLeDiff, Nat.reduceEqDiff, Nat.reduceAdd, Nat.reduceMul, Nat.reduceSub, reduceIte, reduceCtorEq, if_true, if_false, ite_true, ite_false, eq_self, forall_const, implies_true, Int.reduceLT, Int.reduceLE, Int.reduceToNat, Int.reduceAdd, Int.reduceSub, Int.reduceNeg, ne_eq, Int.reduceEq, Int.reduceNe, Int.reduceBEq, Int.reduceBNe, beq_self_eq_true, bne_self_eq_false, BitVec.reduceBEq, BitVec.reduceBNe, BitVec.reduceOfInt, BitVec.reduceSetWidth, wrD, engS0, engS1, engS2, engS3, engS4, engS5, engS6, engS7, engS8, engS9, engU0, engT0, engT1, engT2, Fx.t1, Fx.t2, Fx.t3, Fx.t4, Fx.t5, Fx.t23, Fx.t35, Fx.t91, Fx.t109, Fx.t110, Fx.t111, Fx.t112, Fx.t113, Fx.en68, Fx.en69, Fx.en70, h1, h2, h3, finO, rowO, ra, rb, rc, w1, Int.toNat_natCast, two, hv]
    refine ⟨⟨by omega, by omega⟩, by omega, by omega, ?_⟩
    have rise : ∀ i j, i < j → j < l.length → l.getD i 0 < l.getD j 0 := fun i j h1 h2 => by
      rw [hll] at h2 ⊢
      exact posN_lt d _ _ _ h1 h2
    refine (belowOk r l hn hnn hmem (by omega) rise P (.ptr a 0) (by omega)).weak ?_
    rintro v m2 nx2 ⟨R, b1, b2, b3, rfl, rfl, rfl⟩
    have w2 : IntKind.i64.wrap ((R : Int) - 1) = iv R 0 := by rw [wrap_i64, iv] <;> omega
    simp (config := { maxSteps := 1000000, implicitDefEqProofs := false }) only [-List.reduceReplicate, Nat.reduceBEq, renA, renL, renM, renO, evx, evs, evp, Eng.look, cst, cst1, putd, dstOk, params, loadx, partx, loI, hiI, bltx, mmI, boxx, srcx, calx, nilx, upd, del, resv, fillA, setMany, Nat.reduceLT, Nat.reduceLeDiff, Nat.reduceEqDiff, Nat.reduceAdd, Nat.reduceMul, Nat.reduceSub, reduceIte, reduceCtorEq, if_true, if_false, ite_true, ite_false, eq_self, forall_const, implies_true, Int.reduceLT, Int.reduceLE, Int.reduceToNat, Int.reduceAdd, Int.reduceSub, Int.reduceNeg, ne_eq, Int.reduceEq, Int.reduceNe, Int.reduceBEq, Int.reduceBNe, beq_self_eq_true, bne_self_eq_false, BitVec.reduceBEq, BitVec.reduceBNe, BitVec.reduceOfInt, BitVec.reduceSetWidth, wrD, engS0, engS1, engS2, engS3, engS4, engS5, engS6, engS7, engS8, engS9, engU0, engT0, engT1, engT2, Fx.t1, Fx.t2, Fx.t3, Fx.t4, Fx.t5, Fx.t23, Fx.t35, Fx.t91, Fx.t109, Fx.t110, Fx.t111, Fx.t112, Fx.t113, Fx.en68, Fx.en69, Fx.en70, w2]
    refine LoopOk.upX (fun t (_ : Unit) => (t ≤ R ∧ (dst l P R t : Int) ≤ dict)) R (fun t _ => ([(11, .int .i64 (iv R t)), (10, .int .i64 ((bestR d P n (dst l P R t)).2 : Nat)), (9, .int .i64 ((bestR d P n (dst l P R t)).1 : Nat)), (8, .sl nn 0 l.length cp), (2, .int .i64 n), (1, .int .i64 P), (0, .ptr a 0)], m2, nx2)) () ⟨Nat.zero_le _, by show ((0 : Nat) : Int) ≤ dict; omega⟩ (r.le ⟨rfl, rfl, rfl, rfl, rfl, rfl, rfl, trivial⟩) ?_
    rintro t _ ⟨hi, ht, hdd⟩
    have hdP : dst l P R t ≤ P := by
      cases t with
      | zero => exact Nat.zero_le _
      | succ t => exact Nat.sub_le _ _
    have done : ∀ D, D = (min (P : Int) dict).toNat → bestR d P n D = bestR d P n (dst l P R t) → Eng.Fin nx2 wr m2 nx2 (Kr (.tup [.int .i64 ((bestR d P n (min (P : Int) dict).toNat).1 : Nat), .int .i64 ((bestR d P n (min (P : Int) dict).toNat).2 : Nat)]) m2 nx2) (.tup [.int .i64 ((bestR d P n (dst l P R t)).1 : Nat), .int .i64 ((bestR d P n (dst l P R t)).2 : Nat)]) := fun D e h => by
      rw [← e, h]
      exact r.fin _
    rcases Nat.lt_or_ge t R with g3 | g3
    · have ei : iv R t = ((R - (t + 1) : Nat) : Int) := by rw [iv]; omega
      have e1 : decide (((R - (t + 1) : Nat) : Int) ≥ 0) = true := decide_eq_true (by omega)
      have kl : R - (t + 1) < l.length := by omega
      have hrow := irowGet (pv l) (s.map AV.val) (R - (t + 1)) (by rw [pv_len]; exact kl)
      rw [pv_get hmem kl] at hrow
      have kl2 : R - (t + 1) < (pv l).length + s.length := by rw [pv_len]; omega
      obtain ⟨a1, a2, a3, a4⟩ := dst_lt hll rfl rfl hP (by omega : 2 ≤ n) b1 b2 b3 t g3
      have w4 : IntKind.i64.wrap ((P : Int) - ((l.getD (R - (t + 1)) 0 : Nat) : Int)) = ((dst l P R (t + 1) : Nat) : Int) := by rw [wrap_i64] <;> omega
      have w5 : IntKind.i64.wrap (((R - (t + 1) : Nat) : Int) - 1) = iv R (t + 1) := by rw [wrap_i64, iv] <;> omega
      rw [ei]
      rcases Int.lt_or_le dict ((dst l P R (t + 1) : Nat) : Int) with q | q
      · have e2 : decide (((dst l P R (t + 1) : Nat) : Int) ≤ dict) = false := decide_eq_false (by omega)
        simp (config := { maxSteps := 1000000, implicitDefEqProofs := false }) only [-List.reduceReplicate, Nat.reduceBEq, renA, renL, renM, renO, evx, evs, evp, Eng.look, cst, cst1, putd, dstOk, params, loadx, partx, loI, hiI, bltx, mmI, boxx, srcx, calx, nilx, upd, del, resv, fillA, setMany, Nat.reduceLT, Nat.reduceLeDiff, Nat.reduceEqDiff, Nat.reduceAdd, Nat.reduceMul, Nat.reduceSub, reduceIte, reduceCtorEq, if_true, if_false, ite_true, ite_false, eq_self, forall_const, implies_true, Int.reduceLT, Int.reduceLE, Int.reduceToNat, Int.reduceAdd, Int.reduceSub, Int.reduceNeg, ne_eq, Int.reduceEq, Int.reduceNe, Int.reduceBEq, Int.reduceBNe, beq_self_eq_true, bne_self_eq_false, BitVec.reduceBEq, BitVec.reduceBNe, BitVec.reduceOfInt, BitVec.reduceSetWidth, wrD, engS0, engS1, engS2, engS3, engS4, engS5, engS6, engS7, engS8, engS9, engU0, engT0, engT1, engT2, Fx.t1, Fx.t2, Fx.t3, Fx.t4, Fx.t5, Fx.t23, Fx.t35, Fx.t91, Fx.t109, Fx.t110, Fx.t111, Fx.t112, Fx.t113, Fx.en68, Fx.en69, Fx.en70]
        refine ⟨Fx.mixed, .inl ⟨[(0, false), (1, false), (2, false), (3, false), (4, false), (5, false), (6, false), (7, false), (8, false), (9, false), (10, false), (11, false), (12, false), (13, false), (14, false), (15, false), (16, false), (17, false), (18, false), (19, false)], [], by kernel_rfl, (fun n hn => by cases hn), ?_⟩⟩
        simp (config := { maxSteps := 1000000, implicitDefEqProofs := false }) only [-List.reduceReplicate, Nat.reduceBEq, renA, renL, renM, renO, evx, evs, evp, Eng.look, cst, cst1, putd, dstOk, params, loadx, partx, loI, hiI, bltx, mmI, boxx, srcx, calx, nilx, upd, del, resv, fillA, setMany, Nat.reduceLT, Nat.reduceLeDiff, Nat.reduceEqDiff, Nat.reduceAdd, Nat.reduceMul, Nat.reduceSub, reduceIte, reduceCtorEq, if_true, if_false, ite_true, ite_false, eq_self, forall_const, implies_true, Int.reduceLT, Int.reduceLE, Int.reduceToNat, Int.reduceAdd, Int.reduceSub, Int.reduceNeg, ne_eq, Int.reduceEq, Int.reduceNe, Int.reduceBEq, Int.reduceBNe, beq_self_eq_true, bne_self_eq_false, BitVec.reduceBEq, BitVec.reduceBNe, BitVec.reduceOfInt, BitVec.reduceSetWidth, wrD, engS0, engS1, engS2, engS3, engS4, engS5, engS6, engS7, engS8, engS9, engU0, engT0, engT1, engT2, Fx.t1, Fx.t2, Fx.t3, Fx.t4, Fx.t5, Fx.t23, Fx.t35, Fx.t91, Fx.t109, Fx.t110, Fx.t111, Fx.t112, Fx.t113, Fx.en68, Fx.en69, Fx.en70, h1, finO, hn, ra, rn, e1, e2, w4, hrow, Int.toNat_natCast]
        refine ⟨by omega, kl2, ?_⟩
        exact done _ rfl (best_end hll rfl rfl hP (by omega : 2 ≤ n) b1 b2 b3 t (min (P : Int) dict).toNat ht (by omega) (by omega) (fun _ => by omega))
      · have e2 : decide (((dst l P R (t + 1) : Nat) : Int) ≤ dict) = true := decide_eq_true (by omega)
        rcases Nat.lt_or_ge (bestR d P n (dst l P R t)).1 n with q2 | q2
        · have e3 : decide ((((bestR d P n (dst l P R t)).1 : Nat) : Int) < (n : Int)) = true := decide_eq_true (by omega)
          have hst := best_step hll rfl rfl hP (by omega : 2 ≤ n) b1 b2 b3 t g3
          rw [← a3] at hst
          simp (config := { maxSteps := 1000000, implicitDefEqProofs := false }) only [-List.reduceReplicate, Nat.reduceBEq, renA, renL, renM, renO, evx, evs, evp, Eng.look, cst, cst1, putd, dstOk, params, loadx, partx, loI, hiI, bltx, mmI, boxx, srcx, calx, nilx, upd, del, resv, fillA, setMany, Nat.reduceLT, Nat.reduceLeDiff, Nat.reduceEqDiff, Nat.reduceAdd, Nat.reduceMul, Nat.reduceSub, reduceIte, reduceCtorEq, if_true, if_false, ite_true, ite_false, eq_self, forall_const, implies_true, Int.reduceLT, Int.reduceLE, Int.reduceToNat, Int.reduceAdd, Int.reduceSub, Int.reduceNeg, ne_eq, Int.reduceEq, Int.reduceNe, Int.reduceBEq, Int.reduceBNe, beq_self_eq_true, bne_self_eq_false, BitVec.reduceBEq, BitVec.reduceBNe, BitVec.reduceOfInt, BitVec.reduceSetWidth, wrD, engS0, engS1, engS2, engS3, engS4, engS5, engS6, engS7, engS8, engS9, engU0, engT0, engT1, engT2, Fx.t1, Fx.t2, Fx.t3, Fx.t4, Fx.t5, Fx.t23, Fx.t35, Fx.t91, Fx.t109, Fx.t110, Fx.t111, Fx.t112, Fx.t113, Fx.en68, Fx.en69, Fx.en70]
          refine ⟨Fx.mixed, .inl ⟨[(0, false), (1, false), (2, false), (3, false), (4, false), (5, false), (6, false), (7, false), (8, false), (9, false), (10, false), (11, false), (12, false), (13, false), (14, false), (15, false), (16, false), (17, false), (18, false), (19, false)], [], by kernel_rfl, (fun n hn => by cases hn), ?_⟩⟩
          simp (config := { maxSteps := 1000000, implicitDefEqProofs := false }) only [-List.reduceReplicate, Nat.reduceBEq, renA, renL, renM, renO, evx, evs, evp, Eng.look, cst, cst1, putd, dstOk, params, loadx, partx, loI, hiI, bltx, mmI, boxx, srcx, calx, nilx, upd, del, resv, fillA, setMany, Nat.reduceLT, Nat.reduceLeDiff, Nat.reduceEqDiff, Nat.reduceAdd, Nat.reduceMul, Nat.reduceSub, reduceIte, reduceCtorEq, if_true, if_false, ite_true, ite_false, eq_self, forall_const, implies_true, Int.reduceLT, Int.reduceLE, Int.reduceToNat, Int.reduceAdd, Int.reduceSub, Int.reduceNeg, ne_eq, Int.reduceEq, Int.reduceNe, Int.reduceBEq, Int.reduceBNe, beq_self_eq_true, bne_self_eq_false, BitVec.reduceBEq, BitVec.reduceBNe, BitVec.reduceOfInt, BitVec.reduceSetWidth, wrD, engS0, engS1, engS2, engS3, engS4, engS5, engS6, engS7, engS8, engS9, engU0, engT0, engT1, engT2, Fx.t1, Fx.t2, Fx.t3, Fx.t4, Fx.t5, Fx.t23, Fx.t35, Fx.t91, Fx.t109, Fx.t110, Fx.t111, Fx.t112, Fx.t113, Fx.en68, Fx.en69, Fx.en70, h1, finO, hn, ra, rn, e1, e2, e3, w4, hrow, Int.toNat_natCast]
          refine ⟨by omega, kl2, by omega, kl2, ?_⟩
          refine (likeOk r h1 h2 F.an F.bn P (dst l P R (t + 1)) (n : Int) (by omega) (by omega) (by omega) hl).weak ?_
          rintro v m3 nx3 ⟨rfl, rfl, rfl⟩
          rw [Int.toNat_natCast]
          rcases Nat.lt_or_ge (bestR d P n (dst l P R t)).1 (lkn d P (P - dst l P R (t + 1)) n) with q3 | q3
          · have e4 : decide (((lkn d P (P - dst l P R (t + 1)) n : Nat) : Int) > (((bestR d P n (dst l P R t)).1 : Nat) : Int)) = true := decide_eq_true (by omega)
            rw [if_pos q3] at hst
            simp (config := { maxSteps := 1000000, implicitDefEqProofs := false }) only [-List.reduceReplicate, Nat.reduceBEq, renA, renL, renM, renO, evx, evs, evp, Eng.look, cst, cst1, putd, dstOk, params, loadx, partx, loI, hiI, bltx, mmI, boxx, srcx, calx, nilx, upd, del, resv, fillA, setMany, Nat.reduceLT, Nat.reduceLeDiff, Nat.reduceEqDiff, Nat.reduceAdd, Nat.reduceMul, Nat.reduceSub, reduceIte, reduceCtorEq, if_true, if_false, ite_true, ite_false, eq_self, forall_const, implies_true, Int.reduceLT, Int.reduceLE, Int.reduceToNat, Int.reduceAdd, Int.reduceSub, Int.reduceNeg, ne_eq, Int.reduceEq, Int.reduceNe, Int.reduceBEq, Int.reduceBNe, beq_self_eq_true, bne_self_eq_false, BitVec.reduceBEq, BitVec.reduceBNe, BitVec.reduceOfInt, BitVec.reduceSetWidth, wrD, engS0, engS1, engS2, engS3, engS4, engS5, engS6, engS7, engS8, engS9, engU0, engT0, engT1, engT2, Fx.t1, Fx.t2, Fx.t3, Fx.t4, Fx.t5, Fx.t23, Fx.t35, Fx.t91, Fx.t109, Fx.t110, Fx.t111, Fx.t112, Fx.t113, Fx.en68, Fx.en69, Fx.en70, e4]
            refine ⟨Fx.mixed, .inl ⟨[(0, false), (1, false), (2, false), (3, false), (4, false), (5, false), (6, false), (7, false), (8, false)], [], by kernel_rfl, (fun n hn => by cases hn), ?_⟩⟩
            simp (config := { maxSteps := 1000000, implicitDefEqProofs := false }) only [-List.reduceReplicate, Nat.reduceBEq, renA, renL, renM, renO, evx, evs, evp, Eng.look, cst, cst1, putd, dstOk, params, loadx, partx, loI, hiI, bltx, mmI, boxx, srcx, calx, nilx, upd, del, resv, fillA, setMany, Nat.reduceLT, Nat.reduceLeDiff, Nat.reduceEqDiff, Nat.reduceAdd, Nat.reduceMul, Nat.reduceSub, reduceIte, reduceCtorEq, if_true, if_false, ite_true, ite_false, eq_self, forall_const, implies_true, Int.reduceLT, Int.reduceLE, Int.reduceToNat, Int.reduceAdd, Int.reduceSub, Int.reduceNeg, ne_eq, Int.reduceEq, Int.reduceNe, Int.reduceBEq, Int.reduceBNe, beq_self_eq_true, bne_self_eq_false, BitVec.reduceBEq, BitVec.reduceBNe, BitVec.reduceOfInt, BitVec.reduceSetWidth, wrD, engS0, engS1, engS2, engS3, engS4, engS5, engS6, engS7, engS8, engS9, engU0, engT0, engT1, engT2, Fx.t1, Fx.t2, Fx.t3, Fx.t4, Fx.t5, Fx.t23, Fx.t35, Fx.t91, Fx.t109, Fx.t110, Fx.t111, Fx.t112, Fx.t113, Fx.en68, Fx.en69, Fx.en70, h1, finO, hn, ra, rn, w4, w5, hrow, Int.toNat_natCast]
            refine ⟨by omega, kl2, ?_⟩
            refine UpX_normal g3 () ⟨g3, q⟩ ?_
            rw [hst]
            exact r.le ⟨rfl, rfl, rfl, rfl, rfl, rfl, rfl, trivial⟩
          · have e4 : decide (((lkn d P (P - dst l P R (t + 1)) n : Nat) : Int) > (((bestR d P n (dst l P R t)).1 : Nat) : Int)) = false := decide_eq_false (by omega)
            rw [if_neg (by omega)] at hst
            simp (config := { maxSteps := 1000000, implicitDefEqProofs := false }) only [-List.reduceReplicate, Nat.reduceBEq, renA, renL, renM, renO, evx, evs, evp, Eng.look, cst, cst1, putd, dstOk, params, loadx, partx, loI, hiI, bltx, mmI, boxx, srcx, calx, nilx, upd, del, resv, fillA, setMany, Nat.reduceLT, Nat.reduceLeDiff, Nat.reduceEqDiff, Nat.reduceAdd, Nat.reduceMul, Nat.reduceSub, reduceIte, reduceCtorEq, if_true, if_false, ite_true, ite_false, eq_self, forall_const, implies_true, Int.reduceLT, Int.reduceLE, Int.reduceToNat, Int.reduceAdd, Int.reduceSub, Int.reduceNeg, ne_eq, Int.reduceEq, Int.reduceNe, Int.reduceBEq, Int.reduceBNe, beq_self_eq_true, bne_self_eq_false, BitVec.reduceBEq, BitVec.reduceBNe, BitVec.reduceOfInt, BitVec.reduceSetWidth, wrD, engS0, engS1, engS2, engS3, engS4, engS5, engS6, engS7, engS8, engS9, engU0, engT0, engT1, engT2, Fx.t1, Fx.t2, Fx.t3, Fx.t4, Fx.t5, Fx.t23, Fx.t35, Fx.t91, Fx.t109, Fx.t110, Fx.t111, Fx.t112, Fx.t113, Fx.en68, Fx.en69, Fx.en70, e4, w5]
            refine UpX_normal g3 () ⟨g3, q⟩ ?_
            rw [hst]
            exact r.le ⟨rfl, rfl, rfl, rfl, rfl, rfl, rfl, trivial⟩
        · have e3 : decide ((((bestR d P n (dst l P R t)).1 : Nat) : Int) < (n : Int)) = false := decide_eq_false (by omega)
          simp (config := { maxSteps := 1000000, implicitDefEqProofs := false }) only [-List.reduceReplicate, Nat.reduceBEq, renA, renL, renM, renO, evx, evs, evp, Eng.look, cst, cst1, putd, dstOk, params, loadx, partx, loI, hiI, bltx, mmI, boxx, srcx, calx, nilx, upd, del, resv, fillA, setMany, Nat.reduceLT, Nat.reduceLeDiff, Nat.reduceEqDiff, Nat.reduceAdd, Nat.reduceMul, Nat.reduceSub, reduceIte, reduceCtorEq, if_true, if_false, ite_true, ite_false, eq_self, forall_const, implies_true, Int.reduceLT, Int.reduceLE, Int.reduceToNat, Int.reduceAdd, Int.reduceSub, Int.reduceNeg, ne_eq, Int.reduceEq, Int.reduceNe, Int.reduceBEq, Int.reduceBNe, beq_self_eq_true, bne_self_eq_false, BitVec.reduceBEq, BitVec.reduceBNe, BitVec.reduceOfInt, BitVec.reduceSetWidth, wrD, engS0, engS1, engS2, engS3, engS4, engS5, engS6, engS7, engS8, engS9, engU0, engT0, engT1, engT2, Fx.t1, Fx.t2, Fx.t3, Fx.t4, Fx.t5, Fx.t23, Fx.t35, Fx.t91, Fx.t109, Fx.t110, Fx.t111, Fx.t112, Fx.t113, Fx.en68, Fx.en69, Fx.en70]
          refine ⟨Fx.mixed, .inl ⟨[(0, false), (1, false), (2, false), (3, false), (4, false), (5, false), (6, false), (7, false), (8, false), (9, false), (10, false), (11, false), (12, false), (13, false), (14, false), (15, false), (16, false), (17, false), (18, false), (19, false)], [], by kernel_rfl, (fun n hn => by cases hn), ?_⟩⟩
          simp (config := { maxSteps := 1000000, implicitDefEqProofs := false }) only [-List.reduceReplicate, Nat.reduceBEq, renA, renL, renM, renO, evx, evs, evp, Eng.look, cst, cst1, putd, dstOk, params, loadx, partx, loI, hiI, bltx, mmI, boxx, srcx, calx, nilx, upd, del, resv, fillA, setMany, Nat.reduceLT, Nat.reduceLeDiff, Nat.reduceEqDiff, Nat.reduceAdd, Nat.reduceMul, Nat.reduceSub, reduceIte, reduceCtorEq, if_true, if_false, ite_true, ite_false, eq_self, forall_const, implies_true, Int.reduceLT, Int.reduceLE, Int.reduceToNat, Int.reduceAdd, Int.reduceSub, Int.reduceNeg, ne_eq, Int.reduceEq, Int.reduceNe, Int.reduceBEq, Int.reduceBNe, beq_self_eq_true, bne_self_eq_false, BitVec.reduceBEq, BitVec.reduceBNe, BitVec.reduceOfInt, BitVec.reduceSetWidth, wrD, engS0, engS1, engS2, engS3, engS4, engS5, engS6, engS7, engS8, engS9, engU0, engT0, engT1, engT2, Fx.t1, Fx.t2, Fx.t3, Fx.t4, Fx.t5, Fx.t23, Fx.t35, Fx.t91, Fx.t109, Fx.t110, Fx.t111, Fx.t112, Fx.t113, Fx.en68, Fx.en69, Fx.en70, h1, finO, hn, ra, rn, e1, e2, e3, w4, hrow, Int.toNat_natCast]
          refine ⟨by omega, kl2, ?_⟩
          exact done _ rfl (bestR_top d P n _ _ (by omega) q2 (by omega))
    · have ei : iv R t = -1 := by rw [iv]; omega
      have w3 : decide ((-1 : Int) ≥ 0) = false := by decide
      rw [ei]
      simp (config := { maxSteps := 1000000, implicitDefEqProofs := false }) only [-List.reduceReplicate, Nat.reduceBEq, renA, renL, renM, renO, evx, evs, evp, Eng.look, cst, cst1, putd, dstOk, params, loadx, partx, loI, hiI, bltx, mmI, boxx, srcx, calx, nilx, upd, del, resv, fillA, setMany, Nat.reduceLT, Nat.reduceLeDiff, Nat.reduceEqDiff, Nat.reduceAdd, Nat.reduceMul, Nat.reduceSub, reduceIte, reduceCtorEq, if_true, if_false, ite_true, ite_false, eq_self, forall_const, implies_true, Int.reduceLT, Int.reduceLE, Int.reduceToNat, Int.reduceAdd, Int.reduceSub, Int.reduceNeg, ne_eq, Int.reduceEq, Int.reduceNe, Int.reduceBEq, Int.reduceBNe, beq_self_eq_true, bne_self_eq_false, BitVec.reduceBEq, BitVec.reduceBNe, BitVec.reduceOfInt, BitVec.reduceSetWidth, wrD, engS0, engS1, engS2, engS3, engS4, engS5, engS6, engS7, engS8, engS9, engU0, engT0, engT1, engT2, Fx.t1, Fx.t2, Fx.t3, Fx.t4, Fx.t5, Fx.t23, Fx.t35, Fx.t91, Fx.t109, Fx.t110, Fx.t111, Fx.t112, Fx.t113, Fx.en68, Fx.en69, Fx.en70]
      refine ⟨Fx.mixed, .inl ⟨[(0, false), (1, false), (2, false), (3, false), (4, false), (5, false), (6, false), (7, false), (8, false), (9, false), (10, false), (11, false), (12, false), (13, false), (14, false), (15, false), (16, false), (17, false), (18, false), (19, false)], [], by kernel_rfl, (fun n hn => by cases hn), ?_⟩⟩
      simp (config := { maxSteps := 1000000, implicitDefEqProofs := false }) only [-List.reduceReplicate, Nat.reduceBEq, renA, renL, renM, renO, evx, evs, evp, Eng.look, cst, cst1, putd, dstOk, params, loadx, partx, loI, hiI, bltx, mmI, boxx, srcx, calx, nilx, upd, del, resv, fillA, setMany, Nat.reduceLT, Nat.reduceLeDiff, Nat.reduceEqDiff, Nat.reduceAdd, Nat.reduceMul, Nat.reduceSub, reduceIte, reduceCtorEq, if_true, if_false, ite_true, ite_false, eq_self, forall_const, implies_true, Int.reduceLT, Int.reduceLE, Int.reduceToNat, Int.reduceAdd, Int.reduceSub, Int.reduceNeg, ne_eq, Int.reduceEq, Int.reduceNe, Int.reduceBEq, Int.reduceBNe, beq_self_eq_true, bne_self_eq_false, BitVec.reduceBEq, BitVec.reduceBNe, BitVec.reduceOfInt, BitVec.reduceSetWidth, wrD, engS0, engS1, engS2, engS3, engS4, engS5, engS6, engS7, engS8, engS9, engU0, engT0, engT1, engT2, Fx.t1, Fx.t2, Fx.t3, Fx.t4, Fx.t5, Fx.t23, Fx.t35, Fx.t91, Fx.t109, Fx.t110, Fx.t111, Fx.t112, Fx.t113, Fx.en68, Fx.en69, Fx.en70, w3]
      exact done _ rfl (best_end hll rfl rfl hP (by omega : 2 ≤ n) b1 b2 b3 t (min (P : Int) dict).toNat ht (by omega) (by omega) (fun h => by omega))
end Go.Proofs.Ytmnbbpckglppjaa
