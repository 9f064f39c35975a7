/- Finding: the search by halves, and the best. -/
import Derived.Test.YtmnbbpckglppjaaEng19
import Derived.Test.YtmnbbpckglppjaaEng26
import Derived.Test.YtmnbbpckglppjaaFnc
set_option linter.unusedVariables false
set_option linter.unusedSimpArgs false
set_option maxRecDepth 100000
namespace Go.Proofs.Ytmnbbpckglppjaa
open Go Go.Eng

def pv (l : List Nat) : List (BitVec 64) := l.map (BitVec.ofNat 64)
theorem pv_len (l : List Nat) : (pv l).length = l.length := by rw [pv, List.length_map]
theorem pv_get {l : List Nat} (h : ∀ x ∈ l, x < 1000000) {i : Nat} (hi : i < l.length) : ((pv l).getD i 0).toNat = l.getD i 0 := by
  have hl : i < (pv l).length := by rw [pv_len]; exact hi
  have hx := h _ (List.getElem_mem hi)
  rw [List.getD_eq_getElem?_getD, List.getD_eq_getElem?_getD, List.getElem?_eq_getElem hl, List.getElem?_eq_getElem hi]
  simp only [Option.getD_some]
  simp only [pv, List.getElem_map, BitVec.toNat_ofNat]
  omega
theorem irowGet (L : List (BitVec 64)) (S : List AV) (i : Nat) (h : i < L.length) : (bvs .i64 L ++ S).getD i (.int .i64 0) = .int .i64 ((L.getD i 0).toNat : Int) := by
  have hb := bvs_getD (k := .i64) (l := L) (n := i)
  rw [List.getD_eq_getElem?_getD] at hb ⊢
  rw [List.getElem?_append_left (by rw [bvs_length]; exact h)]
  exact hb
def BelK (l : List Nat) (p : Nat) (m : Mem) (nx : Nat) : Kv := fun v m' nx' => ∃ r : Nat, r ≤ l.length ∧ (∀ j, j < r → l.getD j 0 < p) ∧ (∀ j, r ≤ j → j < l.length → p ≤ l.getD j 0) ∧ v = .int .i64 (r : Int) ∧ m' = m ∧ nx' = nx
theorem finB {wr : Nat → Bool} {m : Mem} {nx : Nat} (r : Rdm wr m nx) (l : List Nat) (p k : Nat) (h1 : k ≤ l.length) (h2 : ∀ j, j < k → l.getD j 0 < p) (h3 : ∀ j, k ≤ j → j < l.length → p ≤ l.getD j 0) : Fin nx wr m nx (BelK l p m nx) (.int .i64 (k : Int)) := Fin.keepW (m0 := m) (Nat.le_refl _) (memSame_slf r.nd) r.nd r.kp ⟨k, h1, h2, h3, rfl, rfl, rfl⟩
set_option maxHeartbeats 1000000 in
theorem belowOk {wr : Nat → Bool} {m : Mem} {nx n cap : Nat} {s : List Value} (r : Rdm wr m nx) (l : List Nat) (hn : Eng.look m n = some (.cells (bvs .i64 (pv l) ++ s.map AV.val) 3)) (hlt : n < nx) (hx : ∀ x ∈ l, x < 1000000) (hl : l.length ≤ 1000000)
    (hrise : ∀ i j, i < j → j < l.length → l.getD i 0 < l.getD j 0) (p : Nat) (F : AV) (hp : p ≤ 1000000) :
    CallG false Try.prog 69 [F, .sl n 0 l.length cap, .int .i64 p] wr m nx (BelK l p m nx) := by
  refine fn_okG Try.func69 rfl (by show 3 ≤ _; decide) ?_
  simp (config := { maxSteps := 1000000, implicitDefEqProofs := false }) only [-List.reduceReplicate, Nat.reduceBEq, renA, renL, renM, renO, evx, evs, evp, Eng.look, cst, cst1, putd, dstOk, params, loadx, partx, loI, hiI, bltx, mmI, boxx, srcx, calx, nilx, upd, del, resv, fillA, setMany, Nat.reduceLT, Nat.reduceLeDiff, Nat.reduceEqDiff, Nat.reduceAdd, Nat.reduceMul, Nat.reduceSub, reduceIte, reduceCtorEq, if_true, if_false, ite_true, ite_false, eq_self, forall_const, implies_true, Int.reduceLT, Int.reduceLE, Int.reduceToNat, Int.reduceAdd, Int.reduceSub, Int.reduceNeg, ne_eq, Int.reduceEq, Int.reduceNe, Int.reduceBEq, Int.reduceBNe, beq_self_eq_true, bne_self_eq_false, BitVec.reduceBEq, BitVec.reduceBNe, BitVec.reduceOfInt, BitVec.reduceSetWidth, wrD, engS0, engS1, engS2, engS3, engS4, engS5, engS6, engS7, engS8, engS9, engU0, engT0, engT1, engT2, Fx.t3, Fx.t4, Fx.t91, Fx.t117, Try.results69, Try.ntmps69]
  refine LoopOk.upX (fun i (z : Nat × Nat) => z.1 ≤ z.2 ∧ z.2 ≤ l.length ∧ z.2 - z.1 ≤ l.length - i ∧ (∀ j, j < z.1 → l.getD j 0 < p) ∧ (∀ j, z.2 ≤ j → j < l.length → p ≤ l.getD j 0)) l.length (fun i z => ([(8, .int .i64 z.2), (7, .int .i64 z.1), (2, .int .i64 p), (1, .sl n 0 l.length cap)], m, nx)) (0, l.length) ⟨Nat.zero_le _, Nat.le_refl _, by omega, fun j hj => by omega, fun j h1 h2 => by omega⟩ ?_ ?_
  · exact r.le ⟨rfl, rfl, rfl, rfl, trivial⟩
  rintro i ⟨lo, hi⟩ ⟨hi0, q1, q2, q3, q4, q5⟩
  have q1 : lo ≤ hi := q1
  have q2 : hi ≤ l.length := q2
  have q3 : hi - lo ≤ l.length - i := q3
  rcases Nat.lt_or_ge lo hi with g | g
  · have g1 : decide ((lo : Int) < (hi : Int)) = true := decide_eq_true (by omega)
    have w1 : IntKind.i64.wrap ((lo : Int) + (hi : Int)) = ((lo + hi : Nat) : Int) := by rw [wrap_i64] <;> omega
    obtain ⟨k, hk⟩ : ∃ k, k = (lo + hi) / 2 := ⟨_, rfl⟩
    have w2 : IntKind.i64.wrap ((BitVec.ofNat 64 (lo + hi) >>> 1).toNat : Int) = (k : Int) := by
      have e : (BitVec.ofNat 64 (lo + hi) >>> 1).toNat = k := by
        rw [BitVec.toNat_ushiftRight, Nat.shiftRight_eq_div_pow, BitVec.toNat_ofNat, Nat.mod_eq_of_lt (by omega), hk]
      rw [e, wrap_i64] <;> omega
    have hkl : k < l.length := by omega
    have hg : ((pv l).getD k 0).toNat = l.getD k 0 := pv_get hx hkl
    have hrow := irowGet (pv l) (s.map AV.val) k (by rw [pv_len]; exact hkl)
    rw [hg] at hrow
    have mono : ∀ a b, a ≤ b → b < l.length → l.getD a 0 ≤ l.getD b 0 := fun a b h1 h2 => by
      rcases Nat.lt_or_ge a b with h | h
      · exact Nat.le_of_lt (hrise a b h h2)
      · rw [show a = b by omega]; exact Nat.le_refl _
    rcases Nat.lt_or_ge (l.getD k 0) p with c | c
    · have c1 : decide (((l.getD k 0 : Nat) : Int) < (p : Int)) = true := decide_eq_true (by omega)
      have w3 : IntKind.i64.wrap ((k : Int) + 1) = ((k + 1 : Nat) : Int) := by rw [wrap_i64] <;> omega
      simp (config := { maxSteps := 1000000, implicitDefEqProofs := false }) only [-List.reduceReplicate, Nat.reduceBEq, renA, renL, renM, renO, evx, evs, evp, Eng.look, cst, cst1, putd, dstOk, params, loadx, partx, loI, hiI, bltx, mmI, boxx, srcx, calx, nilx, upd, del, resv, fillA, setMany, Nat.reduceLT, Nat.reduceLeDiff, Nat.reduceEqDiff, Nat.reduceAdd, Nat.reduceMul, Nat.reduceSub, reduceIte, reduceCtorEq, if_true, if_false, ite_true, ite_false, eq_self, forall_const, implies_true, Int.reduceLT, Int.reduceLE, Int.reduceToNat, Int.reduceAdd, Int.reduceSub, Int.reduceNeg, ne_eq, Int.reduceEq, Int.reduceNe, Int.reduceBEq, Int.reduceBNe, beq_self_eq_true, bne_self_eq_false, BitVec.reduceBEq, BitVec.reduceBNe, BitVec.reduceOfInt, BitVec.reduceSetWidth, wrD, engS0, engS1, engS2, engS3, engS4, engS5, engS6, engS7, engS8, engS9, engU0, engT0, engT1, engT2, Fx.t3, Fx.t4, Fx.t91, Fx.t117, g1, w1, w2, hn, hrow, c1, w3, Int.toNat_natCast]
      refine ⟨by omega, by rw [pv_len]; omega, ?_⟩
      refine UpX_normal (by omega) (k + 1, hi) ⟨by show k + 1 ≤ hi; omega, q2, by show hi - (k + 1) ≤ l.length - (i + 1); omega, fun j hj => ?_, q5⟩ ?_
      · have hj : j < k + 1 := hj
        exact Nat.lt_of_le_of_lt (mono j k (by omega) hkl) c
      · exact r.le ⟨rfl, rfl, rfl, rfl, trivial⟩
    · have c1 : decide (((l.getD k 0 : Nat) : Int) < (p : Int)) = false := decide_eq_false (by omega)
      simp (config := { maxSteps := 1000000, implicitDefEqProofs := false }) only [-List.reduceReplicate, Nat.reduceBEq, renA, renL, renM, renO, evx, evs, evp, Eng.look, cst, cst1, putd, dstOk, params, loadx, partx, loI, hiI, bltx, mmI, boxx, srcx, calx, nilx, upd, del, resv, fillA, setMany, Nat.reduceLT, Nat.reduceLeDiff, Nat.reduceEqDiff, Nat.reduceAdd, Nat.reduceMul, Nat.reduceSub, reduceIte, reduceCtorEq, if_true, if_false, ite_true, ite_false, eq_self, forall_const, implies_true, Int.reduceLT, Int.reduceLE, Int.reduceToNat, Int.reduceAdd, Int.reduceSub, Int.reduceNeg, ne_eq, Int.reduceEq, Int.reduceNe, Int.reduceBEq, Int.reduceBNe, beq_self_eq_true, bne_self_eq_false, BitVec.reduceBEq, BitVec.reduceBNe, BitVec.reduceOfInt, BitVec.reduceSetWidth, wrD, engS0, engS1, engS2, engS3, engS4, engS5, engS6, engS7, engS8, engS9, engU0, engT0, engT1, engT2, Fx.t3, Fx.t4, Fx.t91, Fx.t117, g1, w1, w2, hn, hrow, c1, Int.toNat_natCast]
      refine ⟨by omega, by rw [pv_len]; omega, ?_⟩
      refine UpX_normal (by omega) (lo, k) ⟨by show lo ≤ k; omega, by show k ≤ l.length; omega, by show k - lo ≤ l.length - (i + 1); omega, q4, fun j hj hj2 => ?_⟩ ?_
      · have hj : k ≤ j := hj
        exact Nat.le_trans c (mono k j hj hj2)
      · exact r.le ⟨rfl, rfl, rfl, rfl, trivial⟩
  · have g1 : decide ((lo : Int) < (hi : Int)) = false := decide_eq_false (by omega)
    have : lo = hi := by omega
    subst this
    simp (config := { maxSteps := 1000000, implicitDefEqProofs := false }) only [-List.reduceReplicate, Nat.reduceBEq, renA, renL, renM, renO, evx, evs, evp, Eng.look, cst, cst1, putd, dstOk, params, loadx, partx, loI, hiI, bltx, mmI, boxx, srcx, calx, nilx, upd, del, resv, fillA, setMany, Nat.reduceLT, Nat.reduceLeDiff, Nat.reduceEqDiff, Nat.reduceAdd, Nat.reduceMul, Nat.reduceSub, reduceIte, reduceCtorEq, if_true, if_false, ite_true, ite_false, eq_self, forall_const, implies_true, Int.reduceLT, Int.reduceLE, Int.reduceToNat, Int.reduceAdd, Int.reduceSub, Int.reduceNeg, ne_eq, Int.reduceEq, Int.reduceNe, Int.reduceBEq, Int.reduceBNe, beq_self_eq_true, bne_self_eq_false, BitVec.reduceBEq, BitVec.reduceBNe, BitVec.reduceOfInt, BitVec.reduceSetWidth, wrD, engS0, engS1, engS2, engS3, engS4, engS5, engS6, engS7, engS8, engS9, engU0, engT0, engT1, engT2, Fx.t3, Fx.t4, Fx.t91, Fx.t117, g1]
    exact finB r l p lo q2 q4 q5
theorem belowNil {wr : Nat → Bool} {m : Mem} {nx : Nat} (r : Rdm wr m nx) (p : Int) (F : AV) :
    CallG false Try.prog 69 [F, .nils, .int .i64 p] wr m nx (Kr (.int .i64 0) m nx) := by
  refine fn_okG Try.func69 rfl (by show 3 ≤ _; decide) ?_
  simp (config := { maxSteps := 1000000, implicitDefEqProofs := false }) only [-List.reduceReplicate, Nat.reduceBEq, renA, renL, renM, renO, evx, evs, evp, Eng.look, cst, cst1, putd, dstOk, params, loadx, partx, loI, hiI, bltx, mmI, boxx, srcx, calx, nilx, upd, del, resv, fillA, setMany, Nat.reduceLT, Nat.reduceLeDiff, Nat.reduceEqDiff, Nat.reduceAdd, Nat.reduceMul, Nat.reduceSub, reduceIte, reduceCtorEq, if_true, if_false, ite_true, ite_false, eq_self, forall_const, implies_true, Int.reduceLT, Int.reduceLE, Int.reduceToNat, Int.reduceAdd, Int.reduceSub, Int.reduceNeg, ne_eq, Int.reduceEq, Int.reduceNe, Int.reduceBEq, Int.reduceBNe, beq_self_eq_true, bne_self_eq_false, BitVec.reduceBEq, BitVec.reduceBNe, BitVec.reduceOfInt, BitVec.reduceSetWidth, wrD, engS0, engS1, engS2, engS3, engS4, engS5, engS6, engS7, engS8, engS9, engU0, engT0, engT1, engT2, Fx.t3, Fx.t4, Fx.t91, Fx.t117, Try.results69, Try.ntmps69]
  refine LoopOk.up 0 (fun i => ([(8, .int .i64 0), (7, .int .i64 0), (2, .int .i64 p), (1, .nils)], m, nx)) (r.le ⟨rfl, rfl, rfl, rfl, trivial⟩) ?_
  intro i hi
  simp (config := { maxSteps := 1000000, implicitDefEqProofs := false }) only [-List.reduceReplicate, Nat.reduceBEq, renA, renL, renM, renO, evx, evs, evp, Eng.look, cst, cst1, putd, dstOk, params, loadx, partx, loI, hiI, bltx, mmI, boxx, srcx, calx, nilx, upd, del, resv, fillA, setMany, Nat.reduceLT, Nat.reduceLeDiff, Nat.reduceEqDiff, Nat.reduceAdd, Nat.reduceMul, Nat.reduceSub, reduceIte, reduceCtorEq, if_true, if_false, ite_true, ite_false, eq_self, forall_const, implies_true, Int.reduceLT, Int.reduceLE, Int.reduceToNat, Int.reduceAdd, Int.reduceSub, Int.reduceNeg, ne_eq, Int.reduceEq, Int.reduceNe, Int.reduceBEq, Int.reduceBNe, beq_self_eq_true, bne_self_eq_false, BitVec.reduceBEq, BitVec.reduceBNe, BitVec.reduceOfInt, BitVec.reduceSetWidth, wrD, engS0, engS1, engS2, engS3, engS4, engS5, engS6, engS7, engS8, engS9, engU0, engT0, engT1, engT2, Fx.t3, Fx.t4, Fx.t91, Fx.t117, Int.lt_irrefl]
  exact r.fin _

/-- how far back the last place that was looked at lies -/
def dst (l : List Nat) (p r : Nat) : Nat → Nat
  | 0 => 0
  | t + 1 => p - l.getD (r - (t + 1)) 0
section
variable {d : List (BitVec 8)} {x y : BitVec 8} {l : List Nat} {p r m : Nat} (hl : l = posN d x y (d.length - 1)) (hx : d.getD p 0 = x) (hy : d.getD (p + 1) 0 = y) (hp : p + 1 < d.length) (hm : 2 ≤ m) (hr : r ≤ l.length) (h1 : ∀ j, j < r → l.getD j 0 < p) (h2 : ∀ j, r ≤ j → j < l.length → p ≤ l.getD j 0)
include hl hx hy hp hm hr h1 h2
theorem no_match (t : Nat) (ht : t ≤ r) (j : Nat) (hj : dst l p r t < j) (hjp : j ≤ p) (hn : t < r → j < dst l p r (t + 1)) : lkn d p (p - j) m < 2 := by
  rcases Nat.lt_or_ge (lkn d p (p - j) m) 2 with h | h
  · exact h
  exfalso
  obtain ⟨e1, e2⟩ := (lkn_two d m p (p - j) hm).1 h
  have hmem : p - j ∈ l := by
    rw [hl, posN_mem]
    exact ⟨by omega, by rw [← e1, hx], by rw [← e2, hy]⟩
  obtain ⟨k, hk, ek⟩ := List.getElem_of_mem hmem
  have ekd : l.getD k 0 = p - j := by rw [List.getD_eq_getElem?_getD, List.getElem?_eq_getElem hk, ek]; rfl
  have hj0 : 0 < j := by omega
  have hkr : k < r := by
    rcases Nat.lt_or_ge k r with g | g
    · exact g
    · have := h2 k g hk
      omega
  have rise : ∀ a b, a < b → b < l.length → l.getD a 0 < l.getD b 0 := fun a b hab hb => by
    rw [hl] at hb ⊢
    exact posN_lt d x y _ hab hb
  have lt_of : ∀ b, b < l.length → l.getD k 0 < l.getD b 0 → k < b := fun b hb hlt => by
    rcases Nat.lt_trichotomy k b with g | g | g
    · exact g
    · subst g; omega
    · have := rise b k g hk; omega
  have gt_of : ∀ b, b < l.length → l.getD b 0 < l.getD k 0 → b < k := fun b hb hlt => by
    rcases Nat.lt_trichotomy k b with g | g | g
    · have := rise k b g hb; omega
    · subst g; omega
    · exact g
  have hlow : t < r → r - (t + 1) < k := fun g => by
    have := hn g
    rw [dst] at this
    have hb : r - (t + 1) < l.length := by omega
    have := h1 (r - (t + 1)) (by omega)
    exact gt_of _ hb (by omega)
  cases t with
  | zero =>
    have := hlow (by omega)
    omega
  | succ t =>
    rw [dst] at hj
    have hb : r - (t + 1) < l.length := by omega
    have h3 := h1 (r - (t + 1)) (by omega)
    have := lt_of _ hb (by omega)
    rcases Nat.lt_or_ge (t + 1) r with g | g
    · have := hlow g; omega
    · omega
theorem dst_lt (t : Nat) (ht : t < r) : dst l p r t < dst l p r (t + 1) ∧ dst l p r (t + 1) ≤ p ∧ p - dst l p r (t + 1) = l.getD (r - (t + 1)) 0 ∧ 2 ≤ lkn d p (p - dst l p r (t + 1)) m := by
  have h3 := h1 (r - (t + 1)) (by omega)
  have _ := hp
  have _ := h2
  have hb : r - (t + 1) < l.length := by omega
  have e : p - dst l p r (t + 1) = l.getD (r - (t + 1)) 0 := by rw [dst]; omega
  refine ⟨?_, by rw [dst]; omega, e, ?_⟩
  · cases t with
    | zero => rw [dst, dst]; omega
    | succ t =>
      rw [dst, dst]
      have h4 := h1 (r - (t + 1)) (by omega)
      have hb2 : r - (t + 1) < l.length := by omega
      have : l.getD (r - (t + 1 + 1)) 0 < l.getD (r - (t + 1)) 0 := by
        rw [hl] at hb2 ⊢
        exact posN_lt d x y _ (by omega) hb2
      omega
  · rw [e, lkn_two d m p _ hm]
    have hmem : l.getD (r - (t + 1)) 0 ∈ l := by
      rw [List.getD_eq_getElem?_getD, List.getElem?_eq_getElem hb]
      exact List.getElem_mem hb
    generalize l.getD (r - (t + 1)) 0 = q at hmem
    rw [hl, posN_mem] at hmem
    exact ⟨by rw [hx, hmem.2.1], by rw [hy, hmem.2.2]⟩
theorem best_step (t : Nat) (ht : t < r) : bestR d p m (dst l p r (t + 1)) = if (bestR d p m (dst l p r t)).1 < lkn d p (l.getD (r - (t + 1)) 0) m then (lkn d p (l.getD (r - (t + 1)) 0) m, dst l p r (t + 1)) else bestR d p m (dst l p r t) := by
  obtain ⟨a1, a2, a3, a4⟩ := dst_lt hl hx hy hp hm hr h1 h2 t ht
  obtain ⟨D, hD⟩ : ∃ D, dst l p r (t + 1) = D + 1 := ⟨dst l p r (t + 1) - 1, by omega⟩
  rw [← a3, hD]
  rw [hD] at a4
  rw [bestR_hit d p m D a4, bestR_skip' d p m (dst l p r t) D (by omega) (fun j g1 g2 => no_match hl hx hy hp hm hr h1 h2 t (by omega) j g1 (by omega) (fun _ => by omega))]
theorem best_end (t D : Nat) (ht : t ≤ r) (hD : dst l p r t ≤ D) (hDp : D ≤ p) (hn : t < r → D < dst l p r (t + 1)) : bestR d p m D = bestR d p m (dst l p r t) :=
  bestR_skip' d p m _ D hD fun j g1 g2 => no_match hl hx hy hp hm hr h1 h2 t ht j g1 (by omega) (fun g => by have := hn g; omega)
end
end Go.Proofs.Ytmnbbpckglppjaa
