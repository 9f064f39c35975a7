/- Parsing: the symbol at a place. -/
import Derived.Test.YtmnbbpckglppjaaEng19
import Derived.Test.YtmnbbpckglppjaaEng26
import Derived.Test.YtmnbbpckglppjaaPra
set_option linter.unusedVariables false
set_option linter.unusedSimpArgs false
set_option maxRecDepth 100000
namespace Go.Eng
open Go
theorem upd_self : ∀ {m : Mem} {n : Nat} {o : AObj}, look m n = some o → upd m n o = m
  | [], n, o, h => by cases h
  | (k, x) :: r, n, o, h => by
    rw [look_cons] at h
    simp only [upd]
    by_cases e : k = n
    · rw [if_pos e] at h; cases h; rw [if_pos e]
    · rw [if_neg e] at h; rw [if_neg e, upd_self h]
theorem Rdm.cons {wr : Nat → Bool} {m : Mem} {nx : Nat} (r : Rdm wr m nx) (h : ∀ p ∈ m, p.1 < nx) (o : AObj) : Rdm wr ((nx, o) :: m) (nx + 1) :=
  ⟨by
    rw [List.map_cons, List.nodup_cons]
    refine ⟨fun hm => ?_, r.nd⟩
    obtain ⟨p, hp, e⟩ := List.mem_map.1 hm
    have := h p hp
    have e : p.1 = nx := e
    omega, fun n hn => by
    obtain ⟨o', ho'⟩ := r.kp n hn
    by_cases e : nx = n
    · exact ⟨o, by rw [look_cons, if_pos e]⟩
    · exact ⟨o', by rw [look_cons, if_neg e]; exact ho'⟩, fun n hn => r.wn n (by omega)⟩
theorem Rdm.drawn {wr : Nat → Bool} {m : Mem} {nx : Nat} (r : Rdm wr m nx) (mods : List Nat) : Rdm (wrD m nx mods) m nx := by
  refine ⟨r.nd, fun n hn => ?_, fun n hn => by simp [wrD, hn]⟩
  simp only [wrD, Bool.or_eq_false_iff] at hn
  cases h : look m n with
  | none => rw [h] at hn; cases hn.2
  | some o => exact ⟨o, rfl⟩
theorem cons_lt {m : Mem} {nx : Nat} (h : ∀ p ∈ m, p.1 < nx) (o : AObj) : ∀ p ∈ (nx, o) :: m, p.1 < nx + 1 := fun p hp => by
  rcases List.mem_cons.1 hp with rfl | hp
  · exact Nat.lt_succ_self _
  · have := h p hp; omega
theorem look_none {m : Mem} {nx : Nat} (h : ∀ p ∈ m, p.1 < nx) {k : Nat} (hk : nx ≤ k) : look m k = none := by
  cases e : look m k with
  | none => rfl
  | some o =>
    obtain ⟨p, hp, rfl⟩ := look_lt e
    have := h p hp
    omega
end Go.Eng
namespace Go.Proofs.Ytmnbbpckglppjaa
open Go Go.Eng

theorem FinderM.ext {m m' : Mem} {nx nx' a : Nat} {d : List (BitVec 8)} {dict nice : Int} (h : FinderM m nx a d dict nice) (hx : nx ≤ nx') (hl : ∀ k o, k < nx → Eng.look m k = some o → Eng.look m' k = some o) : FinderM m' nx' a d dict nice := by
  obtain ⟨b, c, cap, sp, keys, vals, born, F, hc⟩ := h
  refine ⟨b, c, cap, sp, keys, vals, born, ⟨hl _ _ F.an F.o, hl _ _ F.bn F.r, hl _ _ F.cn F.p, by have := F.an; omega, by have := F.bn; omega, by have := F.cn; omega, F.cl, fun x y => ?_⟩, hc⟩
  have hq := F.q x y
  cases hv : xget (.b x y) keys vals with
  | none => rw [hv] at hq; exact hq
  | some v =>
    rw [hv] at hq
    obtain ⟨n, cp, s, rfl, hn, c1, c2, c3⟩ := hq
    exact ⟨n, cp, s, rfl, hl _ _ c3 hn, c1, c2, by omega⟩
structure Sym where
  kind : Int
  byte : BitVec 8
  len : Int
  dist : Int
  rep : Int
def symC (s : Sym) : List AV := [.int .i64 s.kind, .int .u8 (s.byte.toNat : Int), .int .i64 s.len, .int .i64 s.dist, .int .i64 s.rep]
def nextF (d : List (BitVec 8)) (dict nice : Int) (p : Nat) (left : Int) (r : R4) : Sym × R4 :=
  if 2 ≤ (repN d dict p left r 4).2 ∧ ((BestP d dict nice p left).1 : Int) ≤ (repN d dict p left r 4).2 + 1 then
    (⟨2, 0, (repN d dict p left r 4).2, 0, ((repN d dict p left r 4).1 : Nat)⟩, r.front (r.get (repN d dict p left r 4).1) (repN d dict p left r 4).1)
  else if 2 < (BestP d dict nice p left).1 ∨ (BestP d dict nice p left).1 = 2 ∧ (BestP d dict nice p left).2 ≤ 128 then
    (⟨1, 0, ((BestP d dict nice p left).1 : Nat), ((BestP d dict nice p left).2 : Nat), 0⟩, r.front ((BestP d dict nice p left).2 : Nat) 3)
  else if 0 < LikeV d dict p r.a left then (⟨2, 0, 1, 0, 0⟩, r) else (⟨0, d.getD p 0, 0, 0, 0⟩, r)
theorem repN_lt (d : List (BitVec 8)) (dict p left : Int) (r : R4) : ∀ i, (repN d dict p left r i).1 < max i 1
  | 0 => by show 0 < _; omega
  | i + 1 => by
    have := repN_lt d dict p left r i
    rw [repN]
    split
    · show i < _; omega
    · omega
theorem LikeV_le (d : List (BitVec 8)) (dict p e M : Int) : LikeV d dict p e M ≤ 273 ∧ 0 ≤ LikeV d dict p e M := by
  rw [LikeV]
  split
  · omega
  · have := lkn_le d (min (min M 273) ((d.length - p.toNat : Nat) : Int)).toNat p.toNat (p.toNat - e.toNat)
    omega
theorem repN_le (d : List (BitVec 8)) (dict p left : Int) (r : R4) : ∀ i, (repN d dict p left r i).2 ≤ 273 ∧ 0 ≤ (repN d dict p left r i).2
  | 0 => by show (0 : Int) ≤ 273 ∧ (0 : Int) ≤ 0; omega
  | i + 1 => by
    have h1 := repN_le d dict p left r i
    have h2 := LikeV_le d dict p (r.get i) left
    rw [repN]
    split
    · exact h2
    · exact h1
set_option maxHeartbeats 2000000 in
theorem nextOk {wr : Nat → Bool} {m : Mem} {nx a f : Nat} {d : List (BitVec 8)} {dict nice : Int} {r : R4} (R : Rdm wr m nx) (hlt : ∀ p ∈ m, p.1 < nx) (ha : Eng.look m a = some (stO f r)) (hw : wr a = true) (han : a < nx) (F : FinderM m nx f d dict nice) (hd : 1 ≤ dict)
    (p : Nat) (left : Int) (hp : p < d.length) (hl : d.length ≤ 1000000) :
    CallG false Try.prog 83 [.ptr a 0, .ro d.length (bvs .u8 d), .int .i64 p, .int .i64 left] wr m nx (Ku (.agg (symC (nextF d dict nice p left r).1)) (Eng.upd m a (stO f (nextF d dict nice p left r).2)) nx) := by
  refine fn_okG Try.func83 rfl (by show 4 ≤ _; decide) ?_
  have e1 : (nx = a) = False := eq_false (by omega)
  have e2 : (nx + 1 = a) = False := eq_false (by omega)
  have e3 : (nx + 1 = nx) = False := eq_false (by omega)
  have e4 : (nx = nx + 1) = False := eq_false (by omega)
  simp (config := { maxSteps := 1000000, implicitDefEqProofs := false }) only [-List.reduceReplicate, Nat.reduceBEq, renA, renL, renM, renO, evx, evs, evp, Eng.look, cst, cst1, putd, dstOk, params, loadx, partx, loI, hiI, bltx, mmI, boxx, srcx, calx, nilx, upd, del, resv, fillA, setMany, Nat.reduceLT, Nat.reduceLeDiff, Nat.reduceEqDiff, Nat.reduceAdd, Nat.reduceMul, Nat.reduceSub, reduceIte, reduceCtorEq, if_true, if_false, ite_true, ite_false, eq_self, forall_const, implies_true, Int.reduceLT, Int.reduceLE, Int.reduceToNat, Int.reduceAdd, Int.reduceSub, Int.reduceNeg, ne_eq, Int.reduceEq, Int.reduceNe, Int.reduceBEq, Int.reduceBNe, beq_self_eq_true, bne_self_eq_false, BitVec.reduceBEq, BitVec.reduceBNe, BitVec.reduceOfInt, BitVec.reduceSetWidth, wrD, engS0, engS1, engS2, engS3, engS4, engS5, engS6, engS7, engS8, engS9, engU0, engT0, engT1, engT2, Fx.t1, Fx.t3, Fx.t4, Fx.t5, Fx.t23, Fx.t35, Fx.t76, Fx.t82, Fx.t83, Fx.t91, Fx.t109, Fx.t110, Fx.t111, Fx.t112, Fx.t113, Fx.t128, Fx.t129, Fx.t130, Fx.t146, Fx.en21, Fx.en23, Fx.en92, Try.results83, Try.ntmps83, e3]
  have R2 := (R.cons hlt (.cells [.ptr a 0] 128)).cons (cons_lt hlt _) (.cells [.int .i64 0, .int .u8 0, .int .i64 0, .int .i64 0, .int .i64 0] 83)
  refine (repeatOk R2 (a := a) (f := f) (r := r) (by rw [look_cons, look_cons, if_neg (by omega), if_neg (by omega)]; exact ha) (F.ext (by omega) fun k o hk h => by rw [look_cons, look_cons, if_neg (by omega), if_neg (by omega)]; exact h) p left hl).weak ?_
  rintro v m2 nx2 ⟨rfl, rfl, rfl⟩
  have F2 := F.ext (m' := (nx + 1, AObj.cells [.int .i64 0, .int .u8 0, .int .i64 0, .int .i64 0, .int .i64 0] 83) :: (nx, AObj.cells [.ptr a 0] 128) :: m) (nx' := nx + 1 + 1) (by omega) fun k o hk h => by rw [look_cons, look_cons, if_neg (by omega), if_neg (by omega)]; exact h
  obtain ⟨b, c, cap, sp, keys, vals, born, F2, hc⟩ := F2
  simp (config := { maxSteps := 1000000, implicitDefEqProofs := false }) only [-List.reduceReplicate, Nat.reduceBEq, renA, renL, renM, renO, evx, evs, evp, Eng.look, cst, cst1, putd, dstOk, params, loadx, partx, loI, hiI, bltx, mmI, boxx, srcx, calx, nilx, upd, del, resv, fillA, setMany, Nat.reduceLT, Nat.reduceLeDiff, Nat.reduceEqDiff, Nat.reduceAdd, Nat.reduceMul, Nat.reduceSub, reduceIte, reduceCtorEq, if_true, if_false, ite_true, ite_false, eq_self, forall_const, implies_true, Int.reduceLT, Int.reduceLE, Int.reduceToNat, Int.reduceAdd, Int.reduceSub, Int.reduceNeg, ne_eq, Int.reduceEq, Int.reduceNe, Int.reduceBEq, Int.reduceBNe, beq_self_eq_true, bne_self_eq_false, BitVec.reduceBEq, BitVec.reduceBNe, BitVec.reduceOfInt, BitVec.reduceSetWidth, wrD, engS0, engS1, engS2, engS3, engS4, engS5, engS6, engS7, engS8, engS9, engU0, engT0, engT1, engT2, Fx.t1, Fx.t3, Fx.t4, Fx.t5, Fx.t23, Fx.t35, Fx.t76, Fx.t82, Fx.t83, Fx.t91, Fx.t109, Fx.t110, Fx.t111, Fx.t112, Fx.t113, Fx.t128, Fx.t129, Fx.t130, Fx.t146, Fx.en21, Fx.en23, Fx.en92, e1, e2, e3, e4, ha, stO]
  refine (bestOk R2 F2 p left hl hd hc).weak ?_
  rintro v m2 nx2 ⟨rfl, rfl, rfl⟩
  have z1 := repN_lt d dict p left r 4
  have z2 := repN_le d dict p left r 4
  have hN : nextF d dict nice p left r = nextF d dict nice p left r := rfl
  conv at hN => rhs; unfold nextF
  rw [hN]
  rw [BestV]
  generalize repN d dict p left r 4 = z at z1 z2
  generalize BestP d dict nice p left = B
  obtain ⟨w, n⟩ := z
  obtain ⟨l, e⟩ := B
  have z1 : w < 4 := by have h1 : w < max 4 1 := z1; omega
  have z2 : n ≤ 273 ∧ 0 ≤ n := z2
  have w1 : IntKind.i64.wrap (n + 1) = n + 1 := by rw [wrap_i64] <;> omega
  have cons2 : ∀ (M : Mem) (o1 o2 : AObj), (∀ p ∈ M, p.1 < nx) → (M.map fun p => p.1).Nodup → ∀ p ∈ M, Eng.look ((nx + 1, o1) :: (nx, o2) :: M) p.1 = some p.2 := fun M o1 o2 h1 h2 p hp => by
    have := h1 p hp
    rw [look_cons, look_cons, if_neg (by omega), if_neg (by omega)]
    exact look_mem h2 hp
  have done : ∀ (X : AObj) (o1 o2 : AObj) (V : AV), Eng.Fin nx wr ((nx + 1, o1) :: (nx, o2) :: Eng.upd m a X) (nx + 1 + 1) (Ku V (Eng.upd m a X) nx) V := fun X o1 o2 V => (R.upd a X).finU (by omega) (cons2 _ o1 o2 (upd_lt hlt a X) (R.upd a X).nd) V
  have done0 : ∀ (o1 o2 : AObj) (V : AV), Eng.Fin nx wr ((nx + 1, o1) :: (nx, o2) :: m) (nx + 1 + 1) (Ku V (Eng.upd m a (stO f r)) nx) V := fun o1 o2 V => by
    rw [upd_self ha]
    exact R.finU (by omega) (cons2 _ o1 o2 hlt R.nd) V
  have hu1 : ∀ X, Eng.look (Eng.upd m a X) a = some X := fun X => look_upd_same X ha
  have f1 : decide (nx + 1 + 1 ≤ a) = false := decide_eq_false (by omega)
  have f2 : decide (nx + 1 + 1 ≤ nx) = false := decide_eq_false (by omega)
  have f3 : decide (nx + 1 + 1 ≤ nx + 1) = false := decide_eq_false (by omega)
  have RW := R2.drawn []
  have en := Fx.en93
  have gw : ∀ k, k < 4 → [AV.ptr f 0, AV.int .i64 r.a, AV.int .i64 r.b, AV.int .i64 r.c, AV.int .i64 r.d].getD (1 + k) (.int .i64 0) = .int .i64 (r.get k) := fun k hk => by
    rcases (show k = 0 ∨ k = 1 ∨ k = 2 ∨ k = 3 by omega) with rfl | rfl | rfl | rfl <;> rfl
  have la : Eng.look ((nx + 1, AObj.cells [.int .i64 0, .int .u8 0, .int .i64 0, .int .i64 0, .int .i64 0] 83) :: (nx, AObj.cells [.ptr a 0] 128) :: m) a = some (stO f r) := by rw [look_cons, look_cons, if_neg (by omega), if_neg (by omega)]; exact ha
  have lb : Eng.look ((nx + 1, AObj.cells [.int .i64 0, .int .u8 0, .int .i64 0, .int .i64 0, .int .i64 0] 83) :: (nx, AObj.cells [.ptr a 0] 128) :: m) nx = some (.cells [.ptr a 0] 128) := by rw [look_cons, look_cons, if_neg (by omega), if_pos rfl]
  by_cases c1 : 2 ≤ n ∧ (l : Int) ≤ n + 1
  · have k1 : decide (n ≥ 2) = true := decide_eq_true c1.1
    have k2 : decide (n + 1 ≥ (l : Int)) = true := decide_eq_true c1.2
    rw [if_pos c1]
    simp (config := { maxSteps := 1000000, implicitDefEqProofs := false }) only [-List.reduceReplicate, Nat.reduceBEq, renA, renL, renM, renO, evx, evs, evp, Eng.look, cst, cst1, putd, dstOk, params, loadx, partx, loI, hiI, bltx, mmI, boxx, srcx, calx, nilx, upd, del, resv, fillA, setMany, Nat.reduceLT, Nat.reduceLeDiff, Nat.reduceEqDiff, Nat.reduceAdd, Nat.reduceMul, Nat.reduceSub, reduceIte, reduceCtorEq, if_true, if_false, ite_true, ite_false, eq_self, forall_const, implies_true, Int.reduceLT, Int.reduceLE, Int.reduceToNat, Int.reduceAdd, Int.reduceSub, Int.reduceNeg, ne_eq, Int.reduceEq, Int.reduceNe, Int.reduceBEq, Int.reduceBNe, beq_self_eq_true, bne_self_eq_false, BitVec.reduceBEq, BitVec.reduceBNe, BitVec.reduceOfInt, BitVec.reduceSetWidth, wrD, engS0, engS1, engS2, engS3, engS4, engS5, engS6, engS7, engS8, engS9, engU0, engT0, engT1, engT2, Fx.t1, Fx.t3, Fx.t4, Fx.t5, Fx.t23, Fx.t35, Fx.t76, Fx.t82, Fx.t83, Fx.t91, Fx.t109, Fx.t110, Fx.t111, Fx.t112, Fx.t113, Fx.t128, Fx.t129, Fx.t130, Fx.t146, Fx.en21, Fx.en23, Fx.en92, k1, k2, w1, e1, e2, e3, e4, ha, stO, gw w z1, en]
    refine ⟨by omega, by omega, ?_⟩
    refine (frontOk R2 la lb (by omega) hw (by omega) (by omega) w z1 (r.get w)).weak ?_
    rintro v m3 nx3 ⟨rfl, rfl, rfl⟩
    simp (config := { maxSteps := 1000000, implicitDefEqProofs := false }) only [-List.reduceReplicate, Nat.reduceBEq, renA, renL, renM, renO, evx, evs, evp, Eng.look, cst, cst1, putd, dstOk, params, loadx, partx, loI, hiI, bltx, mmI, boxx, srcx, calx, nilx, upd, del, resv, fillA, setMany, Nat.reduceLT, Nat.reduceLeDiff, Nat.reduceEqDiff, Nat.reduceAdd, Nat.reduceMul, Nat.reduceSub, reduceIte, reduceCtorEq, if_true, if_false, ite_true, ite_false, eq_self, forall_const, implies_true, Int.reduceLT, Int.reduceLE, Int.reduceToNat, Int.reduceAdd, Int.reduceSub, Int.reduceNeg, ne_eq, Int.reduceEq, Int.reduceNe, Int.reduceBEq, Int.reduceBNe, beq_self_eq_true, bne_self_eq_false, BitVec.reduceBEq, BitVec.reduceBNe, BitVec.reduceOfInt, BitVec.reduceSetWidth, wrD, engS0, engS1, engS2, engS3, engS4, engS5, engS6, engS7, engS8, engS9, engU0, engT0, engT1, engT2, Fx.t1, Fx.t3, Fx.t4, Fx.t5, Fx.t23, Fx.t35, Fx.t76, Fx.t82, Fx.t83, Fx.t91, Fx.t109, Fx.t110, Fx.t111, Fx.t112, Fx.t113, Fx.t128, Fx.t129, Fx.t130, Fx.t146, Fx.en21, Fx.en23, Fx.en92, e1, e2, e3, e4]
    refine ⟨R.wn _ (by omega), Nat.le_of_ble_eq_true rfl, ?_⟩
    exact done _ _ _ _
  · rw [if_neg c1]
    have q : (decide (n ≥ 2) = true ∧ decide (n + 1 ≥ (l : Int)) = false) ∨ decide (n ≥ 2) = false := by
      simp only [decide_eq_true_eq, decide_eq_false_iff_not]; omega
    by_cases c2 : 2 < l ∨ l = 2 ∧ e ≤ 128
    · rw [if_pos c2]
      have q2 : decide ((l : Int) > 2) = true ∨ (decide ((l : Int) > 2) = false ∧ ((l : Int) == 2) = true ∧ decide ((e : Int) ≤ 128) = true) := by
        simp only [decide_eq_true_eq, decide_eq_false_iff_not, beq_iff_eq]; omega
      rcases q with ⟨k1, k2⟩ | k1
      · rcases q2 with k3 | ⟨k3, k4, k5⟩
        · simp (config := { maxSteps := 1000000, implicitDefEqProofs := false }) only [-List.reduceReplicate, Nat.reduceBEq, renA, renL, renM, renO, evx, evs, evp, Eng.look, cst, cst1, putd, dstOk, params, loadx, partx, loI, hiI, bltx, mmI, boxx, srcx, calx, nilx, upd, del, resv, fillA, setMany, Nat.reduceLT, Nat.reduceLeDiff, Nat.reduceEqDiff, Nat.reduceAdd, Nat.reduceMul, Nat.reduceSub, reduceIte, reduceCtorEq, if_true, if_false, ite_true, ite_false, eq_self, forall_const, implies_true, Int.reduceLT, Int.reduceLE, Int.reduceToNat, Int.reduceAdd, Int.reduceSub, Int.reduceNeg, ne_eq, Int.reduceEq, Int.reduceNe, Int.reduceBEq, Int.reduceBNe, beq_self_eq_true, bne_self_eq_false, BitVec.reduceBEq, BitVec.reduceBNe, BitVec.reduceOfInt, BitVec.reduceSetWidth, wrD, engS0, engS1, engS2, engS3, engS4, engS5, engS6, engS7, engS8, engS9, engU0, engT0, engT1, engT2, Fx.t1, Fx.t3, Fx.t4, Fx.t5, Fx.t23, Fx.t35, Fx.t76, Fx.t82, Fx.t83, Fx.t91, Fx.t109, Fx.t110, Fx.t111, Fx.t112, Fx.t113, Fx.t128, Fx.t129, Fx.t130, Fx.t146, Fx.en21, Fx.en23, Fx.en92, k1, k2, k3, w1, e1, e2, e3, e4, ha, stO, en]
          refine (frontOk R2 la lb (by omega) hw (by omega) (by omega) 3 (by decide) (e : Int)).weak ?_
          rintro v m3 nx3 ⟨rfl, rfl, rfl⟩
          simp (config := { maxSteps := 1000000, implicitDefEqProofs := false }) only [-List.reduceReplicate, Nat.reduceBEq, renA, renL, renM, renO, evx, evs, evp, Eng.look, cst, cst1, putd, dstOk, params, loadx, partx, loI, hiI, bltx, mmI, boxx, srcx, calx, nilx, upd, del, resv, fillA, setMany, Nat.reduceLT, Nat.reduceLeDiff, Nat.reduceEqDiff, Nat.reduceAdd, Nat.reduceMul, Nat.reduceSub, reduceIte, reduceCtorEq, if_true, if_false, ite_true, ite_false, eq_self, forall_const, implies_true, Int.reduceLT, Int.reduceLE, Int.reduceToNat, Int.reduceAdd, Int.reduceSub, Int.reduceNeg, ne_eq, Int.reduceEq, Int.reduceNe, Int.reduceBEq, Int.reduceBNe, beq_self_eq_true, bne_self_eq_false, BitVec.reduceBEq, BitVec.reduceBNe, BitVec.reduceOfInt, BitVec.reduceSetWidth, wrD, engS0, engS1, engS2, engS3, engS4, engS5, engS6, engS7, engS8, engS9, engU0, engT0, engT1, engT2, Fx.t1, Fx.t3, Fx.t4, Fx.t5, Fx.t23, Fx.t35, Fx.t76, Fx.t82, Fx.t83, Fx.t91, Fx.t109, Fx.t110, Fx.t111, Fx.t112, Fx.t113, Fx.t128, Fx.t129, Fx.t130, Fx.t146, Fx.en21, Fx.en23, Fx.en92, e1, e2, e3, e4]
          refine ⟨R.wn _ (by omega), Nat.le_of_ble_eq_true rfl, ?_⟩
          exact done _ _ _ _
        · simp (config := { maxSteps := 1000000, implicitDefEqProofs := false }) only [-List.reduceReplicate, Nat.reduceBEq, renA, renL, renM, renO, evx, evs, evp, Eng.look, cst, cst1, putd, dstOk, params, loadx, partx, loI, hiI, bltx, mmI, boxx, srcx, calx, nilx, upd, del, resv, fillA, setMany, Nat.reduceLT, Nat.reduceLeDiff, Nat.reduceEqDiff, Nat.reduceAdd, Nat.reduceMul, Nat.reduceSub, reduceIte, reduceCtorEq, if_true, if_false, ite_true, ite_false, eq_self, forall_const, implies_true, Int.reduceLT, Int.reduceLE, Int.reduceToNat, Int.reduceAdd, Int.reduceSub, Int.reduceNeg, ne_eq, Int.reduceEq, Int.reduceNe, Int.reduceBEq, Int.reduceBNe, beq_self_eq_true, bne_self_eq_false, BitVec.reduceBEq, BitVec.reduceBNe, BitVec.reduceOfInt, BitVec.reduceSetWidth, wrD, engS0, engS1, engS2, engS3, engS4, engS5, engS6, engS7, engS8, engS9, engU0, engT0, engT1, engT2, Fx.t1, Fx.t3, Fx.t4, Fx.t5, Fx.t23, Fx.t35, Fx.t76, Fx.t82, Fx.t83, Fx.t91, Fx.t109, Fx.t110, Fx.t111, Fx.t112, Fx.t113, Fx.t128, Fx.t129, Fx.t130, Fx.t146, Fx.en21, Fx.en23, Fx.en92, k1, k2, k3, k4, k5, w1, e1, e2, e3, e4, ha, stO, en]
          refine (frontOk R2 la lb (by omega) hw (by omega) (by omega) 3 (by decide) (e : Int)).weak ?_
          rintro v m3 nx3 ⟨rfl, rfl, rfl⟩
          simp (config := { maxSteps := 1000000, implicitDefEqProofs := false }) only [-List.reduceReplicate, Nat.reduceBEq, renA, renL, renM, renO, evx, evs, evp, Eng.look, cst, cst1, putd, dstOk, params, loadx, partx, loI, hiI, bltx, mmI, boxx, srcx, calx, nilx, upd, del, resv, fillA, setMany, Nat.reduceLT, Nat.reduceLeDiff, Nat.reduceEqDiff, Nat.reduceAdd, Nat.reduceMul, Nat.reduceSub, reduceIte, reduceCtorEq, if_true, if_false, ite_true, ite_false, eq_self, forall_const, implies_true, Int.reduceLT, Int.reduceLE, Int.reduceToNat, Int.reduceAdd, Int.reduceSub, Int.reduceNeg, ne_eq, Int.reduceEq, Int.reduceNe, Int.reduceBEq, Int.reduceBNe, beq_self_eq_true, bne_self_eq_false, BitVec.reduceBEq, BitVec.reduceBNe, BitVec.reduceOfInt, BitVec.reduceSetWidth, wrD, engS0, engS1, engS2, engS3, engS4, engS5, engS6, engS7, engS8, engS9, engU0, engT0, engT1, engT2, Fx.t1, Fx.t3, Fx.t4, Fx.t5, Fx.t23, Fx.t35, Fx.t76, Fx.t82, Fx.t83, Fx.t91, Fx.t109, Fx.t110, Fx.t111, Fx.t112, Fx.t113, Fx.t128, Fx.t129, Fx.t130, Fx.t146, Fx.en21, Fx.en23, Fx.en92, e1, e2, e3, e4]
          refine ⟨R.wn _ (by omega), Nat.le_of_ble_eq_true rfl, ?_⟩
          exact done _ _ _ _
      · rcases q2 with k3 | ⟨k3, k4, k5⟩
        · simp (config := { maxSteps := 1000000, implicitDefEqProofs := false }) only [-List.reduceReplicate, Nat.reduceBEq, renA, renL, renM, renO, evx, evs, evp, Eng.look, cst, cst1, putd, dstOk, params, loadx, partx, loI, hiI, bltx, mmI, boxx, srcx, calx, nilx, upd, del, resv, fillA, setMany, Nat.reduceLT, Nat.reduceLeDiff, Nat.reduceEqDiff, Nat.reduceAdd, Nat.reduceMul, Nat.reduceSub, reduceIte, reduceCtorEq, if_true, if_false, ite_true, ite_false, eq_self, forall_const, implies_true, Int.reduceLT, Int.reduceLE, Int.reduceToNat, Int.reduceAdd, Int.reduceSub, Int.reduceNeg, ne_eq, Int.reduceEq, Int.reduceNe, Int.reduceBEq, Int.reduceBNe, beq_self_eq_true, bne_self_eq_false, BitVec.reduceBEq, BitVec.reduceBNe, BitVec.reduceOfInt, BitVec.reduceSetWidth, wrD, engS0, engS1, engS2, engS3, engS4, engS5, engS6, engS7, engS8, engS9, engU0, engT0, engT1, engT2, Fx.t1, Fx.t3, Fx.t4, Fx.t5, Fx.t23, Fx.t35, Fx.t76, Fx.t82, Fx.t83, Fx.t91, Fx.t109, Fx.t110, Fx.t111, Fx.t112, Fx.t113, Fx.t128, Fx.t129, Fx.t130, Fx.t146, Fx.en21, Fx.en23, Fx.en92, k1, k3, w1, e1, e2, e3, e4, ha, stO, en]
          refine (frontOk R2 la lb (by omega) hw (by omega) (by omega) 3 (by decide) (e : Int)).weak ?_
          rintro v m3 nx3 ⟨rfl, rfl, rfl⟩
          simp (config := { maxSteps := 1000000, implicitDefEqProofs := false }) only [-List.reduceReplicate, Nat.reduceBEq, renA, renL, renM, renO, evx, evs, evp, Eng.look, cst, cst1, putd, dstOk, params, loadx, partx, loI, hiI, bltx, mmI, boxx, srcx, calx, nilx, upd, del, resv, fillA, setMany, Nat.reduceLT, Nat.reduceLeDiff, Nat.reduceEqDiff, Nat.reduceAdd, Nat.reduceMul, Nat.reduceSub, reduceIte, reduceCtorEq, if_true, if_false, ite_true, ite_false, eq_self, forall_const, implies_true, Int.reduceLT, Int.reduceLE, Int.reduceToNat, Int.reduceAdd, Int.reduceSub, Int.reduceNeg, ne_eq, Int.reduceEq, Int.reduceNe, Int.reduceBEq, Int.reduceBNe, beq_self_eq_true, bne_self_eq_false, BitVec.reduceBEq, BitVec.reduceBNe, BitVec.reduceOfInt, BitVec.reduceSetWidth, wrD, engS0, engS1, engS2, engS3, engS4, engS5, engS6, engS7, engS8, engS9, engU0, engT0, engT1, engT2, Fx.t1, Fx.t3, Fx.t4, Fx.t5, Fx.t23, Fx.t35, Fx.t76, Fx.t82, Fx.t83, Fx.t91, Fx.t109, Fx.t110, Fx.t111, Fx.t112, Fx.t113, Fx.t128, Fx.t129, Fx.t130, Fx.t146, Fx.en21, Fx.en23, Fx.en92, e1, e2, e3, e4]
          refine ⟨R.wn _ (by omega), Nat.le_of_ble_eq_true rfl, ?_⟩
          exact done _ _ _ _
        · simp (config := { maxSteps := 1000000, implicitDefEqProofs := false }) only [-List.reduceReplicate, Nat.reduceBEq, renA, renL, renM, renO, evx, evs, evp, Eng.look, cst, cst1, putd, dstOk, params, loadx, partx, loI, hiI, bltx, mmI, boxx, srcx, calx, nilx, upd, del, resv, fillA, setMany, Nat.reduceLT, Nat.reduceLeDiff, Nat.reduceEqDiff, Nat.reduceAdd, Nat.reduceMul, Nat.reduceSub, reduceIte, reduceCtorEq, if_true, if_false, ite_true, ite_false, eq_self, forall_const, implies_true, Int.reduceLT, Int.reduceLE, Int.reduceToNat, Int.reduceAdd, Int.reduceSub, Int.reduceNeg, ne_eq, Int.reduceEq, Int.reduceNe, Int.reduceBEq, Int.reduceBNe, beq_self_eq_true, bne_self_eq_false, BitVec.reduceBEq, BitVec.reduceBNe, BitVec.reduceOfInt, BitVec.reduceSetWidth, wrD, engS0, engS1, engS2, engS3, engS4, engS5, engS6, engS7, engS8, engS9, engU0, engT0, engT1, engT2, Fx.t1, Fx.t3, Fx.t4, Fx.t5, Fx.t23, Fx.t35, Fx.t76, Fx.t82, Fx.t83, Fx.t91, Fx.t109, Fx.t110, Fx.t111, Fx.t112, Fx.t113, Fx.t128, Fx.t129, Fx.t130, Fx.t146, Fx.en21, Fx.en23, Fx.en92, k1, k3, k4, k5, w1, e1, e2, e3, e4, ha, stO, en]
          refine (frontOk R2 la lb (by omega) hw (by omega) (by omega) 3 (by decide) (e : Int)).weak ?_
          rintro v m3 nx3 ⟨rfl, rfl, rfl⟩
          simp (config := { maxSteps := 1000000, implicitDefEqProofs := false }) only [-List.reduceReplicate, Nat.reduceBEq, renA, renL, renM, renO, evx, evs, evp, Eng.look, cst, cst1, putd, dstOk, params, loadx, partx, loI, hiI, bltx, mmI, boxx, srcx, calx, nilx, upd, del, resv, fillA, setMany, Nat.reduceLT, Nat.reduceLeDiff, Nat.reduceEqDiff, Nat.reduceAdd, Nat.reduceMul, Nat.reduceSub, reduceIte, reduceCtorEq, if_true, if_false, ite_true, ite_false, eq_self, forall_const, implies_true, Int.reduceLT, Int.reduceLE, Int.reduceToNat, Int.reduceAdd, Int.reduceSub, Int.reduceNeg, ne_eq, Int.reduceEq, Int.reduceNe, Int.reduceBEq, Int.reduceBNe, beq_self_eq_true, bne_self_eq_false, BitVec.reduceBEq, BitVec.reduceBNe, BitVec.reduceOfInt, BitVec.reduceSetWidth, wrD, engS0, engS1, engS2, engS3, engS4, engS5, engS6, engS7, engS8, engS9, engU0, engT0, engT1, engT2, Fx.t1, Fx.t3, Fx.t4, Fx.t5, Fx.t23, Fx.t35, Fx.t76, Fx.t82, Fx.t83, Fx.t91, Fx.t109, Fx.t110, Fx.t111, Fx.t112, Fx.t113, Fx.t128, Fx.t129, Fx.t130, Fx.t146, Fx.en21, Fx.en23, Fx.en92, e1, e2, e3, e4]
          refine ⟨R.wn _ (by omega), Nat.le_of_ble_eq_true rfl, ?_⟩
          exact done _ _ _ _
    · rw [if_neg c2]
      have q2 : decide ((l : Int) > 2) = false ∧ (((l : Int) == 2) = false ∨ (((l : Int) == 2) = true ∧ decide ((e : Int) ≤ 128) = false)) := by
        refine ⟨decide_eq_false (by omega), ?_⟩
        by_cases h : l = 2
        · exact .inr ⟨by simp [h], decide_eq_false (by omega)⟩
        · exact .inl (by simp; omega)
      obtain ⟨k3, q2⟩ := q2
      rcases q with ⟨k1, k2⟩ | k1
      · rcases q2 with k4 | ⟨k4, k5⟩
        · simp (config := { maxSteps := 1000000, implicitDefEqProofs := false }) only [-List.reduceReplicate, Nat.reduceBEq, renA, renL, renM, renO, evx, evs, evp, Eng.look, cst, cst1, putd, dstOk, params, loadx, partx, loI, hiI, bltx, mmI, boxx, srcx, calx, nilx, upd, del, resv, fillA, setMany, Nat.reduceLT, Nat.reduceLeDiff, Nat.reduceEqDiff, Nat.reduceAdd, Nat.reduceMul, Nat.reduceSub, reduceIte, reduceCtorEq, if_true, if_false, ite_true, ite_false, eq_self, forall_const, implies_true, Int.reduceLT, Int.reduceLE, Int.reduceToNat, Int.reduceAdd, Int.reduceSub, Int.reduceNeg, ne_eq, Int.reduceEq, Int.reduceNe, Int.reduceBEq, Int.reduceBNe, beq_self_eq_true, bne_self_eq_false, BitVec.reduceBEq, BitVec.reduceBNe, BitVec.reduceOfInt, BitVec.reduceSetWidth, wrD, engS0, engS1, engS2, engS3, engS4, engS5, engS6, engS7, engS8, engS9, engU0, engT0, engT1, engT2, Fx.t1, Fx.t3, Fx.t4, Fx.t5, Fx.t23, Fx.t35, Fx.t76, Fx.t82, Fx.t83, Fx.t91, Fx.t109, Fx.t110, Fx.t111, Fx.t112, Fx.t113, Fx.t128, Fx.t129, Fx.t130, Fx.t146, Fx.en21, Fx.en23, Fx.en92, k1, k2, k3, k4, w1, e1, e2, e3, e4, ha, stO, en]
          refine ⟨Fx.mixed, .inl ⟨[(0, false), (1, false), (2, false), (3, false), (4, false), (5, false), (6, false), (7, false), (8, false), (9, false), (10, false), (11, true), (12, false), (13, false)], [], by kernel_rfl, (fun n hn => by cases hn), ?_⟩⟩
          simp (config := { maxSteps := 1000000, implicitDefEqProofs := false }) only [-List.reduceReplicate, Nat.reduceBEq, renA, renL, renM, renO, evx, evs, evp, Eng.look, cst, cst1, putd, dstOk, params, loadx, partx, loI, hiI, bltx, mmI, boxx, srcx, calx, nilx, upd, del, resv, fillA, setMany, Nat.reduceLT, Nat.reduceLeDiff, Nat.reduceEqDiff, Nat.reduceAdd, Nat.reduceMul, Nat.reduceSub, reduceIte, reduceCtorEq, if_true, if_false, ite_true, ite_false, eq_self, forall_const, implies_true, Int.reduceLT, Int.reduceLE, Int.reduceToNat, Int.reduceAdd, Int.reduceSub, Int.reduceNeg, ne_eq, Int.reduceEq, Int.reduceNe, Int.reduceBEq, Int.reduceBNe, beq_self_eq_true, bne_self_eq_false, BitVec.reduceBEq, BitVec.reduceBNe, BitVec.reduceOfInt, BitVec.reduceSetWidth, wrD, engS0, engS1, engS2, engS3, engS4, engS5, engS6, engS7, engS8, engS9, engU0, engT0, engT1, engT2, Fx.t1, Fx.t3, Fx.t4, Fx.t5, Fx.t23, Fx.t35, Fx.t76, Fx.t82, Fx.t83, Fx.t91, Fx.t109, Fx.t110, Fx.t111, Fx.t112, Fx.t113, Fx.t128, Fx.t129, Fx.t130, Fx.t146, Fx.en21, Fx.en23, Fx.en92, e1, e2, e3, e4, ha, stO, f1, f2, f3]
          refine (LikeOk RW F2.o F2.r F2.an F2.bn p r.a left hl).weak ?_
          rintro v m3 nx3 ⟨rfl, rfl, rfl⟩
          rcases Int.lt_or_le 0 (LikeV d dict p r.a left) with u | u
          · have u1 : decide (LikeV d dict p r.a left > 0) = true := decide_eq_true u
            rw [if_pos u]
            simp (config := { maxSteps := 1000000, implicitDefEqProofs := false }) only [-List.reduceReplicate, Nat.reduceBEq, renA, renL, renM, renO, evx, evs, evp, Eng.look, cst, cst1, putd, dstOk, params, loadx, partx, loI, hiI, bltx, mmI, boxx, srcx, calx, nilx, upd, del, resv, fillA, setMany, Nat.reduceLT, Nat.reduceLeDiff, Nat.reduceEqDiff, Nat.reduceAdd, Nat.reduceMul, Nat.reduceSub, reduceIte, reduceCtorEq, if_true, if_false, ite_true, ite_false, eq_self, forall_const, implies_true, Int.reduceLT, Int.reduceLE, Int.reduceToNat, Int.reduceAdd, Int.reduceSub, Int.reduceNeg, ne_eq, Int.reduceEq, Int.reduceNe, Int.reduceBEq, Int.reduceBNe, beq_self_eq_true, bne_self_eq_false, BitVec.reduceBEq, BitVec.reduceBNe, BitVec.reduceOfInt, BitVec.reduceSetWidth, wrD, engS0, engS1, engS2, engS3, engS4, engS5, engS6, engS7, engS8, engS9, engU0, engT0, engT1, engT2, Fx.t1, Fx.t3, Fx.t4, Fx.t5, Fx.t23, Fx.t35, Fx.t76, Fx.t82, Fx.t83, Fx.t91, Fx.t109, Fx.t110, Fx.t111, Fx.t112, Fx.t113, Fx.t128, Fx.t129, Fx.t130, Fx.t146, Fx.en21, Fx.en23, Fx.en92, u1, e1, e2, e3, e4]
            refine ⟨R.wn _ (by omega), Nat.le_of_ble_eq_true rfl, ?_⟩
            exact done0 _ _ (.agg (symC _))
          · have u1 : decide (LikeV d dict p r.a left > 0) = false := decide_eq_false (by omega)
            rw [if_neg (by omega)]
            simp (config := { maxSteps := 1000000, implicitDefEqProofs := false }) only [-List.reduceReplicate, Nat.reduceBEq, renA, renL, renM, renO, evx, evs, evp, Eng.look, cst, cst1, putd, dstOk, params, loadx, partx, loI, hiI, bltx, mmI, boxx, srcx, calx, nilx, upd, del, resv, fillA, setMany, Nat.reduceLT, Nat.reduceLeDiff, Nat.reduceEqDiff, Nat.reduceAdd, Nat.reduceMul, Nat.reduceSub, reduceIte, reduceCtorEq, if_true, if_false, ite_true, ite_false, eq_self, forall_const, implies_true, Int.reduceLT, Int.reduceLE, Int.reduceToNat, Int.reduceAdd, Int.reduceSub, Int.reduceNeg, ne_eq, Int.reduceEq, Int.reduceNe, Int.reduceBEq, Int.reduceBNe, beq_self_eq_true, bne_self_eq_false, BitVec.reduceBEq, BitVec.reduceBNe, BitVec.reduceOfInt, BitVec.reduceSetWidth, wrD, engS0, engS1, engS2, engS3, engS4, engS5, engS6, engS7, engS8, engS9, engU0, engT0, engT1, engT2, Fx.t1, Fx.t3, Fx.t4, Fx.t5, Fx.t23, Fx.t35, Fx.t76, Fx.t82, Fx.t83, Fx.t91, Fx.t109, Fx.t110, Fx.t111, Fx.t112, Fx.t113, Fx.t128, Fx.t129, Fx.t130, Fx.t146, Fx.en21, Fx.en23, Fx.en92, u1, e1, e2, e3, e4]
            refine ⟨by omega, by omega, by rw [List.length_drop]; omega, R.wn _ (by omega), Nat.le_of_ble_eq_true rfl, ?_⟩
            exact done0 _ _ (.agg (symC _))
        · simp (config := { maxSteps := 1000000, implicitDefEqProofs := false }) only [-List.reduceReplicate, Nat.reduceBEq, renA, renL, renM, renO, evx, evs, evp, Eng.look, cst, cst1, putd, dstOk, params, loadx, partx, loI, hiI, bltx, mmI, boxx, srcx, calx, nilx, upd, del, resv, fillA, setMany, Nat.reduceLT, Nat.reduceLeDiff, Nat.reduceEqDiff, Nat.reduceAdd, Nat.reduceMul, Nat.reduceSub, reduceIte, reduceCtorEq, if_true, if_false, ite_true, ite_false, eq_self, forall_const, implies_true, Int.reduceLT, Int.reduceLE, Int.reduceToNat, Int.reduceAdd, Int.reduceSub, Int.reduceNeg, ne_eq, Int.reduceEq, Int.reduceNe, Int.reduceBEq, Int.reduceBNe, beq_self_eq_true, bne_self_eq_false, BitVec.reduceBEq, BitVec.reduceBNe, BitVec.reduceOfInt, BitVec.reduceSetWidth, wrD, engS0, engS1, engS2, engS3, engS4, engS5, engS6, engS7, engS8, engS9, engU0, engT0, engT1, engT2, Fx.t1, Fx.t3, Fx.t4, Fx.t5, Fx.t23, Fx.t35, Fx.t76, Fx.t82, Fx.t83, Fx.t91, Fx.t109, Fx.t110, Fx.t111, Fx.t112, Fx.t113, Fx.t128, Fx.t129, Fx.t130, Fx.t146, Fx.en21, Fx.en23, Fx.en92, k1, k2, k3, k4, k5, w1, e1, e2, e3, e4, ha, stO, en]
          refine ⟨Fx.mixed, .inl ⟨[(0, false), (1, false), (2, false), (3, false), (4, false), (5, false), (6, false), (7, false), (8, false), (9, false), (10, false), (11, true), (12, false), (13, false)], [], by kernel_rfl, (fun n hn => by cases hn), ?_⟩⟩
          simp (config := { maxSteps := 1000000, implicitDefEqProofs := false }) only [-List.reduceReplicate, Nat.reduceBEq, renA, renL, renM, renO, evx, evs, evp, Eng.look, cst, cst1, putd, dstOk, params, loadx, partx, loI, hiI, bltx, mmI, boxx, srcx, calx, nilx, upd, del, resv, fillA, setMany, Nat.reduceLT, Nat.reduceLeDiff, Nat.reduceEqDiff, Nat.reduceAdd, Nat.reduceMul, Nat.reduceSub, reduceIte, reduceCtorEq, if_true, if_false, ite_true, ite_false, eq_self, forall_const, implies_true, Int.reduceLT, Int.reduceLE, Int.reduceToNat, Int.reduceAdd, Int.reduceSub, Int.reduceNeg, ne_eq, Int.reduceEq, Int.reduceNe, Int.reduceBEq, Int.reduceBNe, beq_self_eq_true, bne_self_eq_false, BitVec.reduceBEq, BitVec.reduceBNe, BitVec.reduceOfInt, BitVec.reduceSetWidth, wrD, engS0, engS1, engS2, engS3, engS4, engS5, engS6, engS7, engS8, engS9, engU0, engT0, engT1, engT2, Fx.t1, Fx.t3, Fx.t4, Fx.t5, Fx.t23, Fx.t35, Fx.t76, Fx.t82, Fx.t83, Fx.t91, Fx.t109, Fx.t110, Fx.t111, Fx.t112, Fx.t113, Fx.t128, Fx.t129, Fx.t130, Fx.t146, Fx.en21, Fx.en23, Fx.en92, e1, e2, e3, e4, ha, stO, f1, f2, f3]
          refine (LikeOk RW F2.o F2.r F2.an F2.bn p r.a left hl).weak ?_
          rintro v m3 nx3 ⟨rfl, rfl, rfl⟩
          rcases Int.lt_or_le 0 (LikeV d dict p r.a left) with u | u
          · have u1 : decide (LikeV d dict p r.a left > 0) = true := decide_eq_true u
            rw [if_pos u]
            simp (config := { maxSteps := 1000000, implicitDefEqProofs := false }) only [-List.reduceReplicate, Nat.reduceBEq, renA, renL, renM, renO, evx, evs, evp, Eng.look, cst, cst1, putd, dstOk, params, loadx, partx, loI, hiI, bltx, mmI, boxx, srcx, calx, nilx, upd, del, resv, fillA, setMany, Nat.reduceLT, Nat.reduceLeDiff, Nat.reduceEqDiff, Nat.reduceAdd, Nat.reduceMul, Nat.reduceSub, reduceIte, reduceCtorEq, if_true, if_false, ite_true, ite_false, eq_self, forall_const, implies_true, Int.reduceLT, Int.reduceLE, Int.reduceToNat, Int.reduceAdd, Int.reduceSub, Int.reduceNeg, ne_eq, Int.reduceEq, Int.reduceNe, Int.reduceBEq, Int.reduceBNe, beq_self_eq_true, bne_self_eq_false, BitVec.reduceBEq, BitVec.reduceBNe, BitVec.reduceOfInt, BitVec.reduceSetWidth, wrD, engS0, engS1, engS2, engS3, engS4, engS5, engS6, engS7, engS8, engS9, engU0, engT0, engT1, engT2, Fx.t1, Fx.t3, Fx.t4, Fx.t5, Fx.t23, Fx.t35, Fx.t76, Fx.t82, Fx.t83, Fx.t91, Fx.t109, Fx.t110, Fx.t111, Fx.t112, Fx.t113, Fx.t128, Fx.t129, Fx.t130, Fx.t146, Fx.en21, Fx.en23, Fx.en92, u1, e1, e2, e3, e4]
            refine ⟨R.wn _ (by omega), Nat.le_of_ble_eq_true rfl, ?_⟩
            exact done0 _ _ (.agg (symC _))
          · have u1 : decide (LikeV d dict p r.a left > 0) = false := decide_eq_false (by omega)
            rw [if_neg (by omega)]
            simp (config := { maxSteps := 1000000, implicitDefEqProofs := false }) only [-List.reduceReplicate, Nat.reduceBEq, renA, renL, renM, renO, evx, evs, evp, Eng.look, cst, cst1, putd, dstOk, params, loadx, partx, loI, hiI, bltx, mmI, boxx, srcx, calx, nilx, upd, del, resv, fillA, setMany, Nat.reduceLT, Nat.reduceLeDiff, Nat.reduceEqDiff, Nat.reduceAdd, Nat.reduceMul, Nat.reduceSub, reduceIte, reduceCtorEq, if_true, if_false, ite_true, ite_false, eq_self, forall_const, implies_true, Int.reduceLT, Int.reduceLE, Int.reduceToNat, Int.reduceAdd, Int.reduceSub, Int.reduceNeg, ne_eq, Int.reduceEq, Int.reduceNe, Int.reduceBEq, Int.reduceBNe, beq_self_eq_true, bne_self_eq_false, BitVec.reduceBEq, BitVec.reduceBNe, BitVec.reduceOfInt, BitVec.reduceSetWidth, wrD, engS0, engS1, engS2, engS3, engS4, engS5, engS6, engS7, engS8, engS9, engU0, engT0, engT1, engT2, Fx.t1, Fx.t3, Fx.t4, Fx.t5, Fx.t23, Fx.t35, Fx.t76, Fx.t82, Fx.t83, Fx.t91, Fx.t109, Fx.t110, Fx.t111, Fx.t112, Fx.t113, Fx.t128, Fx.t129, Fx.t130, Fx.t146, Fx.en21, Fx.en23, Fx.en92, u1, e1, e2, e3, e4]
            refine ⟨by omega, by omega, by rw [List.length_drop]; omega, R.wn _ (by omega), Nat.le_of_ble_eq_true rfl, ?_⟩
            exact done0 _ _ (.agg (symC _))
      · rcases q2 with k4 | ⟨k4, k5⟩
        · simp (config := { maxSteps := 1000000, implicitDefEqProofs := false }) only [-List.reduceReplicate, Nat.reduceBEq, renA, renL, renM, renO, evx, evs, evp, Eng.look, cst, cst1, putd, dstOk, params, loadx, partx, loI, hiI, bltx, mmI, boxx, srcx, calx, nilx, upd, del, resv, fillA, setMany, Nat.reduceLT, Nat.reduceLeDiff, Nat.reduceEqDiff, Nat.reduceAdd, Nat.reduceMul, Nat.reduceSub, reduceIte, reduceCtorEq, if_true, if_false, ite_true, ite_false, eq_self, forall_const, implies_true, Int.reduceLT, Int.reduceLE, Int.reduceToNat, Int.reduceAdd, Int.reduceSub, Int.reduceNeg, ne_eq, Int.reduceEq, Int.reduceNe, Int.reduceBEq, Int.reduceBNe, beq_self_eq_true, bne_self_eq_false, BitVec.reduceBEq, BitVec.reduceBNe, BitVec.reduceOfInt, BitVec.reduceSetWidth, wrD, engS0, engS1, engS2, engS3, engS4, engS5, engS6, engS7, engS8, engS9, engU0, engT0, engT1, engT2, Fx.t1, Fx.t3, Fx.t4, Fx.t5, Fx.t23, Fx.t35, Fx.t76, Fx.t82, Fx.t83, Fx.t91, Fx.t109, Fx.t110, Fx.t111, Fx.t112, Fx.t113, Fx.t128, Fx.t129, Fx.t130, Fx.t146, Fx.en21, Fx.en23, Fx.en92, k1, k3, k4, w1, e1, e2, e3, e4, ha, stO, en]
          refine ⟨Fx.mixed, .inl ⟨[(0, false), (1, false), (2, false), (3, false), (4, false), (5, false), (6, false), (7, false), (8, false), (9, false), (10, false), (11, true), (12, false), (13, false)], [], by kernel_rfl, (fun n hn => by cases hn), ?_⟩⟩
          simp (config := { maxSteps := 1000000, implicitDefEqProofs := false }) only [-List.reduceReplicate, Nat.reduceBEq, renA, renL, renM, renO, evx, evs, evp, Eng.look, cst, cst1, putd, dstOk, params, loadx, partx, loI, hiI, bltx, mmI, boxx, srcx, calx, nilx, upd, del, resv, fillA, setMany, Nat.reduceLT, Nat.reduceLeDiff, Nat.reduceEqDiff, Nat.reduceAdd, Nat.reduceMul, Nat.reduceSub, reduceIte, reduceCtorEq, if_true, if_false, ite_true, ite_false, eq_self, forall_const, implies_true, Int.reduceLT, Int.reduceLE, Int.reduceToNat, Int.reduceAdd, Int.reduceSub, Int.reduceNeg, ne_eq, Int.reduceEq, Int.reduceNe, Int.reduceBEq, Int.reduceBNe, beq_self_eq_true, bne_self_eq_false, BitVec.reduceBEq, BitVec.reduceBNe, BitVec.reduceOfInt, BitVec.reduceSetWidth, wrD, engS0, engS1, engS2, engS3, engS4, engS5, engS6, engS7, engS8, engS9, engU0, engT0, engT1, engT2, Fx.t1, Fx.t3, Fx.t4, Fx.t5, Fx.t23, Fx.t35, Fx.t76, Fx.t82, Fx.t83, Fx.t91, Fx.t109, Fx.t110, Fx.t111, Fx.t112, Fx.t113, Fx.t128, Fx.t129, Fx.t130, Fx.t146, Fx.en21, Fx.en23, Fx.en92, e1, e2, e3, e4, ha, stO, f1, f2, f3]
          refine (LikeOk RW F2.o F2.r F2.an F2.bn p r.a left hl).weak ?_
          rintro v m3 nx3 ⟨rfl, rfl, rfl⟩
          rcases Int.lt_or_le 0 (LikeV d dict p r.a left) with u | u
          · have u1 : decide (LikeV d dict p r.a left > 0) = true := decide_eq_true u
            rw [if_pos u]
            simp (config := { maxSteps := 1000000, implicitDefEqProofs := false }) only [-List.reduceReplicate, Nat.reduceBEq, renA, renL, renM, renO, evx, evs, evp, Eng.look, cst, cst1, putd, dstOk, params, loadx, partx, loI, hiI, bltx, mmI, boxx, srcx, calx, nilx, upd, del, resv, fillA, setMany, Nat.reduceLT, Nat.reduceLeDiff, Nat.reduceEqDiff, Nat.reduceAdd, Nat.reduceMul, Nat.reduceSub, reduceIte, reduceCtorEq, if_true, if_false, ite_true, ite_false, eq_self, forall_const, implies_true, Int.reduceLT, Int.reduceLE, Int.reduceToNat, Int.reduceAdd, Int.reduceSub, Int.reduceNeg, ne_eq, Int.reduceEq, Int.reduceNe, Int.reduceBEq, Int.reduceBNe, beq_self_eq_true, bne_self_eq_false, BitVec.reduceBEq, BitVec.reduceBNe, BitVec.reduceOfInt, BitVec.reduceSetWidth, wrD, engS0, engS1, engS2, engS3, engS4, engS5, engS6, engS7, engS8, engS9, engU0, engT0, engT1, engT2, Fx.t1, Fx.t3, Fx.t4, Fx.t5, Fx.t23, Fx.t35, Fx.t76, Fx.t82, Fx.t83, Fx.t91, Fx.t109, Fx.t110, Fx.t111, Fx.t112, Fx.t113, Fx.t128, Fx.t129, Fx.t130, Fx.t146, Fx.en21, Fx.en23, Fx.en92, u1, e1, e2, e3, e4]
            refine ⟨R.wn _ (by omega), Nat.le_of_ble_eq_true rfl, ?_⟩
            exact done0 _ _ (.agg (symC _))
          · have u1 : decide (LikeV d dict p r.a left > 0) = false := decide_eq_false (by omega)
            rw [if_neg (by omega)]
            simp (config := { maxSteps := 1000000, implicitDefEqProofs := false }) only [-List.reduceReplicate, Nat.reduceBEq, renA, renL, renM, renO, evx, evs, evp, Eng.look, cst, cst1, putd, dstOk, params, loadx, partx, loI, hiI, bltx, mmI, boxx, srcx, calx, nilx, upd, del, resv, fillA, setMany, Nat.reduceLT, Nat.reduceLeDiff, Nat.reduceEqDiff, Nat.reduceAdd, Nat.reduceMul, Nat.reduceSub, reduceIte, reduceCtorEq, if_true, if_false, ite_true, ite_false, eq_self, forall_const, implies_true, Int.reduceLT, Int.reduceLE, Int.reduceToNat, Int.reduceAdd, Int.reduceSub, Int.reduceNeg, ne_eq, Int.reduceEq, Int.reduceNe, Int.reduceBEq, Int.reduceBNe, beq_self_eq_true, bne_self_eq_false, BitVec.reduceBEq, BitVec.reduceBNe, BitVec.reduceOfInt, BitVec.reduceSetWidth, wrD, engS0, engS1, engS2, engS3, engS4, engS5, engS6, engS7, engS8, engS9, engU0, engT0, engT1, engT2, Fx.t1, Fx.t3, Fx.t4, Fx.t5, Fx.t23, Fx.t35, Fx.t76, Fx.t82, Fx.t83, Fx.t91, Fx.t109, Fx.t110, Fx.t111, Fx.t112, Fx.t113, Fx.t128, Fx.t129, Fx.t130, Fx.t146, Fx.en21, Fx.en23, Fx.en92, u1, e1, e2, e3, e4]
            refine ⟨by omega, by omega, by rw [List.length_drop]; omega, R.wn _ (by omega), Nat.le_of_ble_eq_true rfl, ?_⟩
            exact done0 _ _ (.agg (symC _))
        · simp (config := { maxSteps := 1000000, implicitDefEqProofs := false }) only [-List.reduceReplicate, Nat.reduceBEq, renA, renL, renM, renO, evx, evs, evp, Eng.look, cst, cst1, putd, dstOk, params, loadx, partx, loI, hiI, bltx, mmI, boxx, srcx, calx, nilx, upd, del, resv, fillA, setMany, Nat.reduceLT, Nat.reduceLeDiff, Nat.reduceEqDiff, Nat.reduceAdd, Nat.reduceMul, Nat.reduceSub, reduceIte, reduceCtorEq, if_true, if_false, ite_true, ite_false, eq_self, forall_const, implies_true, Int.reduceLT, Int.reduceLE, Int.reduceToNat, Int.reduceAdd, Int.reduceSub, Int.reduceNeg, ne_eq, Int.reduceEq, Int.reduceNe, Int.reduceBEq, Int.reduceBNe, beq_self_eq_true, bne_self_eq_false, BitVec.reduceBEq, BitVec.reduceBNe, BitVec.reduceOfInt, BitVec.reduceSetWidth, wrD, engS0, engS1, engS2, engS3, engS4, engS5, engS6, engS7, engS8, engS9, engU0, engT0, engT1, engT2, Fx.t1, Fx.t3, Fx.t4, Fx.t5, Fx.t23, Fx.t35, Fx.t76, Fx.t82, Fx.t83, Fx.t91, Fx.t109, Fx.t110, Fx.t111, Fx.t112, Fx.t113, Fx.t128, Fx.t129, Fx.t130, Fx.t146, Fx.en21, Fx.en23, Fx.en92, k1, k3, k4, k5, w1, e1, e2, e3, e4, ha, stO, en]
          refine ⟨Fx.mixed, .inl ⟨[(0, false), (1, false), (2, false), (3, false), (4, false), (5, false), (6, false), (7, false), (8, false), (9, false), (10, false), (11, true), (12, false), (13, false)], [], by kernel_rfl, (fun n hn => by cases hn), ?_⟩⟩
          simp (config := { maxSteps := 1000000, implicitDefEqProofs := false }) only [-List.reduceReplicate, Nat.reduceBEq, renA, renL, renM, renO, evx, evs, evp, Eng.look, cst, cst1, putd, dstOk, params, loadx, partx, loI, hiI, bltx, mmI, boxx, srcx, calx, nilx, upd, del, resv, fillA, setMany, Nat.reduceLT, Nat.reduceLeDiff, Nat.reduceEqDiff, Nat.reduceAdd, Nat.reduceMul, Nat.reduceSub, reduceIte, reduceCtorEq, if_true, if_false, ite_true, ite_false, eq_self, forall_const, implies_true, Int.reduceLT, Int.reduceLE, Int.reduceToNat, Int.reduceAdd, Int.reduceSub, Int.reduceNeg, ne_eq, Int.reduceEq, Int.reduceNe, Int.reduceBEq, Int.reduceBNe, beq_self_eq_true, bne_self_eq_false, BitVec.reduceBEq, BitVec.reduceBNe, BitVec.reduceOfInt, BitVec.reduceSetWidth, wrD, engS0, engS1, engS2, engS3, engS4, engS5, engS6, engS7, engS8, engS9, engU0, engT0, engT1, engT2, Fx.t1, Fx.t3, Fx.t4, Fx.t5, Fx.t23, Fx.t35, Fx.t76, Fx.t82, Fx.t83, Fx.t91, Fx.t109, Fx.t110, Fx.t111, Fx.t112, Fx.t113, Fx.t128, Fx.t129, Fx.t130, Fx.t146, Fx.en21, Fx.en23, Fx.en92, e1, e2, e3, e4, ha, stO, f1, f2, f3]
          refine (LikeOk RW F2.o F2.r F2.an F2.bn p r.a left hl).weak ?_
          rintro v m3 nx3 ⟨rfl, rfl, rfl⟩
          rcases Int.lt_or_le 0 (LikeV d dict p r.a left) with u | u
          · have u1 : decide (LikeV d dict p r.a left > 0) = true := decide_eq_true u
            rw [if_pos u]
            simp (config := { maxSteps := 1000000, implicitDefEqProofs := false }) only [-List.reduceReplicate, Nat.reduceBEq, renA, renL, renM, renO, evx, evs, evp, Eng.look, cst, cst1, putd, dstOk, params, loadx, partx, loI, hiI, bltx, mmI, boxx, srcx, calx, nilx, upd, del, resv, fillA, setMany, Nat.reduceLT, Nat.reduceLeDiff, Nat.reduceEqDiff, Nat.reduceAdd, Nat.reduceMul, Nat.reduceSub, reduceIte, reduceCtorEq, if_true, if_false, ite_true, ite_false, eq_self, forall_const, implies_true, Int.reduceLT, Int.reduceLE, Int.reduceToNat, Int.reduceAdd, Int.reduceSub, Int.reduceNeg, ne_eq, Int.reduceEq, Int.reduceNe, Int.reduceBEq, Int.reduceBNe, beq_self_eq_true, bne_self_eq_false, BitVec.reduceBEq, BitVec.reduceBNe, BitVec.reduceOfInt, BitVec.reduceSetWidth, wrD, engS0, engS1, engS2, engS3, engS4, engS5, engS6, engS7, engS8, engS9, engU0, engT0, engT1, engT2, Fx.t1, Fx.t3, Fx.t4, Fx.t5, Fx.t23, Fx.t35, Fx.t76, Fx.t82, Fx.t83, Fx.t91, Fx.t109, Fx.t110, Fx.t111, Fx.t112, Fx.t113, Fx.t128, Fx.t129, Fx.t130, Fx.t146, Fx.en21, Fx.en23, Fx.en92, u1, e1, e2, e3, e4]
            refine ⟨R.wn _ (by omega), Nat.le_of_ble_eq_true rfl, ?_⟩
            exact done0 _ _ (.agg (symC _))
          · have u1 : decide (LikeV d dict p r.a left > 0) = false := decide_eq_false (by omega)
            rw [if_neg (by omega)]
            simp (config := { maxSteps := 1000000, implicitDefEqProofs := false }) only [-List.reduceReplicate, Nat.reduceBEq, renA, renL, renM, renO, evx, evs, evp, Eng.look, cst, cst1, putd, dstOk, params, loadx, partx, loI, hiI, bltx, mmI, boxx, srcx, calx, nilx, upd, del, resv, fillA, setMany, Nat.reduceLT, Nat.reduceLeDiff, Nat.reduceEqDiff, Nat.reduceAdd, Nat.reduceMul, Nat.reduceSub, reduceIte, reduceCtorEq, if_true, if_false, ite_true, ite_false, eq_self, forall_const, implies_true, Int.reduceLT, Int.reduceLE, Int.reduceToNat, Int.reduceAdd, Int.reduceSub, Int.reduceNeg, ne_eq, Int.reduceEq, Int.reduceNe, Int.reduceBEq, Int.reduceBNe, beq_self_eq_true, bne_self_eq_false, BitVec.reduceBEq, BitVec.reduceBNe, BitVec.reduceOfInt, BitVec.reduceSetWidth, wrD, engS0, engS1, engS2, engS3, engS4, engS5, engS6, engS7, engS8, engS9, engU0, engT0, engT1, engT2, Fx.t1, Fx.t3, Fx.t4, Fx.t5, Fx.t23, Fx.t35, Fx.t76, Fx.t82, Fx.t83, Fx.t91, Fx.t109, Fx.t110, Fx.t111, Fx.t112, Fx.t113, Fx.t128, Fx.t129, Fx.t130, Fx.t146, Fx.en21, Fx.en23, Fx.en92, u1, e1, e2, e3, e4]
            refine ⟨by omega, by omega, by rw [List.length_drop]; omega, R.wn _ (by omega), Nat.le_of_ble_eq_true rfl, ?_⟩
            exact done0 _ _ (.agg (symC _))
end Go.Proofs.Ytmnbbpckglppjaa
