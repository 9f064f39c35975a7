/- Parsing: the repeats' search, and a repeat put in front. -/
import Derived.Test.YtmnbbpckglppjaaEng19
import Derived.Test.YtmnbbpckglppjaaEng26
import Derived.Test.YtmnbbpckglppjaaFnh
set_option linter.unusedVariables false
set_option linter.unusedSimpArgs false
set_option maxRecDepth 100000
namespace Go.Eng
open Go
theorem upd_upd (m : Mem) (n : Nat) (o p : AObj) : upd (upd m n o) n p = upd m n p := by
  induction m with
  | nil => rfl
  | cons x r ih =>
    obtain ⟨k, y⟩ := x
    simp only [upd]
    by_cases h : k = n
    · simp [h, upd]
    · simp [h, upd, ih]
theorem upd_names (m : Mem) (n : Nat) (o : AObj) : (upd m n o).map (fun p => p.1) = m.map fun p => p.1 := by
  induction m with
  | nil => rfl
  | cons x r ih =>
    obtain ⟨k, y⟩ := x
    simp only [upd]
    by_cases h : k = n
    · simp [h]
    · simp [h, ih]
theorem look_name {m : Mem} {n : Nat} (h : n ∉ m.map fun p => p.1) : look m n = none := by
  cases e : look m n with
  | none => rfl
  | some o =>
    obtain ⟨p, hp, rfl⟩ := look_lt e
    exact absurd (List.mem_map_of_mem hp) h
theorem Rdm.upd {wr : Nat → Bool} {m : Mem} {nx : Nat} (r : Rdm wr m nx) (a : Nat) (o : AObj) : Rdm wr (Eng.upd m a o) nx :=
  ⟨by rw [upd_names]; exact r.nd, fun n hn => by
    obtain ⟨o', ho'⟩ := r.kp n hn
    by_cases h : a = n
    · subst h; exact ⟨o, look_upd_same o ho'⟩
    · exact ⟨o', by rw [look_upd_other o h]; exact ho'⟩, r.wn⟩
theorem look_mem {m : Mem} (h : (m.map fun p => p.1).Nodup) {p : Nat × AObj} (hp : p ∈ m) : look m p.1 = some p.2 := by
  induction m with
  | nil => cases hp
  | cons q r ih =>
    obtain ⟨k, x⟩ := q
    rw [List.map_cons, List.nodup_cons] at h
    rcases List.mem_cons.1 hp with rfl | hp
    · rw [look_cons, if_pos rfl]
    · have : k ≠ p.1 := fun e => h.1 (by show k ∈ _; rw [e]; exact List.mem_map_of_mem (f := fun p : Nat × AObj => p.1) hp)
      rw [look_cons, if_neg this]
      exact ih h.2 hp
theorem memSame_all {m0 : Mem} : ∀ {m : Mem}, (∀ p ∈ m, look m0 p.1 = some p.2) → memSame m0 m
  | [], _ => trivial
  | (n, o) :: r, h => ⟨h (n, o) (.head _), memSame_all fun p hp => h p (.tail _ hp)⟩
/-- a value, and this memory; names may have been used up -/
def Ku (V : AV) (M : Mem) (nx : Nat) : Kv := fun v m' nx' => v = V ∧ m' = M ∧ nx ≤ nx'
theorem Rdm.finU {wr : Nat → Bool} {M m2 : Mem} {nx nx2 : Nat} (r : Rdm wr M nx) (hx : nx ≤ nx2) (h : ∀ p ∈ M, look m2 p.1 = some p.2) (V : AV) : Fin nx wr m2 nx2 (Ku V M nx) V :=
  Fin.keepW (m0 := M) hx (memSame_all h) r.nd r.kp ⟨rfl, rfl, hx⟩
theorem upd_lt {m : Mem} {nx : Nat} (h : ∀ p ∈ m, p.1 < nx) (a : Nat) (o : AObj) : ∀ p ∈ upd m a o, p.1 < nx := fun p hp => by
  have : p.1 ∈ (upd m a o).map fun p => p.1 := List.mem_map_of_mem hp
  rw [upd_names] at this
  obtain ⟨q, hq, e⟩ := List.mem_map.1 this
  rw [← e]; exact h q hq
theorem Rdm.up {wr : Nat → Bool} {m : Mem} {nx nx' : Nat} (r : Rdm wr m nx) (h : nx ≤ nx') : Rdm wr m nx' := ⟨r.nd, r.kp, fun n hn => r.wn n (by omega)⟩
end Go.Eng
namespace Go.Proofs.Ytmnbbpckglppjaa
open Go Go.Eng

structure R4 where
  a : Int
  b : Int
  c : Int
  d : Int
def R4.get (r : R4) : Nat → Int
  | 0 => r.a
  | 1 => r.b
  | 2 => r.c
  | _ => r.d
def R4.front (r : R4) (x : Int) : Nat → R4
  | 0 => ⟨x, r.b, r.c, r.d⟩
  | 1 => ⟨x, r.a, r.c, r.d⟩
  | 2 => ⟨x, r.a, r.b, r.d⟩
  | _ => ⟨x, r.a, r.b, r.c⟩
def R4.av (r : R4) : List AV := [.int .i64 r.a, .int .i64 r.b, .int .i64 r.c, .int .i64 r.d]
/-- where one is -/
def stO (f : Nat) (r : R4) : AObj := .cells [.ptr f 0, .int .i64 r.a, .int .i64 r.b, .int .i64 r.c, .int .i64 r.d] 130
def repN (d : List (BitVec 8)) (dict p left : Int) (r : R4) : Nat → Nat × Int
  | 0 => (0, 0)
  | i + 1 => if (repN d dict p left r i).2 < LikeV d dict p (r.get i) left then (i, LikeV d dict p (r.get i) left) else repN d dict p left r i
theorem av_get (r : R4) (i : Nat) (h : i < 4) : r.av.getD i (.int .i64 0) = .int .i64 (r.get i) := by
  rcases (show i = 0 ∨ i = 1 ∨ i = 2 ∨ i = 3 by omega) with rfl | rfl | rfl | rfl <;> rfl
set_option maxHeartbeats 1000000 in
theorem repeatOk {wr : Nat → Bool} {m : Mem} {nx a f : Nat} {d : List (BitVec 8)} {dict nice : Int} {r : R4} (R : Rdm wr m nx) (ha : Eng.look m a = some (stO f r)) (F : FinderM m nx f d dict nice) (p left : Int) (hl : d.length ≤ 1000000) :
    CallG false Try.prog 92 [.ptr a 0, .int .i64 p, .int .i64 left] wr m nx (Kr (.tup [.int .i64 ((repN d dict p left r 4).1 : Nat), .int .i64 (repN d dict p left r 4).2]) m nx) := by
  refine fn_okG Try.func92 rfl (by show 3 ≤ _; decide) ?_
  obtain ⟨b, c, cap, sp, keys, vals, born, F, hc⟩ := F
  simp (config := { maxSteps := 1000000, implicitDefEqProofs := false }) only [-List.reduceReplicate, Nat.reduceBEq, renA, renL, renM, renO, evx, evs, evp, Eng.look, cst, cst1, putd, dstOk, params, loadx, partx, loI, hiI, bltx, mmI, boxx, srcx, calx, nilx, upd, del, resv, fillA, setMany, Nat.reduceLT, Nat.reduceLeDiff, Nat.reduceEqDiff, Nat.reduceAdd, Nat.reduceMul, Nat.reduceSub, reduceIte, reduceCtorEq, if_true, if_false, ite_true, ite_false, eq_self, forall_const, implies_true, Int.reduceLT, Int.reduceLE, Int.reduceToNat, Int.reduceAdd, Int.reduceSub, Int.reduceNeg, ne_eq, Int.reduceEq, Int.reduceNe, Int.reduceBEq, Int.reduceBNe, beq_self_eq_true, bne_self_eq_false, BitVec.reduceBEq, BitVec.reduceBNe, BitVec.reduceOfInt, BitVec.reduceSetWidth, wrD, engS0, engS1, engS2, engS3, engS4, engS5, engS6, engS7, engS8, engS9, engU0, engT0, engT1, engT2, Fx.t1, Fx.t3, Fx.t4, Fx.t5, Fx.t23, Fx.t35, Fx.t76, Fx.t91, Fx.t109, Fx.t110, Fx.t111, Fx.t112, Fx.t113, Fx.t128, Fx.t129, Fx.t130, Fx.en23, Try.results92, Try.ntmps92, ha, stO]
  refine LoopOk.up 4 (fun i => ([(17, .int .i64 (i : Nat)), (16, .agg r.av), (9, .int .i64 (repN d dict p left r i).2), (8, .int .i64 ((repN d dict p left r i).1 : Nat)), (2, .int .i64 left), (1, .int .i64 p), (0, .ptr a 0)], m, nx)) (R.le ⟨rfl, rfl, rfl, rfl, rfl, rfl, rfl, trivial⟩) ?_
  intro i hi
  rcases Nat.lt_or_ge i 4 with h | h
  · have g1 : decide ((i : Int) < 4) = true := decide_eq_true (by omega)
    have w1 : IntKind.i64.wrap ((i : Int) + 1) = ((i + 1 : Nat) : Int) := by rw [wrap_i64] <;> omega
    have hg := av_get r i h
    simp (config := { maxSteps := 1000000, implicitDefEqProofs := false }) only [-List.reduceReplicate, Nat.reduceBEq, renA, renL, renM, renO, evx, evs, evp, Eng.look, cst, cst1, putd, dstOk, params, loadx, partx, loI, hiI, bltx, mmI, boxx, srcx, calx, nilx, upd, del, resv, fillA, setMany, Nat.reduceLT, Nat.reduceLeDiff, Nat.reduceEqDiff, Nat.reduceAdd, Nat.reduceMul, Nat.reduceSub, reduceIte, reduceCtorEq, if_true, if_false, ite_true, ite_false, eq_self, forall_const, implies_true, Int.reduceLT, Int.reduceLE, Int.reduceToNat, Int.reduceAdd, Int.reduceSub, Int.reduceNeg, ne_eq, Int.reduceEq, Int.reduceNe, Int.reduceBEq, Int.reduceBNe, beq_self_eq_true, bne_self_eq_false, BitVec.reduceBEq, BitVec.reduceBNe, BitVec.reduceOfInt, BitVec.reduceSetWidth, wrD, engS0, engS1, engS2, engS3, engS4, engS5, engS6, engS7, engS8, engS9, engU0, engT0, engT1, engT2, Fx.t1, Fx.t3, Fx.t4, Fx.t5, Fx.t23, Fx.t35, Fx.t76, Fx.t91, Fx.t109, Fx.t110, Fx.t111, Fx.t112, Fx.t113, Fx.t128, Fx.t129, Fx.t130, Fx.en23, g1, ha, stO, hg, w1, Int.toNat_natCast]
    refine ⟨by omega, h, ?_⟩
    refine (LikeOk R F.o F.r F.an F.bn p (r.get i) left hl).weak ?_
    rintro v m' nx' ⟨rfl, rfl, rfl⟩
    rcases Int.lt_or_le (repN d dict p left r i).2 (LikeV d dict p (r.get i) left) with k | k
    · have k1 : decide (LikeV d dict p (r.get i) left > (repN d dict p left r i).2) = true := decide_eq_true k
      have hs : repN d dict p left r (i + 1) = (i, LikeV d dict p (r.get i) left) := by rw [repN, if_pos k]
      simp (config := { maxSteps := 1000000, implicitDefEqProofs := false }) only [-List.reduceReplicate, Nat.reduceBEq, renA, renL, renM, renO, evx, evs, evp, Eng.look, cst, cst1, putd, dstOk, params, loadx, partx, loI, hiI, bltx, mmI, boxx, srcx, calx, nilx, upd, del, resv, fillA, setMany, Nat.reduceLT, Nat.reduceLeDiff, Nat.reduceEqDiff, Nat.reduceAdd, Nat.reduceMul, Nat.reduceSub, reduceIte, reduceCtorEq, if_true, if_false, ite_true, ite_false, eq_self, forall_const, implies_true, Int.reduceLT, Int.reduceLE, Int.reduceToNat, Int.reduceAdd, Int.reduceSub, Int.reduceNeg, ne_eq, Int.reduceEq, Int.reduceNe, Int.reduceBEq, Int.reduceBNe, beq_self_eq_true, bne_self_eq_false, BitVec.reduceBEq, BitVec.reduceBNe, BitVec.reduceOfInt, BitVec.reduceSetWidth, wrD, engS0, engS1, engS2, engS3, engS4, engS5, engS6, engS7, engS8, engS9, engU0, engT0, engT1, engT2, Fx.t1, Fx.t3, Fx.t4, Fx.t5, Fx.t23, Fx.t35, Fx.t76, Fx.t91, Fx.t109, Fx.t110, Fx.t111, Fx.t112, Fx.t113, Fx.t128, Fx.t129, Fx.t130, Fx.en23, k1, w1]
      refine UpK_normal h ?_
      rw [hs]
      exact R.le ⟨rfl, rfl, rfl, rfl, rfl, rfl, rfl, trivial⟩
    · have k1 : decide (LikeV d dict p (r.get i) left > (repN d dict p left r i).2) = false := decide_eq_false (by omega)
      have hs : repN d dict p left r (i + 1) = repN d dict p left r i := by rw [repN, if_neg (by omega)]
      simp (config := { maxSteps := 1000000, implicitDefEqProofs := false }) only [-List.reduceReplicate, Nat.reduceBEq, renA, renL, renM, renO, evx, evs, evp, Eng.look, cst, cst1, putd, dstOk, params, loadx, partx, loI, hiI, bltx, mmI, boxx, srcx, calx, nilx, upd, del, resv, fillA, setMany, Nat.reduceLT, Nat.reduceLeDiff, Nat.reduceEqDiff, Nat.reduceAdd, Nat.reduceMul, Nat.reduceSub, reduceIte, reduceCtorEq, if_true, if_false, ite_true, ite_false, eq_self, forall_const, implies_true, Int.reduceLT, Int.reduceLE, Int.reduceToNat, Int.reduceAdd, Int.reduceSub, Int.reduceNeg, ne_eq, Int.reduceEq, Int.reduceNe, Int.reduceBEq, Int.reduceBNe, beq_self_eq_true, bne_self_eq_false, BitVec.reduceBEq, BitVec.reduceBNe, BitVec.reduceOfInt, BitVec.reduceSetWidth, wrD, engS0, engS1, engS2, engS3, engS4, engS5, engS6, engS7, engS8, engS9, engU0, engT0, engT1, engT2, Fx.t1, Fx.t3, Fx.t4, Fx.t5, Fx.t23, Fx.t35, Fx.t76, Fx.t91, Fx.t109, Fx.t110, Fx.t111, Fx.t112, Fx.t113, Fx.t128, Fx.t129, Fx.t130, Fx.en23, k1, w1]
      refine UpK_normal h ?_
      rw [hs]
      exact R.le ⟨rfl, rfl, rfl, rfl, rfl, rfl, rfl, trivial⟩
  · have h4 : i = 4 := by omega
    subst h4
    simp (config := { maxSteps := 1000000, implicitDefEqProofs := false }) only [-List.reduceReplicate, Nat.reduceBEq, renA, renL, renM, renO, evx, evs, evp, Eng.look, cst, cst1, putd, dstOk, params, loadx, partx, loI, hiI, bltx, mmI, boxx, srcx, calx, nilx, upd, del, resv, fillA, setMany, Nat.reduceLT, Nat.reduceLeDiff, Nat.reduceEqDiff, Nat.reduceAdd, Nat.reduceMul, Nat.reduceSub, reduceIte, reduceCtorEq, if_true, if_false, ite_true, ite_false, eq_self, forall_const, implies_true, Int.reduceLT, Int.reduceLE, Int.reduceToNat, Int.reduceAdd, Int.reduceSub, Int.reduceNeg, ne_eq, Int.reduceEq, Int.reduceNe, Int.reduceBEq, Int.reduceBNe, beq_self_eq_true, bne_self_eq_false, BitVec.reduceBEq, BitVec.reduceBNe, BitVec.reduceOfInt, BitVec.reduceSetWidth, wrD, engS0, engS1, engS2, engS3, engS4, engS5, engS6, engS7, engS8, engS9, engU0, engT0, engT1, engT2, Fx.t1, Fx.t3, Fx.t4, Fx.t5, Fx.t23, Fx.t35, Fx.t76, Fx.t91, Fx.t109, Fx.t110, Fx.t111, Fx.t112, Fx.t113, Fx.t128, Fx.t129, Fx.t130, Fx.en23]
    exact R.fin _
set_option maxHeartbeats 1000000 in
theorem frontOk {wr : Nat → Bool} {m : Mem} {nx a f bx : Nat} {r : R4} (R : Rdm wr m nx) (ha : Eng.look m a = some (stO f r)) (hb : Eng.look m bx = some (.cells [.ptr a 0] 128)) (hab : a ≠ bx) (hw : wr a = true) (han : a < nx) (hbn : bx < nx)
    (i : Nat) (hi : i < 4) (x : Int) : CallG false Try.prog 93 [.int .i64 i, .int .i64 x, .ptr bx 0] wr m nx (Kr (.tup []) (Eng.upd m a (stO f (r.front x i))) nx) := by
  refine fn_okG Try.func93 rfl (by show 3 ≤ _; decide) ?_
  have rb : decide (nx ≤ bx) = false := decide_eq_false (by omega)
  have ra : decide (nx ≤ a) = false := decide_eq_false (by omega)
  have hba : (bx == a) = false := by simp; omega
  have hu : ∀ o, Eng.look (Eng.upd m a o) a = some o := fun o => look_upd_same o ha
  have hub : ∀ o, Eng.look (Eng.upd m a o) bx = some (.cells [.ptr a 0] 128) := fun o => by rw [look_upd_other o hab]; exact hb
  have huu : ∀ o p, Eng.upd (Eng.upd m a o) a p = Eng.upd m a p := fun o p => upd_upd m a o p
  have w0 : IntKind.i64.wrap 1 = 1 := by decide
  have w1 : IntKind.i64.wrap 2 = 2 := by decide
  have w2 : IntKind.i64.wrap 3 = 3 := by decide
  have w3 : IntKind.i64.wrap 4 = 4 := by decide
  rcases (show i = 0 ∨ i = 1 ∨ i = 2 ∨ i = 3 by omega) with rfl | rfl | rfl | rfl
  · simp (config := { maxSteps := 1000000, implicitDefEqProofs := false }) only [-List.reduceReplicate, Nat.reduceBEq, renA, renL, renM, renO, evx, evs, evp, Eng.look, cst, cst1, putd, dstOk, params, loadx, partx, loI, hiI, bltx, mmI, boxx, srcx, calx, nilx, upd, del, resv, fillA, setMany, Nat.reduceLT, Nat.reduceLeDiff, Nat.reduceEqDiff, Nat.reduceAdd, Nat.reduceMul, Nat.reduceSub, reduceIte, reduceCtorEq, if_true, if_false, ite_true, ite_false, eq_self, forall_const, implies_true, Int.reduceLT, Int.reduceLE, Int.reduceToNat, Int.reduceAdd, Int.reduceSub, Int.reduceNeg, ne_eq, Int.reduceEq, Int.reduceNe, Int.reduceBEq, Int.reduceBNe, beq_self_eq_true, bne_self_eq_false, BitVec.reduceBEq, BitVec.reduceBNe, BitVec.reduceOfInt, BitVec.reduceSetWidth, wrD, engS0, engS1, engS2, engS3, engS4, engS5, engS6, engS7, engS8, engS9, engU0, engT0, engT1, engT2, Fx.t1, Fx.t3, Fx.t5, Fx.t23, Fx.t35, Fx.t76, Fx.t91, Fx.t109, Fx.t110, Fx.t111, Fx.t112, Fx.t113, Fx.t128, Fx.t129, Fx.t130, Try.results93, Try.ntmps93]
    refine ⟨Fx.mixed, .inl ⟨[(0, false), (1, false), (2, false), (3, false), (4, false), (5, false), (6, false), (7, false), (8, false), (9, false), (10, false), (11, true)], [a], by kernel_rfl, (fun n hn => by cases List.mem_singleton.1 hn; exact ⟨hw, by rw [ha]; rfl⟩), ?_⟩⟩
    simp (config := { maxSteps := 1000000, implicitDefEqProofs := false }) only [-List.reduceReplicate, Nat.reduceBEq, renA, renL, renM, renO, evx, evs, evp, Eng.look, cst, cst1, putd, dstOk, params, loadx, partx, loI, hiI, bltx, mmI, boxx, srcx, calx, nilx, upd, del, resv, fillA, setMany, Nat.reduceLT, Nat.reduceLeDiff, Nat.reduceEqDiff, Nat.reduceAdd, Nat.reduceMul, Nat.reduceSub, reduceIte, reduceCtorEq, if_true, if_false, ite_true, ite_false, eq_self, forall_const, implies_true, Int.reduceLT, Int.reduceLE, Int.reduceToNat, Int.reduceAdd, Int.reduceSub, Int.reduceNeg, ne_eq, Int.reduceEq, Int.reduceNe, Int.reduceBEq, Int.reduceBNe, beq_self_eq_true, bne_self_eq_false, BitVec.reduceBEq, BitVec.reduceBNe, BitVec.reduceOfInt, BitVec.reduceSetWidth, wrD, engS0, engS1, engS2, engS3, engS4, engS5, engS6, engS7, engS8, engS9, engU0, engT0, engT1, engT2, Fx.t1, Fx.t3, Fx.t5, Fx.t23, Fx.t35, Fx.t76, Fx.t91, Fx.t109, Fx.t110, Fx.t111, Fx.t112, Fx.t113, Fx.t128, Fx.t129, Fx.t130, ha, hb, stO, ra, rb, hba, hu, hub, huu, hw, w0, w1, w2, w3]
    repeat (refine And.intro (by first | decide | rfl | exact Nat.le_of_ble_eq_true rfl) ?_)
    exact (R.upd a (stO f (r.front x 0))).fin (.tup [])
  · simp (config := { maxSteps := 1000000, implicitDefEqProofs := false }) only [-List.reduceReplicate, Nat.reduceBEq, renA, renL, renM, renO, evx, evs, evp, Eng.look, cst, cst1, putd, dstOk, params, loadx, partx, loI, hiI, bltx, mmI, boxx, srcx, calx, nilx, upd, del, resv, fillA, setMany, Nat.reduceLT, Nat.reduceLeDiff, Nat.reduceEqDiff, Nat.reduceAdd, Nat.reduceMul, Nat.reduceSub, reduceIte, reduceCtorEq, if_true, if_false, ite_true, ite_false, eq_self, forall_const, implies_true, Int.reduceLT, Int.reduceLE, Int.reduceToNat, Int.reduceAdd, Int.reduceSub, Int.reduceNeg, ne_eq, Int.reduceEq, Int.reduceNe, Int.reduceBEq, Int.reduceBNe, beq_self_eq_true, bne_self_eq_false, BitVec.reduceBEq, BitVec.reduceBNe, BitVec.reduceOfInt, BitVec.reduceSetWidth, wrD, engS0, engS1, engS2, engS3, engS4, engS5, engS6, engS7, engS8, engS9, engU0, engT0, engT1, engT2, Fx.t1, Fx.t3, Fx.t5, Fx.t23, Fx.t35, Fx.t76, Fx.t91, Fx.t109, Fx.t110, Fx.t111, Fx.t112, Fx.t113, Fx.t128, Fx.t129, Fx.t130, Try.results93, Try.ntmps93]
    refine ⟨Fx.mixed, .inl ⟨[(0, false), (1, false), (2, false), (3, false), (4, false), (5, false), (6, false), (7, false), (8, false), (9, false), (10, false), (11, true)], [a], by kernel_rfl, (fun n hn => by cases List.mem_singleton.1 hn; exact ⟨hw, by rw [ha]; rfl⟩), ?_⟩⟩
    simp (config := { maxSteps := 1000000, implicitDefEqProofs := false }) only [-List.reduceReplicate, Nat.reduceBEq, renA, renL, renM, renO, evx, evs, evp, Eng.look, cst, cst1, putd, dstOk, params, loadx, partx, loI, hiI, bltx, mmI, boxx, srcx, calx, nilx, upd, del, resv, fillA, setMany, Nat.reduceLT, Nat.reduceLeDiff, Nat.reduceEqDiff, Nat.reduceAdd, Nat.reduceMul, Nat.reduceSub, reduceIte, reduceCtorEq, if_true, if_false, ite_true, ite_false, eq_self, forall_const, implies_true, Int.reduceLT, Int.reduceLE, Int.reduceToNat, Int.reduceAdd, Int.reduceSub, Int.reduceNeg, ne_eq, Int.reduceEq, Int.reduceNe, Int.reduceBEq, Int.reduceBNe, beq_self_eq_true, bne_self_eq_false, BitVec.reduceBEq, BitVec.reduceBNe, BitVec.reduceOfInt, BitVec.reduceSetWidth, wrD, engS0, engS1, engS2, engS3, engS4, engS5, engS6, engS7, engS8, engS9, engU0, engT0, engT1, engT2, Fx.t1, Fx.t3, Fx.t5, Fx.t23, Fx.t35, Fx.t76, Fx.t91, Fx.t109, Fx.t110, Fx.t111, Fx.t112, Fx.t113, Fx.t128, Fx.t129, Fx.t130, ha, hb, stO, ra, rb, hba, hu, hub, huu, hw, w0, w1, w2, w3]
    repeat (refine And.intro (by first | decide | rfl | exact Nat.le_of_ble_eq_true rfl) ?_)
    exact (R.upd a (stO f (r.front x 1))).fin (.tup [])
  · simp (config := { maxSteps := 1000000, implicitDefEqProofs := false }) only [-List.reduceReplicate, Nat.reduceBEq, renA, renL, renM, renO, evx, evs, evp, Eng.look, cst, cst1, putd, dstOk, params, loadx, partx, loI, hiI, bltx, mmI, boxx, srcx, calx, nilx, upd, del, resv, fillA, setMany, Nat.reduceLT, Nat.reduceLeDiff, Nat.reduceEqDiff, Nat.reduceAdd, Nat.reduceMul, Nat.reduceSub, reduceIte, reduceCtorEq, if_true, if_false, ite_true, ite_false, eq_self, forall_const, implies_true, Int.reduceLT, Int.reduceLE, Int.reduceToNat, Int.reduceAdd, Int.reduceSub, Int.reduceNeg, ne_eq, Int.reduceEq, Int.reduceNe, Int.reduceBEq, Int.reduceBNe, beq_self_eq_true, bne_self_eq_false, BitVec.reduceBEq, BitVec.reduceBNe, BitVec.reduceOfInt, BitVec.reduceSetWidth, wrD, engS0, engS1, engS2, engS3, engS4, engS5, engS6, engS7, engS8, engS9, engU0, engT0, engT1, engT2, Fx.t1, Fx.t3, Fx.t5, Fx.t23, Fx.t35, Fx.t76, Fx.t91, Fx.t109, Fx.t110, Fx.t111, Fx.t112, Fx.t113, Fx.t128, Fx.t129, Fx.t130, Try.results93, Try.ntmps93]
    refine ⟨Fx.mixed, .inl ⟨[(0, false), (1, false), (2, false), (3, false), (4, false), (5, false), (6, false), (7, false), (8, false), (9, false), (10, false), (11, true)], [a], by kernel_rfl, (fun n hn => by cases List.mem_singleton.1 hn; exact ⟨hw, by rw [ha]; rfl⟩), ?_⟩⟩
    simp (config := { maxSteps := 1000000, implicitDefEqProofs := false }) only [-List.reduceReplicate, Nat.reduceBEq, renA, renL, renM, renO, evx, evs, evp, Eng.look, cst, cst1, putd, dstOk, params, loadx, partx, loI, hiI, bltx, mmI, boxx, srcx, calx, nilx, upd, del, resv, fillA, setMany, Nat.reduceLT, Nat.reduceLeDiff, Nat.reduceEqDiff, Nat.reduceAdd, Nat.reduceMul, Nat.reduceSub, reduceIte, reduceCtorEq, if_true, if_false, ite_true, ite_false, eq_self, forall_const, implies_true, Int.reduceLT, Int.reduceLE, Int.reduceToNat, Int.reduceAdd, Int.reduceSub, Int.reduceNeg, ne_eq, Int.reduceEq, Int.reduceNe, Int.reduceBEq, Int.reduceBNe, beq_self_eq_true, bne_self_eq_false, BitVec.reduceBEq, BitVec.reduceBNe, BitVec.reduceOfInt, BitVec.reduceSetWidth, wrD, engS0, engS1, engS2, engS3, engS4, engS5, engS6, engS7, engS8, engS9, engU0, engT0, engT1, engT2, Fx.t1, Fx.t3, Fx.t5, Fx.t23, Fx.t35, Fx.t76, Fx.t91, Fx.t109, Fx.t110, Fx.t111, Fx.t112, Fx.t113, Fx.t128, Fx.t129, Fx.t130, ha, hb, stO, ra, rb, hba, hu, hub, huu, hw, w0, w1, w2, w3]
    repeat (refine And.intro (by first | decide | rfl | exact Nat.le_of_ble_eq_true rfl) ?_)
    exact (R.upd a (stO f (r.front x 2))).fin (.tup [])
  · simp (config := { maxSteps := 1000000, implicitDefEqProofs := false }) only [-List.reduceReplicate, Nat.reduceBEq, renA, renL, renM, renO, evx, evs, evp, Eng.look, cst, cst1, putd, dstOk, params, loadx, partx, loI, hiI, bltx, mmI, boxx, srcx, calx, nilx, upd, del, resv, fillA, setMany, Nat.reduceLT, Nat.reduceLeDiff, Nat.reduceEqDiff, Nat.reduceAdd, Nat.reduceMul, Nat.reduceSub, reduceIte, reduceCtorEq, if_true, if_false, ite_true, ite_false, eq_self, forall_const, implies_true, Int.reduceLT, Int.reduceLE, Int.reduceToNat, Int.reduceAdd, Int.reduceSub, Int.reduceNeg, ne_eq, Int.reduceEq, Int.reduceNe, Int.reduceBEq, Int.reduceBNe, beq_self_eq_true, bne_self_eq_false, BitVec.reduceBEq, BitVec.reduceBNe, BitVec.reduceOfInt, BitVec.reduceSetWidth, wrD, engS0, engS1, engS2, engS3, engS4, engS5, engS6, engS7, engS8, engS9, engU0, engT0, engT1, engT2, Fx.t1, Fx.t3, Fx.t5, Fx.t23, Fx.t35, Fx.t76, Fx.t91, Fx.t109, Fx.t110, Fx.t111, Fx.t112, Fx.t113, Fx.t128, Fx.t129, Fx.t130, Try.results93, Try.ntmps93]
    refine ⟨Fx.mixed, .inl ⟨[(0, false), (1, false), (2, false), (3, false), (4, false), (5, false), (6, false), (7, false), (8, false), (9, false), (10, false), (11, true)], [a], by kernel_rfl, (fun n hn => by cases List.mem_singleton.1 hn; exact ⟨hw, by rw [ha]; rfl⟩), ?_⟩⟩
    simp (config := { maxSteps := 1000000, implicitDefEqProofs := false }) only [-List.reduceReplicate, Nat.reduceBEq, renA, renL, renM, renO, evx, evs, evp, Eng.look, cst, cst1, putd, dstOk, params, loadx, partx, loI, hiI, bltx, mmI, boxx, srcx, calx, nilx, upd, del, resv, fillA, setMany, Nat.reduceLT, Nat.reduceLeDiff, Nat.reduceEqDiff, Nat.reduceAdd, Nat.reduceMul, Nat.reduceSub, reduceIte, reduceCtorEq, if_true, if_false, ite_true, ite_false, eq_self, forall_const, implies_true, Int.reduceLT, Int.reduceLE, Int.reduceToNat, Int.reduceAdd, Int.reduceSub, Int.reduceNeg, ne_eq, Int.reduceEq, Int.reduceNe, Int.reduceBEq, Int.reduceBNe, beq_self_eq_true, bne_self_eq_false, BitVec.reduceBEq, BitVec.reduceBNe, BitVec.reduceOfInt, BitVec.reduceSetWidth, wrD, engS0, engS1, engS2, engS3, engS4, engS5, engS6, engS7, engS8, engS9, engU0, engT0, engT1, engT2, Fx.t1, Fx.t3, Fx.t5, Fx.t23, Fx.t35, Fx.t76, Fx.t91, Fx.t109, Fx.t110, Fx.t111, Fx.t112, Fx.t113, Fx.t128, Fx.t129, Fx.t130, ha, hb, stO, ra, rb, hba, hu, hub, huu, hw, w0, w1, w2, w3]
    repeat (refine And.intro (by first | decide | rfl | exact Nat.le_of_ble_eq_true rfl) ?_)
    exact (R.upd a (stO f (r.front x 3))).fin (.tup [])
end Go.Proofs.Ytmnbbpckglppjaa
