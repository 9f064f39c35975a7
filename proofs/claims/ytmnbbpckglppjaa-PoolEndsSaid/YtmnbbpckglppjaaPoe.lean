/- Turns: a job is split off; a job is collected. -/
import Derived.Test.YtmnbbpckglppjaaEng19
import Derived.Test.YtmnbbpckglppjaaEng26
import Derived.Test.YtmnbbpckglppjaaPod
set_option linter.unusedVariables false
set_option linter.unusedSimpArgs false
set_option maxRecDepth 100000
namespace Go.Proofs.Ytmnbbpckglppjaa
open Go Go.Eng

def PoolK (a b c jobs room : Nat) (S' : PS) (V : AV) (own : List Nat) (m : Mem) (nx : Nat) : Kv := fun v m' nx' => v = V ∧ nx ≤ nx' ∧ Rdm (fun _ => true) m' nx' ∧ (∀ p ∈ m', p.1 < nx') ∧
  (∃ (Qv' Ov' : AV) (qs' os' born' : List Nat), PoolAt m' nx' a b c jobs room S' Qv' Ov' qs' os' born' ∧ ∀ k ∈ qs' ++ os', k ∈ own ∨ nx ≤ k) ∧ ∀ k X, k ∉ own → Eng.look m k = some X → Eng.look m' k = some X
theorem PoolAt.ext {m m' : Mem} {nx N a b c jobs room : Nat} {S : PS} {Qv Ov : AV} {qs os born : List Nat} (P : PoolAt m nx a b c jobs room S Qv Ov qs os born) (hN : nx ≤ N) (h : ∀ k X, Eng.look m k = some X → Eng.look m' k = some X) : PoolAt m' N a b c jobs room S Qv Ov qs os born :=
  ⟨h _ _ P.o, h _ _ P.bz, h _ _ P.mp, P.bl, P.qu.ext fun k _ => h k, P.ou.ext fun k _ => h k, P.nd, fun k hk => by have := P.lt k hk; omega, P.z1, P.z2, P.z3, P.z4, P.z5, P.z6⟩
theorem cons_keep {m : Mem} {nx : Nat} (hlt : ∀ p ∈ m, p.1 < nx) (o : AObj) (k : Nat) (X : AObj) (hk : Eng.look m k = some X) : Eng.look ((nx, o) :: m) k = some X := by
  obtain ⟨y, hy, e⟩ := look_lt hk
  have := hlt y hy
  rw [look_cons, if_neg (by omega)]; exact hk
theorem nd_q {a b c nx : Nat} {qs os : List Nat} (h : (a :: b :: c :: (qs ++ os)).Nodup) (hl : ∀ k ∈ a :: b :: c :: (qs ++ os), k < nx) : (a :: b :: c :: ([nx] ++ os)).Nodup := by
  have h1 : (a :: b :: c :: os).Nodup := h.sublist (((List.sublist_append_right qs os).cons_cons c).cons_cons b |>.cons_cons a)
  refine (List.perm_middle (a := nx) (l₁ := [a, b, c]) (l₂ := os)).nodup_iff.2 (List.nodup_cons.2 ⟨fun hm => ?_, h1⟩)
  have : nx ∈ a :: b :: c :: (qs ++ os) := by
    have hm : nx ∈ a :: b :: c :: os := hm
    simp only [List.mem_cons, List.mem_append] at hm ⊢
    rcases hm with h | h | h | h
    · exact .inl h
    · exact .inr (.inl h)
    · exact .inr (.inr (.inl h))
    · exact .inr (.inr (.inr (.inr h)))
  have := hl nx this
  omega
theorem nd_o {a b c nx : Nat} {qs os : List Nat} (h : (a :: b :: c :: (qs ++ os)).Nodup) (hl : ∀ k ∈ a :: b :: c :: (qs ++ os), k < nx) : (a :: b :: c :: (qs ++ [nx])).Nodup := by
  have h1 : (a :: b :: c :: qs).Nodup := h.sublist (((List.sublist_append_left qs os).cons_cons c).cons_cons b |>.cons_cons a)
  refine (List.perm_middle (a := nx) (l₁ := a :: b :: c :: qs) (l₂ := [])).nodup_iff.2 ?_
  rw [List.append_nil]
  refine List.nodup_cons.2 ⟨fun hm => ?_, h1⟩
  have : nx ∈ a :: b :: c :: (qs ++ os) := by
    simp only [List.mem_cons, List.mem_append] at hm ⊢
    rcases hm with h | h | h | h
    · exact .inl h
    · exact .inr (.inl h)
    · exact .inr (.inr (.inl h))
    · exact .inr (.inr (.inr (.inl h)))
  have := hl nx this
  omega
section
variable {wr : Nat → Bool} {m : Mem} {nx a b c jobs room : Nat} {S : PS} {Qv Ov : AV} {qs os born : List Nat}
def canS (jobs room : Nat) (S : PS) : Bool := decide (S.next < jobs) && decide (S.q.length < room) && decide ((S.next : Int) - S.out ≤ (S.busy.length : Int) + room)
theorem QuAt.facts {m : Mem} {v : AV} {L : List Int} {ns : List Nat} (h : QuAt m v L ns) : mapOf [v] = none ∧ one1 v = true ∧ isTup v = false ∧ acells v = [v] ∧ (∀ l off, stor l off v = l.set off v) ∧ ∀ k, lenx Try.prog 91 v k = ((elemT Try.prog 91).isSome = true ∧ k (.int .i64 (L.length : Nat))) := by
  rcases h with ⟨rfl, rfl, _⟩ | ⟨n, off, cap, pre, sp, rfl, _⟩
  · exact ⟨rfl, rfl, rfl, rfl, fun _ _ => rfl, fun _ => rfl⟩
  · exact ⟨rfl, rfl, rfl, rfl, fun _ _ => rfl, fun _ => rfl⟩
theorem PoolK.same (D : Rdm (fun _ => true) m nx) (hlt : ∀ p ∈ m, p.1 < nx) (P : PoolAt m nx a b c jobs room S Qv Ov qs os born) (V : AV) : PoolK a b c jobs room S V (a :: b :: c :: (qs ++ os)) m nx V m nx :=
  ⟨rfl, Nat.le_refl _, D, hlt, ⟨Qv, Ov, qs, os, born, P, fun k hk => .inl (by simp only [List.mem_cons]; exact .inr (.inr (.inr hk)))⟩, fun _ _ _ h => h⟩
theorem PoolAt.ab (P : PoolAt m nx a b c jobs room S Qv Ov qs os born) : a ≠ b ∧ a ≠ c ∧ b ≠ c ∧ (∀ k ∈ qs ++ os, k ≠ a ∧ k ≠ b ∧ k ≠ c) ∧ (∀ k ∈ qs, k ∉ os) := by
  have h := P.nd
  rw [List.nodup_cons, List.nodup_cons, List.nodup_cons] at h
  obtain ⟨h1, h2, h3, h4⟩ := h
  simp only [List.mem_cons, not_or] at h1 h2
  refine ⟨h1.1, h1.2.1, h2.1, fun k hk => ⟨fun e => h1.2.2 (by rw [← e]; exact hk), fun e => h2.2 (by rw [← e]; exact hk), fun e => h3 (by rw [← e]; exact hk)⟩, fun k hk ho => ?_⟩
  exact (List.nodup_append.1 h4).2.2 k hk k ho rfl
set_option maxHeartbeats 4000000 in
theorem splitF (D : Rdm wr m nx) (P : PoolAt m nx a b c jobs room S Qv Ov qs os born) : CallG false Try.prog 95 [.ptr a 0, .bool false] wr m nx (Kr (.tup [.int .i64 (if canS jobs room S = true then (S.next : Int) else 0), .bool (canS jobs room S)]) m nx) := by
  refine fn_okG Try.func95 rfl (by show 2 ≤ _; decide) ?_
  have o := P.o
  have z3 := P.z3
  have z4 := P.z4
  have DW := D.drawn []
  have f1 : decide (nx ≤ a) = false := decide_eq_false (by have := P.an; omega)
  have w1 : IntKind.i64.wrap ((S.busy.length : Int) + (room : Int)) = (S.busy.length : Int) + (room : Int) := by rw [wrap_i64] <;> omega
  obtain ⟨q1, q2, q3, q4, q5, q6⟩ := P.qu.facts
  rcases Nat.lt_or_ge S.next jobs with h1 | h1
  rotate_left
  · have g1 : decide ((S.next : Int) ≥ (jobs : Int)) = true := decide_eq_true (by omega)
    have hc : canS jobs room S = false := by rw [canS, decide_eq_false (by omega)]; rfl
    rw [hc]
    simp (config := { maxSteps := 1000000, implicitDefEqProofs := false }) only [-List.reduceReplicate, Nat.reduceBEq, renA, renL, renM, renO, evx, evs, evp, Eng.look, cst, cst1, putd, dstOk, params, loadx, partx, loI, hiI, bltx, mmI, boxx, srcx, calx, nilx, upd, del, resv, fillA, setMany, Nat.reduceLT, Nat.reduceLeDiff, Nat.reduceEqDiff, Nat.reduceAdd, Nat.reduceMul, Nat.reduceSub, reduceIte, reduceCtorEq, if_true, if_false, ite_true, ite_false, eq_self, forall_const, implies_true, Int.reduceLT, Int.reduceLE, Int.reduceToNat, Int.reduceAdd, Int.reduceSub, Int.reduceNeg, ne_eq, Int.reduceEq, Int.reduceNe, Int.reduceBEq, Int.reduceBNe, beq_self_eq_true, bne_self_eq_false, BitVec.reduceBEq, BitVec.reduceBNe, BitVec.reduceOfInt, BitVec.reduceSetWidth, wrD, engS0, engS1, engS2, engS3, engS4, engS5, engS6, engS7, engS8, engS9, engU0, engT0, engT1, engT2, Fx.t1, Fx.t2, Fx.t3, Fx.t4, Fx.t91, Fx.t92, Fx.t137, Fx.t138, Fx.t139, Fx.en61, Try.results95, Try.ntmps95, o]
    refine ⟨Fx.mixed, .inl ⟨[(0, false), (1, false), (2, false), (3, false), (4, false), (5, false), (6, false), (7, false), (8, false), (9, false), (10, false), (11, false), (12, false), (13, false), (14, false), (15, false), (16, false), (17, false), (18, false), (19, false), (21, false), (22, false), (23, false), (24, false), (25, false), (26, false), (27, false), (28, false), (29, false), (30, false), (20, true), (31, false), (32, false)], [], by kernel_rfl, (fun n hn => by cases hn), ?_⟩⟩
    simp (config := { maxSteps := 1000000, implicitDefEqProofs := false }) only [-List.reduceReplicate, Nat.reduceBEq, renA, renL, renM, renO, evx, evs, evp, Eng.look, cst, cst1, putd, dstOk, params, loadx, partx, loI, hiI, bltx, mmI, boxx, srcx, calx, nilx, upd, del, resv, fillA, setMany, Nat.reduceLT, Nat.reduceLeDiff, Nat.reduceEqDiff, Nat.reduceAdd, Nat.reduceMul, Nat.reduceSub, reduceIte, reduceCtorEq, if_true, if_false, ite_true, ite_false, eq_self, forall_const, implies_true, Int.reduceLT, Int.reduceLE, Int.reduceToNat, Int.reduceAdd, Int.reduceSub, Int.reduceNeg, ne_eq, Int.reduceEq, Int.reduceNe, Int.reduceBEq, Int.reduceBNe, beq_self_eq_true, bne_self_eq_false, BitVec.reduceBEq, BitVec.reduceBNe, BitVec.reduceOfInt, BitVec.reduceSetWidth, wrD, engS0, engS1, engS2, engS3, engS4, engS5, engS6, engS7, engS8, engS9, engU0, engT0, engT1, engT2, Fx.t1, Fx.t2, Fx.t3, Fx.t4, Fx.t91, Fx.t92, Fx.t137, Fx.t138, Fx.t139, Fx.en61, o, f1, g1]
    exact D.fin _
  have g1 : decide ((S.next : Int) ≥ (jobs : Int)) = false := decide_eq_false (by omega)
  rcases Nat.lt_or_ge S.q.length room with h2 | h2
  rotate_left
  · have g2 : decide ((S.q.length : Int) ≥ (room : Int)) = true := decide_eq_true (by omega)
    have hc : canS jobs room S = false := by rw [canS, decide_eq_false (show ¬ S.q.length < room by omega), Bool.and_false]; rfl
    rw [hc]
    simp (config := { maxSteps := 1000000, implicitDefEqProofs := false }) only [-List.reduceReplicate, Nat.reduceBEq, renA, renL, renM, renO, evx, evs, evp, Eng.look, cst, cst1, putd, dstOk, params, loadx, partx, loI, hiI, bltx, mmI, boxx, srcx, calx, nilx, upd, del, resv, fillA, setMany, Nat.reduceLT, Nat.reduceLeDiff, Nat.reduceEqDiff, Nat.reduceAdd, Nat.reduceMul, Nat.reduceSub, reduceIte, reduceCtorEq, if_true, if_false, ite_true, ite_false, eq_self, forall_const, implies_true, Int.reduceLT, Int.reduceLE, Int.reduceToNat, Int.reduceAdd, Int.reduceSub, Int.reduceNeg, ne_eq, Int.reduceEq, Int.reduceNe, Int.reduceBEq, Int.reduceBNe, beq_self_eq_true, bne_self_eq_false, BitVec.reduceBEq, BitVec.reduceBNe, BitVec.reduceOfInt, BitVec.reduceSetWidth, wrD, engS0, engS1, engS2, engS3, engS4, engS5, engS6, engS7, engS8, engS9, engU0, engT0, engT1, engT2, Fx.t1, Fx.t2, Fx.t3, Fx.t4, Fx.t91, Fx.t92, Fx.t137, Fx.t138, Fx.t139, Fx.en61, Try.results95, Try.ntmps95, o]
    refine ⟨Fx.mixed, .inl ⟨[(0, false), (1, false), (2, false), (3, false), (4, false), (5, false), (6, false), (7, false), (8, false), (9, false), (10, false), (11, false), (12, false), (13, false), (14, false), (15, false), (16, false), (17, false), (18, false), (19, false), (21, false), (22, false), (23, false), (24, false), (25, false), (26, false), (27, false), (28, false), (29, false), (30, false), (20, true), (31, false), (32, false)], [], by kernel_rfl, (fun n hn => by cases hn), ?_⟩⟩
    simp (config := { maxSteps := 1000000, implicitDefEqProofs := false }) only [-List.reduceReplicate, Nat.reduceBEq, renA, renL, renM, renO, evx, evs, evp, Eng.look, cst, cst1, putd, dstOk, params, loadx, partx, loI, hiI, bltx, mmI, boxx, srcx, calx, nilx, upd, del, resv, fillA, setMany, Nat.reduceLT, Nat.reduceLeDiff, Nat.reduceEqDiff, Nat.reduceAdd, Nat.reduceMul, Nat.reduceSub, reduceIte, reduceCtorEq, if_true, if_false, ite_true, ite_false, eq_self, forall_const, implies_true, Int.reduceLT, Int.reduceLE, Int.reduceToNat, Int.reduceAdd, Int.reduceSub, Int.reduceNeg, ne_eq, Int.reduceEq, Int.reduceNe, Int.reduceBEq, Int.reduceBNe, beq_self_eq_true, bne_self_eq_false, BitVec.reduceBEq, BitVec.reduceBNe, BitVec.reduceOfInt, BitVec.reduceSetWidth, wrD, engS0, engS1, engS2, engS3, engS4, engS5, engS6, engS7, engS8, engS9, engU0, engT0, engT1, engT2, Fx.t1, Fx.t2, Fx.t3, Fx.t4, Fx.t91, Fx.t92, Fx.t137, Fx.t138, Fx.t139, Fx.en61, o, f1, g1, g2, q1, q2, q3, q4, q5, q6]
    exact D.fin _
  have g2 : decide ((S.q.length : Int) ≥ (room : Int)) = false := decide_eq_false (by omega)
  have hcs : canS jobs room S = decide ((S.next : Int) - S.out ≤ (S.busy.length : Int) + room) := by rw [canS, decide_eq_true h1, decide_eq_true h2]; rfl
  rcases Int.lt_or_le ((S.busy.length : Int) + room) ((S.next : Int) - S.out) with h3 | h3
  · have g3 : decide ((S.next : Int) - S.out > (S.busy.length : Int) + room) = true := decide_eq_true h3
    rw [hcs, decide_eq_false (by omega)]
    simp (config := { maxSteps := 1000000, implicitDefEqProofs := false }) only [-List.reduceReplicate, Nat.reduceBEq, renA, renL, renM, renO, evx, evs, evp, Eng.look, cst, cst1, putd, dstOk, params, loadx, partx, loI, hiI, bltx, mmI, boxx, srcx, calx, nilx, upd, del, resv, fillA, setMany, Nat.reduceLT, Nat.reduceLeDiff, Nat.reduceEqDiff, Nat.reduceAdd, Nat.reduceMul, Nat.reduceSub, reduceIte, reduceCtorEq, if_true, if_false, ite_true, ite_false, eq_self, forall_const, implies_true, Int.reduceLT, Int.reduceLE, Int.reduceToNat, Int.reduceAdd, Int.reduceSub, Int.reduceNeg, ne_eq, Int.reduceEq, Int.reduceNe, Int.reduceBEq, Int.reduceBNe, beq_self_eq_true, bne_self_eq_false, BitVec.reduceBEq, BitVec.reduceBNe, BitVec.reduceOfInt, BitVec.reduceSetWidth, wrD, engS0, engS1, engS2, engS3, engS4, engS5, engS6, engS7, engS8, engS9, engU0, engT0, engT1, engT2, Fx.t1, Fx.t2, Fx.t3, Fx.t4, Fx.t91, Fx.t92, Fx.t137, Fx.t138, Fx.t139, Fx.en61, Try.results95, Try.ntmps95, o]
    refine ⟨Fx.mixed, .inl ⟨[(0, false), (1, false), (2, false), (3, false), (4, false), (5, false), (6, false), (7, false), (8, false), (9, false), (10, false), (11, false), (12, false), (13, false), (14, false), (15, false), (16, false), (17, false), (18, false), (19, false), (21, false), (22, false), (23, false), (24, false), (25, false), (26, false), (27, false), (28, false), (29, false), (30, false), (20, true), (31, false), (32, false)], [], by kernel_rfl, (fun n hn => by cases hn), ?_⟩⟩
    simp (config := { maxSteps := 1000000, implicitDefEqProofs := false }) only [-List.reduceReplicate, Nat.reduceBEq, renA, renL, renM, renO, evx, evs, evp, Eng.look, cst, cst1, putd, dstOk, params, loadx, partx, loI, hiI, bltx, mmI, boxx, srcx, calx, nilx, upd, del, resv, fillA, setMany, Nat.reduceLT, Nat.reduceLeDiff, Nat.reduceEqDiff, Nat.reduceAdd, Nat.reduceMul, Nat.reduceSub, reduceIte, reduceCtorEq, if_true, if_false, ite_true, ite_false, eq_self, forall_const, implies_true, Int.reduceLT, Int.reduceLE, Int.reduceToNat, Int.reduceAdd, Int.reduceSub, Int.reduceNeg, ne_eq, Int.reduceEq, Int.reduceNe, Int.reduceBEq, Int.reduceBNe, beq_self_eq_true, bne_self_eq_false, BitVec.reduceBEq, BitVec.reduceBNe, BitVec.reduceOfInt, BitVec.reduceSetWidth, wrD, engS0, engS1, engS2, engS3, engS4, engS5, engS6, engS7, engS8, engS9, engU0, engT0, engT1, engT2, Fx.t1, Fx.t2, Fx.t3, Fx.t4, Fx.t91, Fx.t92, Fx.t137, Fx.t138, Fx.t139, Fx.en61, o, f1, g1, g2, q1, q2, q3, q4, q5, q6]
    refine (aliveOk DW P).weak ?_
    rintro v m3 nx3 ⟨rfl, rfl, rfl⟩
    simp (config := { maxSteps := 1000000, implicitDefEqProofs := false }) only [-List.reduceReplicate, Nat.reduceBEq, renA, renL, renM, renO, evx, evs, evp, Eng.look, cst, cst1, putd, dstOk, params, loadx, partx, loI, hiI, bltx, mmI, boxx, srcx, calx, nilx, upd, del, resv, fillA, setMany, Nat.reduceLT, Nat.reduceLeDiff, Nat.reduceEqDiff, Nat.reduceAdd, Nat.reduceMul, Nat.reduceSub, reduceIte, reduceCtorEq, if_true, if_false, ite_true, ite_false, eq_self, forall_const, implies_true, Int.reduceLT, Int.reduceLE, Int.reduceToNat, Int.reduceAdd, Int.reduceSub, Int.reduceNeg, ne_eq, Int.reduceEq, Int.reduceNe, Int.reduceBEq, Int.reduceBNe, beq_self_eq_true, bne_self_eq_false, BitVec.reduceBEq, BitVec.reduceBNe, BitVec.reduceOfInt, BitVec.reduceSetWidth, wrD, engS0, engS1, engS2, engS3, engS4, engS5, engS6, engS7, engS8, engS9, engU0, engT0, engT1, engT2, Fx.t1, Fx.t2, Fx.t3, Fx.t4, Fx.t91, Fx.t92, Fx.t137, Fx.t138, Fx.t139, Fx.en61, w1, g3]
    exact D.fin _
  · have g3 : decide ((S.next : Int) - S.out > (S.busy.length : Int) + room) = false := decide_eq_false (by omega)
    rw [hcs, decide_eq_true h3]
    simp (config := { maxSteps := 1000000, implicitDefEqProofs := false }) only [-List.reduceReplicate, Nat.reduceBEq, renA, renL, renM, renO, evx, evs, evp, Eng.look, cst, cst1, putd, dstOk, params, loadx, partx, loI, hiI, bltx, mmI, boxx, srcx, calx, nilx, upd, del, resv, fillA, setMany, Nat.reduceLT, Nat.reduceLeDiff, Nat.reduceEqDiff, Nat.reduceAdd, Nat.reduceMul, Nat.reduceSub, reduceIte, reduceCtorEq, if_true, if_false, ite_true, ite_false, eq_self, forall_const, implies_true, Int.reduceLT, Int.reduceLE, Int.reduceToNat, Int.reduceAdd, Int.reduceSub, Int.reduceNeg, ne_eq, Int.reduceEq, Int.reduceNe, Int.reduceBEq, Int.reduceBNe, beq_self_eq_true, bne_self_eq_false, BitVec.reduceBEq, BitVec.reduceBNe, BitVec.reduceOfInt, BitVec.reduceSetWidth, wrD, engS0, engS1, engS2, engS3, engS4, engS5, engS6, engS7, engS8, engS9, engU0, engT0, engT1, engT2, Fx.t1, Fx.t2, Fx.t3, Fx.t4, Fx.t91, Fx.t92, Fx.t137, Fx.t138, Fx.t139, Fx.en61, Try.results95, Try.ntmps95, o]
    refine ⟨Fx.mixed, .inl ⟨[(0, false), (1, false), (2, false), (3, false), (4, false), (5, false), (6, false), (7, false), (8, false), (9, false), (10, false), (11, false), (12, false), (13, false), (14, false), (15, false), (16, false), (17, false), (18, false), (19, false), (21, false), (22, false), (23, false), (24, false), (25, false), (26, false), (27, false), (28, false), (29, false), (30, false), (20, true), (31, false), (32, false)], [], by kernel_rfl, (fun n hn => by cases hn), ?_⟩⟩
    simp (config := { maxSteps := 1000000, implicitDefEqProofs := false }) only [-List.reduceReplicate, Nat.reduceBEq, renA, renL, renM, renO, evx, evs, evp, Eng.look, cst, cst1, putd, dstOk, params, loadx, partx, loI, hiI, bltx, mmI, boxx, srcx, calx, nilx, upd, del, resv, fillA, setMany, Nat.reduceLT, Nat.reduceLeDiff, Nat.reduceEqDiff, Nat.reduceAdd, Nat.reduceMul, Nat.reduceSub, reduceIte, reduceCtorEq, if_true, if_false, ite_true, ite_false, eq_self, forall_const, implies_true, Int.reduceLT, Int.reduceLE, Int.reduceToNat, Int.reduceAdd, Int.reduceSub, Int.reduceNeg, ne_eq, Int.reduceEq, Int.reduceNe, Int.reduceBEq, Int.reduceBNe, beq_self_eq_true, bne_self_eq_false, BitVec.reduceBEq, BitVec.reduceBNe, BitVec.reduceOfInt, BitVec.reduceSetWidth, wrD, engS0, engS1, engS2, engS3, engS4, engS5, engS6, engS7, engS8, engS9, engU0, engT0, engT1, engT2, Fx.t1, Fx.t2, Fx.t3, Fx.t4, Fx.t91, Fx.t92, Fx.t137, Fx.t138, Fx.t139, Fx.en61, o, f1, g1, g2, q1, q2, q3, q4, q5, q6]
    refine (aliveOk DW P).weak ?_
    rintro v m3 nx3 ⟨rfl, rfl, rfl⟩
    simp (config := { maxSteps := 1000000, implicitDefEqProofs := false }) only [-List.reduceReplicate, Nat.reduceBEq, renA, renL, renM, renO, evx, evs, evp, Eng.look, cst, cst1, putd, dstOk, params, loadx, partx, loI, hiI, bltx, mmI, boxx, srcx, calx, nilx, upd, del, resv, fillA, setMany, Nat.reduceLT, Nat.reduceLeDiff, Nat.reduceEqDiff, Nat.reduceAdd, Nat.reduceMul, Nat.reduceSub, reduceIte, reduceCtorEq, if_true, if_false, ite_true, ite_false, eq_self, forall_const, implies_true, Int.reduceLT, Int.reduceLE, Int.reduceToNat, Int.reduceAdd, Int.reduceSub, Int.reduceNeg, ne_eq, Int.reduceEq, Int.reduceNe, Int.reduceBEq, Int.reduceBNe, beq_self_eq_true, bne_self_eq_false, BitVec.reduceBEq, BitVec.reduceBNe, BitVec.reduceOfInt, BitVec.reduceSetWidth, wrD, engS0, engS1, engS2, engS3, engS4, engS5, engS6, engS7, engS8, engS9, engU0, engT0, engT1, engT2, Fx.t1, Fx.t2, Fx.t3, Fx.t4, Fx.t91, Fx.t92, Fx.t137, Fx.t138, Fx.t139, Fx.en61, w1, g3]
    exact D.fin _
def splS (S : PS) : PS := ⟨S.next + 1, S.q ++ [(S.next : Int)], S.busy, S.ws, S.out⟩
set_option maxHeartbeats 4000000 in
theorem splitT (D : Rdm (fun _ => true) m nx) (hlt : ∀ p ∈ m, p.1 < nx) (P : PoolAt m nx a b c jobs room S Qv Ov qs os born) : CallG false Try.prog 95 [.ptr a 0, .bool true] (fun _ => true) m nx
    (PoolK a b c jobs room (if canS jobs room S = true then splS S else S) (.tup [.int .i64 (if canS jobs room S = true then (S.next : Int) else 0), .bool (canS jobs room S)]) (a :: b :: c :: (qs ++ os)) m nx) := by
  refine fn_okG Try.func95 rfl (by show 2 ≤ _; decide) ?_
  have o := P.o
  have z1 := P.z1
  have z3 := P.z3
  have z4 := P.z4
  have z5 := P.z5
  have DW := D.drawn []
  have f1 : decide (nx ≤ a) = false := decide_eq_false (by have := P.an; omega)
  have w1 : IntKind.i64.wrap ((S.busy.length : Int) + (room : Int)) = (S.busy.length : Int) + (room : Int) := by rw [wrap_i64] <;> omega
  obtain ⟨q1, q2, q3, q4, q5, q6⟩ := P.qu.facts
  have same : ∀ (V : AV), Eng.Fin nx (fun _ => true) m nx (PoolK a b c jobs room S V (a :: b :: c :: (qs ++ os)) m nx) V := fun V => Fin.keepW (m0 := m) (Nat.le_refl _) (memSame_slf D.nd) D.nd D.kp (PoolK.same D hlt P V)
  rcases Nat.lt_or_ge S.next jobs with h1 | h1
  rotate_left
  · have g1 : decide ((S.next : Int) ≥ (jobs : Int)) = true := decide_eq_true (by omega)
    have hc : canS jobs room S = false := by rw [canS, decide_eq_false (by omega)]; rfl
    rw [hc]
    simp (config := { maxSteps := 1000000, implicitDefEqProofs := false }) only [-List.reduceReplicate, Nat.reduceBEq, renA, renL, renM, renO, evx, evs, evp, Eng.look, cst, cst1, putd, dstOk, params, loadx, partx, loI, hiI, bltx, mmI, boxx, srcx, calx, nilx, upd, del, resv, fillA, setMany, Nat.reduceLT, Nat.reduceLeDiff, Nat.reduceEqDiff, Nat.reduceAdd, Nat.reduceMul, Nat.reduceSub, reduceIte, reduceCtorEq, if_true, if_false, ite_true, ite_false, eq_self, forall_const, implies_true, Int.reduceLT, Int.reduceLE, Int.reduceToNat, Int.reduceAdd, Int.reduceSub, Int.reduceNeg, ne_eq, Int.reduceEq, Int.reduceNe, Int.reduceBEq, Int.reduceBNe, beq_self_eq_true, bne_self_eq_false, BitVec.reduceBEq, BitVec.reduceBNe, BitVec.reduceOfInt, BitVec.reduceSetWidth, wrD, engS0, engS1, engS2, engS3, engS4, engS5, engS6, engS7, engS8, engS9, engU0, engT0, engT1, engT2, Fx.t1, Fx.t2, Fx.t3, Fx.t4, Fx.t91, Fx.t92, Fx.t137, Fx.t138, Fx.t139, Fx.en61, Try.results95, Try.ntmps95, o]
    refine ⟨Fx.mixed, .inl ⟨[(0, false), (1, false), (2, false), (3, false), (4, false), (5, false), (6, false), (7, false), (8, false), (9, false), (10, false), (11, false), (12, false), (13, false), (14, false), (15, false), (16, false), (17, false), (18, false), (19, false), (21, false), (22, false), (23, false), (24, false), (25, false), (26, false), (27, false), (28, false), (29, false), (30, false), (20, true), (31, false), (32, false)], [], by kernel_rfl, (fun n hn => by cases hn), ?_⟩⟩
    simp (config := { maxSteps := 1000000, implicitDefEqProofs := false }) only [-List.reduceReplicate, Nat.reduceBEq, renA, renL, renM, renO, evx, evs, evp, Eng.look, cst, cst1, putd, dstOk, params, loadx, partx, loI, hiI, bltx, mmI, boxx, srcx, calx, nilx, upd, del, resv, fillA, setMany, Nat.reduceLT, Nat.reduceLeDiff, Nat.reduceEqDiff, Nat.reduceAdd, Nat.reduceMul, Nat.reduceSub, reduceIte, reduceCtorEq, if_true, if_false, ite_true, ite_false, eq_self, forall_const, implies_true, Int.reduceLT, Int.reduceLE, Int.reduceToNat, Int.reduceAdd, Int.reduceSub, Int.reduceNeg, ne_eq, Int.reduceEq, Int.reduceNe, Int.reduceBEq, Int.reduceBNe, beq_self_eq_true, bne_self_eq_false, BitVec.reduceBEq, BitVec.reduceBNe, BitVec.reduceOfInt, BitVec.reduceSetWidth, wrD, engS0, engS1, engS2, engS3, engS4, engS5, engS6, engS7, engS8, engS9, engU0, engT0, engT1, engT2, Fx.t1, Fx.t2, Fx.t3, Fx.t4, Fx.t91, Fx.t92, Fx.t137, Fx.t138, Fx.t139, Fx.en61, o, f1, g1]
    exact same _
  have g1 : decide ((S.next : Int) ≥ (jobs : Int)) = false := decide_eq_false (by omega)
  rcases Nat.lt_or_ge S.q.length room with h2 | h2
  rotate_left
  · have g2 : decide ((S.q.length : Int) ≥ (room : Int)) = true := decide_eq_true (by omega)
    have hc : canS jobs room S = false := by rw [canS, decide_eq_false (show ¬ S.q.length < room by omega), Bool.and_false]; rfl
    rw [hc]
    simp (config := { maxSteps := 1000000, implicitDefEqProofs := false }) only [-List.reduceReplicate, Nat.reduceBEq, renA, renL, renM, renO, evx, evs, evp, Eng.look, cst, cst1, putd, dstOk, params, loadx, partx, loI, hiI, bltx, mmI, boxx, srcx, calx, nilx, upd, del, resv, fillA, setMany, Nat.reduceLT, Nat.reduceLeDiff, Nat.reduceEqDiff, Nat.reduceAdd, Nat.reduceMul, Nat.reduceSub, reduceIte, reduceCtorEq, if_true, if_false, ite_true, ite_false, eq_self, forall_const, implies_true, Int.reduceLT, Int.reduceLE, Int.reduceToNat, Int.reduceAdd, Int.reduceSub, Int.reduceNeg, ne_eq, Int.reduceEq, Int.reduceNe, Int.reduceBEq, Int.reduceBNe, beq_self_eq_true, bne_self_eq_false, BitVec.reduceBEq, BitVec.reduceBNe, BitVec.reduceOfInt, BitVec.reduceSetWidth, wrD, engS0, engS1, engS2, engS3, engS4, engS5, engS6, engS7, engS8, engS9, engU0, engT0, engT1, engT2, Fx.t1, Fx.t2, Fx.t3, Fx.t4, Fx.t91, Fx.t92, Fx.t137, Fx.t138, Fx.t139, Fx.en61, Try.results95, Try.ntmps95, o]
    refine ⟨Fx.mixed, .inl ⟨[(0, false), (1, false), (2, false), (3, false), (4, false), (5, false), (6, false), (7, false), (8, false), (9, false), (10, false), (11, false), (12, false), (13, false), (14, false), (15, false), (16, false), (17, false), (18, false), (19, false), (21, false), (22, false), (23, false), (24, false), (25, false), (26, false), (27, false), (28, false), (29, false), (30, false), (20, true), (31, false), (32, false)], [], by kernel_rfl, (fun n hn => by cases hn), ?_⟩⟩
    simp (config := { maxSteps := 1000000, implicitDefEqProofs := false }) only [-List.reduceReplicate, Nat.reduceBEq, renA, renL, renM, renO, evx, evs, evp, Eng.look, cst, cst1, putd, dstOk, params, loadx, partx, loI, hiI, bltx, mmI, boxx, srcx, calx, nilx, upd, del, resv, fillA, setMany, Nat.reduceLT, Nat.reduceLeDiff, Nat.reduceEqDiff, Nat.reduceAdd, Nat.reduceMul, Nat.reduceSub, reduceIte, reduceCtorEq, if_true, if_false, ite_true, ite_false, eq_self, forall_const, implies_true, Int.reduceLT, Int.reduceLE, Int.reduceToNat, Int.reduceAdd, Int.reduceSub, Int.reduceNeg, ne_eq, Int.reduceEq, Int.reduceNe, Int.reduceBEq, Int.reduceBNe, beq_self_eq_true, bne_self_eq_false, BitVec.reduceBEq, BitVec.reduceBNe, BitVec.reduceOfInt, BitVec.reduceSetWidth, wrD, engS0, engS1, engS2, engS3, engS4, engS5, engS6, engS7, engS8, engS9, engU0, engT0, engT1, engT2, Fx.t1, Fx.t2, Fx.t3, Fx.t4, Fx.t91, Fx.t92, Fx.t137, Fx.t138, Fx.t139, Fx.en61, o, f1, g1, g2, q1, q2, q3, q4, q5, q6]
    exact same _
  have g2 : decide ((S.q.length : Int) ≥ (room : Int)) = false := decide_eq_false (by omega)
  have hcs : canS jobs room S = decide ((S.next : Int) - S.out ≤ (S.busy.length : Int) + room) := by rw [canS, decide_eq_true h1, decide_eq_true h2]; rfl
  rcases Int.lt_or_le ((S.busy.length : Int) + room) ((S.next : Int) - S.out) with h3 | h3
  · have g3 : decide ((S.next : Int) - S.out > (S.busy.length : Int) + room) = true := decide_eq_true h3
    rw [hcs, decide_eq_false (by omega)]
    simp (config := { maxSteps := 1000000, implicitDefEqProofs := false }) only [-List.reduceReplicate, Nat.reduceBEq, renA, renL, renM, renO, evx, evs, evp, Eng.look, cst, cst1, putd, dstOk, params, loadx, partx, loI, hiI, bltx, mmI, boxx, srcx, calx, nilx, upd, del, resv, fillA, setMany, Nat.reduceLT, Nat.reduceLeDiff, Nat.reduceEqDiff, Nat.reduceAdd, Nat.reduceMul, Nat.reduceSub, reduceIte, reduceCtorEq, if_true, if_false, ite_true, ite_false, eq_self, forall_const, implies_true, Int.reduceLT, Int.reduceLE, Int.reduceToNat, Int.reduceAdd, Int.reduceSub, Int.reduceNeg, ne_eq, Int.reduceEq, Int.reduceNe, Int.reduceBEq, Int.reduceBNe, beq_self_eq_true, bne_self_eq_false, BitVec.reduceBEq, BitVec.reduceBNe, BitVec.reduceOfInt, BitVec.reduceSetWidth, wrD, engS0, engS1, engS2, engS3, engS4, engS5, engS6, engS7, engS8, engS9, engU0, engT0, engT1, engT2, Fx.t1, Fx.t2, Fx.t3, Fx.t4, Fx.t91, Fx.t92, Fx.t137, Fx.t138, Fx.t139, Fx.en61, Try.results95, Try.ntmps95, o]
    refine ⟨Fx.mixed, .inl ⟨[(0, false), (1, false), (2, false), (3, false), (4, false), (5, false), (6, false), (7, false), (8, false), (9, false), (10, false), (11, false), (12, false), (13, false), (14, false), (15, false), (16, false), (17, false), (18, false), (19, false), (21, false), (22, false), (23, false), (24, false), (25, false), (26, false), (27, false), (28, false), (29, false), (30, false), (20, true), (31, false), (32, false)], [], by kernel_rfl, (fun n hn => by cases hn), ?_⟩⟩
    simp (config := { maxSteps := 1000000, implicitDefEqProofs := false }) only [-List.reduceReplicate, Nat.reduceBEq, renA, renL, renM, renO, evx, evs, evp, Eng.look, cst, cst1, putd, dstOk, params, loadx, partx, loI, hiI, bltx, mmI, boxx, srcx, calx, nilx, upd, del, resv, fillA, setMany, Nat.reduceLT, Nat.reduceLeDiff, Nat.reduceEqDiff, Nat.reduceAdd, Nat.reduceMul, Nat.reduceSub, reduceIte, reduceCtorEq, if_true, if_false, ite_true, ite_false, eq_self, forall_const, implies_true, Int.reduceLT, Int.reduceLE, Int.reduceToNat, Int.reduceAdd, Int.reduceSub, Int.reduceNeg, ne_eq, Int.reduceEq, Int.reduceNe, Int.reduceBEq, Int.reduceBNe, beq_self_eq_true, bne_self_eq_false, BitVec.reduceBEq, BitVec.reduceBNe, BitVec.reduceOfInt, BitVec.reduceSetWidth, wrD, engS0, engS1, engS2, engS3, engS4, engS5, engS6, engS7, engS8, engS9, engU0, engT0, engT1, engT2, Fx.t1, Fx.t2, Fx.t3, Fx.t4, Fx.t91, Fx.t92, Fx.t137, Fx.t138, Fx.t139, Fx.en61, o, f1, g1, g2, q1, q2, q3, q4, q5, q6]
    refine (aliveOk DW P).weak ?_
    rintro v m3 nx3 ⟨rfl, rfl, rfl⟩
    simp (config := { maxSteps := 1000000, implicitDefEqProofs := false }) only [-List.reduceReplicate, Nat.reduceBEq, renA, renL, renM, renO, evx, evs, evp, Eng.look, cst, cst1, putd, dstOk, params, loadx, partx, loI, hiI, bltx, mmI, boxx, srcx, calx, nilx, upd, del, resv, fillA, setMany, Nat.reduceLT, Nat.reduceLeDiff, Nat.reduceEqDiff, Nat.reduceAdd, Nat.reduceMul, Nat.reduceSub, reduceIte, reduceCtorEq, if_true, if_false, ite_true, ite_false, eq_self, forall_const, implies_true, Int.reduceLT, Int.reduceLE, Int.reduceToNat, Int.reduceAdd, Int.reduceSub, Int.reduceNeg, ne_eq, Int.reduceEq, Int.reduceNe, Int.reduceBEq, Int.reduceBNe, beq_self_eq_true, bne_self_eq_false, BitVec.reduceBEq, BitVec.reduceBNe, BitVec.reduceOfInt, BitVec.reduceSetWidth, wrD, engS0, engS1, engS2, engS3, engS4, engS5, engS6, engS7, engS8, engS9, engU0, engT0, engT1, engT2, Fx.t1, Fx.t2, Fx.t3, Fx.t4, Fx.t91, Fx.t92, Fx.t137, Fx.t138, Fx.t139, Fx.en61, w1, g3]
    exact same _
  · have g3 : decide ((S.next : Int) - S.out > (S.busy.length : Int) + room) = false := decide_eq_false (by omega)
    rw [hcs, decide_eq_true h3]
    simp (config := { maxSteps := 1000000, implicitDefEqProofs := false }) only [-List.reduceReplicate, Nat.reduceBEq, renA, renL, renM, renO, evx, evs, evp, Eng.look, cst, cst1, putd, dstOk, params, loadx, partx, loI, hiI, bltx, mmI, boxx, srcx, calx, nilx, upd, del, resv, fillA, setMany, Nat.reduceLT, Nat.reduceLeDiff, Nat.reduceEqDiff, Nat.reduceAdd, Nat.reduceMul, Nat.reduceSub, reduceIte, reduceCtorEq, if_true, if_false, ite_true, ite_false, eq_self, forall_const, implies_true, Int.reduceLT, Int.reduceLE, Int.reduceToNat, Int.reduceAdd, Int.reduceSub, Int.reduceNeg, ne_eq, Int.reduceEq, Int.reduceNe, Int.reduceBEq, Int.reduceBNe, beq_self_eq_true, bne_self_eq_false, BitVec.reduceBEq, BitVec.reduceBNe, BitVec.reduceOfInt, BitVec.reduceSetWidth, wrD, engS0, engS1, engS2, engS3, engS4, engS5, engS6, engS7, engS8, engS9, engU0, engT0, engT1, engT2, Fx.t1, Fx.t2, Fx.t3, Fx.t4, Fx.t91, Fx.t92, Fx.t137, Fx.t138, Fx.t139, Fx.en61, Try.results95, Try.ntmps95, o]
    refine ⟨Fx.mixed, .inl ⟨[(0, false), (1, false), (2, false), (3, false), (4, false), (5, false), (6, false), (7, false), (8, false), (9, false), (10, false), (11, false), (12, false), (13, false), (14, false), (15, false), (16, false), (17, false), (18, false), (19, false), (21, false), (22, false), (23, false), (24, false), (25, false), (26, false), (27, false), (28, false), (29, false), (30, false), (20, true), (31, false), (32, false)], [], by kernel_rfl, (fun n hn => by cases hn), ?_⟩⟩
    simp (config := { maxSteps := 1000000, implicitDefEqProofs := false }) only [-List.reduceReplicate, Nat.reduceBEq, renA, renL, renM, renO, evx, evs, evp, Eng.look, cst, cst1, putd, dstOk, params, loadx, partx, loI, hiI, bltx, mmI, boxx, srcx, calx, nilx, upd, del, resv, fillA, setMany, Nat.reduceLT, Nat.reduceLeDiff, Nat.reduceEqDiff, Nat.reduceAdd, Nat.reduceMul, Nat.reduceSub, reduceIte, reduceCtorEq, if_true, if_false, ite_true, ite_false, eq_self, forall_const, implies_true, Int.reduceLT, Int.reduceLE, Int.reduceToNat, Int.reduceAdd, Int.reduceSub, Int.reduceNeg, ne_eq, Int.reduceEq, Int.reduceNe, Int.reduceBEq, Int.reduceBNe, beq_self_eq_true, bne_self_eq_false, BitVec.reduceBEq, BitVec.reduceBNe, BitVec.reduceOfInt, BitVec.reduceSetWidth, wrD, engS0, engS1, engS2, engS3, engS4, engS5, engS6, engS7, engS8, engS9, engU0, engT0, engT1, engT2, Fx.t1, Fx.t2, Fx.t3, Fx.t4, Fx.t91, Fx.t92, Fx.t137, Fx.t138, Fx.t139, Fx.en61, o, f1, g1, g2, q1, q2, q3, q4, q5, q6]
    refine (aliveOk DW P).weak ?_
    rintro v m3 nx3 ⟨rfl, rfl, rfl⟩
    have e1 : (nx3 = a) = False := eq_false (by have := P.an; omega)
    simp (config := { maxSteps := 1000000, implicitDefEqProofs := false }) only [-List.reduceReplicate, Nat.reduceBEq, renA, renL, renM, renO, evx, evs, evp, Eng.look, cst, cst1, putd, dstOk, params, loadx, partx, loI, hiI, bltx, mmI, boxx, srcx, calx, nilx, upd, del, resv, fillA, setMany, Nat.reduceLT, Nat.reduceLeDiff, Nat.reduceEqDiff, Nat.reduceAdd, Nat.reduceMul, Nat.reduceSub, reduceIte, reduceCtorEq, if_true, if_false, ite_true, ite_false, eq_self, forall_const, implies_true, Int.reduceLT, Int.reduceLE, Int.reduceToNat, Int.reduceAdd, Int.reduceSub, Int.reduceNeg, ne_eq, Int.reduceEq, Int.reduceNe, Int.reduceBEq, Int.reduceBNe, beq_self_eq_true, bne_self_eq_false, BitVec.reduceBEq, BitVec.reduceBNe, BitVec.reduceOfInt, BitVec.reduceSetWidth, wrD, engS0, engS1, engS2, engS3, engS4, engS5, engS6, engS7, engS8, engS9, engU0, engT0, engT1, engT2, Fx.t1, Fx.t2, Fx.t3, Fx.t4, Fx.t91, Fx.t92, Fx.t137, Fx.t138, Fx.t139, Fx.en61, w1, g3, o, e1, q1, q2, q3, q4, q5, q6]
    refine ⟨.inr trivial, rfl, rfl, ?_⟩
    rw [zs_one]
    have P1 := P.ext (Nat.le_succ nx3) (cons_keep hlt (.cells ((List.replicate 1 (AV.int .i64 0)).set 0 (.int .i64 (S.next : Int))) 3))
    obtain ⟨n1, n2, n3, n4, n5⟩ := P.ab
    have z6 := P.z6
    refine appk_qu P1.qu (D.cons hlt _) (cons_lt hlt _) (fun _ _ => rfl) (by omega) ?_
    intro v' m' nx' ns' hq' hx hns D' lt' k' kn'
    have na : a ∉ qs := fun h => (n4 a (List.mem_append_left _ h)).1 rfl
    have nb : b ∉ qs := fun h => (n4 b (List.mem_append_left _ h)).2.1 rfl
    have nc : c ∉ qs := fun h => (n4 c (List.mem_append_left _ h)).2.2 rfl
    have o' := k' a _ na P1.o
    obtain ⟨r1, r2, r3, r4, r5, r6⟩ := hq'.facts
    have hu : ∀ X, Eng.look (Eng.upd m' a X) a = some X := fun X => look_upd_same X o'
    have huu : ∀ X Y, Eng.upd (Eng.upd m' a X) a Y = Eng.upd m' a Y := fun X Y => upd_upd m' a X Y
    have w2 : IntKind.i64.wrap ((S.next : Int) + 1) = ((S.next + 1 : Nat) : Int) := by rw [wrap_i64] <;> omega
    simp (config := { maxSteps := 1000000, implicitDefEqProofs := false }) only [-List.reduceReplicate, Nat.reduceBEq, renA, renL, renM, renO, evx, evs, evp, Eng.look, cst, cst1, putd, dstOk, params, loadx, partx, loI, hiI, bltx, mmI, boxx, srcx, calx, nilx, upd, del, resv, fillA, setMany, Nat.reduceLT, Nat.reduceLeDiff, Nat.reduceEqDiff, Nat.reduceAdd, Nat.reduceMul, Nat.reduceSub, reduceIte, reduceCtorEq, if_true, if_false, ite_true, ite_false, eq_self, forall_const, implies_true, Int.reduceLT, Int.reduceLE, Int.reduceToNat, Int.reduceAdd, Int.reduceSub, Int.reduceNeg, ne_eq, Int.reduceEq, Int.reduceNe, Int.reduceBEq, Int.reduceBNe, beq_self_eq_true, bne_self_eq_false, BitVec.reduceBEq, BitVec.reduceBNe, BitVec.reduceOfInt, BitVec.reduceSetWidth, wrD, engS0, engS1, engS2, engS3, engS4, engS5, engS6, engS7, engS8, engS9, engU0, engT0, engT1, engT2, Fx.t1, Fx.t2, Fx.t3, Fx.t4, Fx.t91, Fx.t92, Fx.t137, Fx.t138, Fx.t139, Fx.en61, o', r1, r2, r3, r4, r5, r6, hu, huu, w2]
    have hns' : ∀ k ∈ ns', k ∈ qs ∨ k = nx3 + 1 := fun k hk => by
      rcases hns with rfl | ⟨rfl, _⟩
      · exact .inl hk
      · exact .inr (List.mem_singleton.1 hk)
    have hna : ∀ k ∈ ns', a ≠ k := fun k hk e => by
      rcases hns' k hk with h | h
      · exact na (by rw [e]; exact h)
      · have := P.an; omega
    have oth : ∀ k X, a ≠ k → k ∉ qs → Eng.look m3 k = some X → Eng.look (Eng.upd m' a (.cells [.int .i64 jobs, .int .i64 room, .int .i64 ((S.next + 1 : Nat) : Int), v', .sl b 0 S.busy.length S.busy.length, .map c, Ov] 139)) k = some X := fun k X h1 h2 h3 => by
      rw [look_upd_other _ h1]; exact k' k X h2 (cons_keep hlt _ _ _ h3)
    have DU := D'.upd a (.cells [.int .i64 jobs, .int .i64 room, .int .i64 ((S.next + 1 : Nat) : Int), v', .sl b 0 S.busy.length S.busy.length, .map c, Ov] 139)
    refine Fin.keepW (m0 := Eng.upd m' a (.cells [.int .i64 jobs, .int .i64 room, .int .i64 ((S.next + 1 : Nat) : Int), v', .sl b 0 S.busy.length S.busy.length, .map c, Ov] 139)) (by omega) (memSame_slf DU.nd) DU.nd DU.kp ⟨rfl, by omega, DU, upd_lt lt' a _, ⟨v', Ov, ns', os, born, ⟨look_upd_same _ o', oth b _ n1 nb P.bz, oth c _ n2 nc P.mp, P.bl, hq'.ext fun k hk X hX => by rw [look_upd_other _ (hna k hk)]; exact hX, P.ou.ext fun k hk X hX => oth k X (fun e => (n4 k (List.mem_append_right _ hk)).1 e.symm) (fun h => n5 k h hk) hX, ?_, ?_, by show S.next + 1 ≤ 10000; omega, P.z2, P.z3, P.z4, P.z5, by show (S.q ++ [(S.next : Int)]).length ≤ 10000; rw [List.length_append, List.length_singleton]; omega⟩, fun k hk => ?_⟩, fun k X hk hX => ?_⟩
    · rcases hns with rfl | ⟨rfl, _⟩
      · exact P.nd
      · exact nd_q P.nd (fun k hk => by have := P.lt k hk; omega)
    · intro k hk
      simp only [List.mem_cons, List.mem_append] at hk
      have hl := P.lt
      simp only [List.mem_cons, List.mem_append] at hl
      rcases hk with rfl | rfl | rfl | h | h
      · have := P.an; omega
      · have := hl k (.inr (.inl rfl)); omega
      · have := hl k (.inr (.inr (.inl rfl))); omega
      · rcases hns with rfl | ⟨rfl, hlt2⟩
        · have := hl k (.inr (.inr (.inr (.inl h)))); omega
        · have := List.mem_singleton.1 h; omega
      · have := hl k (.inr (.inr (.inr (.inr h)))); omega
    · simp only [List.mem_cons, List.mem_append] at hk ⊢
      rcases hk with h | h
      · rcases hns' k h with h | h
        · exact .inl (.inr (.inr (.inr (.inl h))))
        · exact .inr (by omega)
      · exact .inl (.inr (.inr (.inr (.inr h))))
    · simp only [List.mem_cons, List.mem_append, not_or] at hk
      exact oth k X (fun e => hk.1 e.symm) hk.2.2.2.1 hX
end
end Go.Proofs.Ytmnbbpckglppjaa
