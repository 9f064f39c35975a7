/- Turns: the program's pool; what it tells. -/
import Derived.Test.YtmnbbpckglppjaaEng19
import Derived.Test.YtmnbbpckglppjaaEng26
import Derived.Test.YtmnbbpckglppjaaPoc
set_option linter.unusedVariables false
set_option linter.unusedSimpArgs false
set_option maxRecDepth 100000
namespace Go.Proofs.Ytmnbbpckglppjaa
open Go Go.Eng

structure PS where
  next : Nat
  q : List Int
  busy : List Int
  ws : List Int
  out : Nat
def rngZ (k : Nat) : List Int := enF (fun _ => true) k
theorem rngZ_succ (k : Nat) : rngZ (k + 1) = rngZ k ++ [(k : Int)] := by rw [rngZ, enF, if_pos rfl]; rfl
theorem rngZ_len : ∀ k, (rngZ k).length = k
  | 0 => rfl
  | k + 1 => by rw [rngZ_succ, List.length_append, rngZ_len k]; rfl
theorem rngZ_get : ∀ (k i : Nat), i < k → (rngZ k).getD i 0 = i
  | 0, _, h => by cases h
  | k + 1, i, h => by
    rw [rngZ_succ, List.getD_eq_getElem?_getD]
    rcases Nat.lt_or_ge i k with hi | hi
    · rw [List.getElem?_append_left (by rw [rngZ_len]; exact hi), ← List.getD_eq_getElem?_getD]
      exact rngZ_get k i hi
    · have : i = k := by omega
      subst this
      rw [List.getElem?_append_right (by rw [rngZ_len]; exact Nat.le_refl _), rngZ_len, Nat.sub_self]; rfl
/-- a row of numbers, that may begin behind its row's begin -/
def QuAt (m : Mem) (v : AV) (L : List Int) (ns : List Nat) : Prop :=
  (v = .nils ∧ L = [] ∧ ns = []) ∨ ∃ (n off cap : Nat) (pre sp : List AV), v = .sl n off L.length cap ∧ ns = [n] ∧ Eng.look m n = some (.cells (pre ++ (zs L ++ sp)) 3) ∧ pre.length = off ∧ L.length ≤ cap ∧ cap ≤ L.length + sp.length ∧ cap ≤ maxI
theorem QuAt.ext {m m' : Mem} {v : AV} {L : List Int} {ns : List Nat} (h : QuAt m v L ns) (hk : ∀ k ∈ ns, ∀ X, Eng.look m k = some X → Eng.look m' k = some X) : QuAt m' v L ns := by
  rcases h with h | ⟨n, off, cap, pre, sp, h1, rfl, h3, h4⟩
  · exact .inl h
  · exact .inr ⟨n, off, cap, pre, sp, h1, rfl, hk n (.head _) _ h3, h4⟩
theorem appk_qu {wr : Nat → Bool} {m : Mem} {nx : Nat} {K : Kv} {v : AV} {L : List Int} {ns : List Nat} {x : Int} (h : QuAt m v L ns) (D : Rdm wr m nx) (hlt : ∀ p ∈ m, p.1 < nx) (hw : ∀ k ∈ ns, wr k = true) (hl : L.length ≤ 100000)
    (hK : ∀ (v' : AV) (m' : Mem) (nx' : Nat) (ns' : List Nat), QuAt m' v' (L ++ [x]) ns' → nx ≤ nx' → (ns' = ns ∨ ns' = [nx] ∧ nx < nx') → Rdm wr m' nx' → (∀ p ∈ m', p.1 < nx') → (∀ k X, k ∉ ns → Eng.look m k = some X → Eng.look m' k = some X) → (∀ k, Eng.look m k ≠ none → Eng.look m' k ≠ none) → K v' m' nx') :
    appk v m nx wr 3 1 8 (1, zs [x]) K := by
  have keepc : ∀ (o : AObj) (k : Nat) (X : AObj), Eng.look m k = some X → Eng.look ((nx, o) :: m) k = some X := fun o k X hk => by
    obtain ⟨y, hy, e⟩ := look_lt hk
    have := hlt y hy
    rw [look_cons, if_neg (by omega)]; exact hk
  have keepn : ∀ (o : AObj) (k : Nat), Eng.look m k ≠ none → Eng.look ((nx, o) :: m) k ≠ none := fun o k hk => by
    cases e : Eng.look m k with
    | none => exact absurd e hk
    | some X => rw [keepc o k X e]; simp
  rcases h with ⟨rfl, rfl, rfl⟩ | ⟨n, off, cap, pre, sp, rfl, rfl, hn, hp, c1, c2, c3⟩
  · refine appk_cells0 (by decide) (by decide) (by decide) fun cap' sp' h1 h2 h3 => ?_
    exact hK _ _ _ [nx] (.inr ⟨nx, 0, cap', [], sp'.map AV.val, rfl, rfl, by rw [look_cons, if_pos rfl]; rfl, rfl, h1, by show cap' ≤ 1 + _; rw [List.length_map, h3]; omega, h2⟩) (Nat.le_succ _) (.inr ⟨rfl, Nat.lt_succ_self _⟩) (D.cons hlt _) (cons_lt hlt _) (fun k X _ => keepc _ k X) (keepn _)
  · simp only [appk]
    refine .inr ⟨hw n (.head _), ?_⟩
    rw [hn]
    refine ⟨rfl, ?_, c3, by omega, by omega, fun hr => ?_, fun hr cap' sp' h1 h2 h3 => ?_⟩
    · rw [List.length_append, List.length_append, zs_len]; omega
    · refine hK _ _ _ [n] (.inr ⟨n, off, cap, pre, sp.drop 1, by rw [List.length_append]; rfl, rfl, ?_, hp, by rw [List.length_append]; exact hr, by rw [List.length_append, List.length_drop, List.length_singleton]; omega, c3⟩) (Nat.le_refl _) (.inl rfl) (D.upd n _) (upd_lt hlt n _) ?_ ?_
      · rw [look_upd_same _ hn]
        have e1 : spl (pre ++ (zs L ++ sp)) (off + L.length * 1) (zs [x]) = pre ++ (zs (L ++ [x]) ++ sp.drop 1) := by
          rw [spl, Nat.mul_one, ← List.append_assoc pre (zs L) sp, List.take_append_of_le_length (by rw [List.length_append, zs_len]; omega), List.take_of_length_le (by rw [List.length_append, zs_len]; omega), show (zs [x]).length = 1 from rfl,
            show off + L.length + 1 = (pre ++ zs L).length + 1 by rw [List.length_append, zs_len]; omega, ← List.drop_drop, List.drop_left, ← zs_app]
          simp only [List.append_assoc]
        rw [e1]
      · intro k X hk hX
        have hne : n ≠ k := fun e => hk (by rw [← e]; exact .head _)
        rw [look_upd_other _ hne]; exact hX
      · intro k hk
        by_cases e : n = k
        · subst e; rw [look_upd_same _ hn]; simp
        · rw [look_upd_other _ e]; exact hk
    · refine hK _ _ _ [nx] (.inr ⟨nx, 0, cap', [], sp'.map AV.val, by rw [List.length_append]; rfl, rfl, ?_, rfl, by rw [List.length_append]; exact h1, by rw [List.length_append, List.length_map, h3, List.length_singleton]; omega, h2⟩) (Nat.le_succ _) (.inr ⟨rfl, Nat.lt_succ_self _⟩) (D.cons hlt _) (cons_lt hlt _) (fun k X _ => keepc _ k X) (keepn _)
      rw [look_cons, if_pos rfl]
      have e1 : List.take (L.length * 1) (List.drop off (pre ++ (zs L ++ sp))) = zs L := by
        rw [← hp, List.drop_left, Nat.mul_one, List.take_append_of_le_length (by rw [zs_len]; exact Nat.le_refl _), List.take_of_length_le (by rw [zs_len]; exact Nat.le_refl _)]
      rw [e1, zs_app, List.nil_append]
/-- the pool -/
structure PoolAt (m : Mem) (nx a b c jobs room : Nat) (S : PS) (Qv Ov : AV) (qs os born : List Nat) : Prop where
  o : Eng.look m a = some (.cells [.int .i64 jobs, .int .i64 room, .int .i64 S.next, Qv, .sl b 0 S.busy.length S.busy.length, .map c, Ov] 139)
  bz : Eng.look m b = some (.cells (zs S.busy) 3)
  mp : Eng.look m c = some (.mx (.i .i64) (S.ws.map (Key.i .i64)) (S.ws.map fun _ => AV.bool true) born)
  bl : born.length = S.ws.length
  qu : QuAt m Qv S.q qs
  ou : QuAt m Ov (rngZ S.out) os
  nd : (a :: b :: c :: (qs ++ os)).Nodup
  lt : ∀ k ∈ a :: b :: c :: (qs ++ os), k < nx
  z1 : S.next ≤ 10000
  z2 : S.out ≤ 10000
  z3 : S.busy.length ≤ 64
  z4 : room ≤ 64
  z5 : jobs ≤ 10000
  z6 : S.q.length ≤ 10000
section
variable {wr : Nat → Bool} {m : Mem} {nx a b c jobs room : Nat} {S : PS} {Qv Ov : AV} {qs os born : List Nat}
theorem PoolAt.an (P : PoolAt m nx a b c jobs room S Qv Ov qs os born) : a < nx := P.lt a (.head _)
theorem aliveOk (D : Rdm wr m nx) (P : PoolAt m nx a b c jobs room S Qv Ov qs os born) : CallG false Try.prog 61 [.ptr a 0] wr m nx (Kr (.int .i64 ((S.next : Int) - S.out)) m nx) := by
  refine fn_okG Try.func61 rfl (by show 1 ≤ _; decide) ?_
  have o := P.o
  have z1 := P.z1
  have z2 := P.z2
  have f1 : decide (nx ≤ a) = false := decide_eq_false (by have := P.an; omega)
  rcases P.ou with ⟨rfl, h0, _⟩ | ⟨n, off, cap, pre, sp, rfl, _, _⟩
  · have h0 : S.out = 0 := by have := congrArg List.length h0; rw [rngZ_len] at this; exact this
    have w1 : IntKind.i64.wrap (S.next : Int) = (S.next : Int) := by rw [wrap_i64] <;> omega
    have w2 : IntKind.i64.wrap ((S.next : Int) - 0) = (S.next : Int) - 0 := by rw [wrap_i64] <;> omega
    rw [h0]
    simp (config := { maxSteps := 1000000, implicitDefEqProofs := false }) only [-List.reduceReplicate, Nat.reduceBEq, renA, renL, renM, renO, evx, evs, evp, Eng.look, cst, cst1, putd, dstOk, params, loadx, partx, loI, hiI, bltx, mmI, boxx, srcx, calx, nilx, upd, del, resv, fillA, setMany, Nat.reduceLT, Nat.reduceLeDiff, Nat.reduceEqDiff, Nat.reduceAdd, Nat.reduceMul, Nat.reduceSub, reduceIte, reduceCtorEq, if_true, if_false, ite_true, ite_false, eq_self, forall_const, implies_true, Int.reduceLT, Int.reduceLE, Int.reduceToNat, Int.reduceAdd, Int.reduceSub, Int.reduceNeg, ne_eq, Int.reduceEq, Int.reduceNe, Int.reduceBEq, Int.reduceBNe, beq_self_eq_true, bne_self_eq_false, BitVec.reduceBEq, BitVec.reduceBNe, BitVec.reduceOfInt, BitVec.reduceSetWidth, wrD, engS0, engS1, engS2, engS3, engS4, engS5, engS6, engS7, engS8, engS9, engU0, engT0, engT1, engT2, Fx.t2, Fx.t3, Fx.t4, Fx.t5, Fx.t6, Fx.t91, Fx.t92, Fx.t137, Fx.t138, Fx.t139, Try.results61, Try.ntmps61]
    refine ⟨Fx.mixed, .inl ⟨[(0, false), (1, false), (2, false), (3, false), (4, false), (5, false), (6, false), (7, false), (8, false), (9, false), (10, false)], [], by kernel_rfl, (fun n hn => by cases hn), ?_⟩⟩
    simp (config := { maxSteps := 1000000, implicitDefEqProofs := false }) only [-List.reduceReplicate, Nat.reduceBEq, renA, renL, renM, renO, evx, evs, evp, Eng.look, cst, cst1, putd, dstOk, params, loadx, partx, loI, hiI, bltx, mmI, boxx, srcx, calx, nilx, upd, del, resv, fillA, setMany, Nat.reduceLT, Nat.reduceLeDiff, Nat.reduceEqDiff, Nat.reduceAdd, Nat.reduceMul, Nat.reduceSub, reduceIte, reduceCtorEq, if_true, if_false, ite_true, ite_false, eq_self, forall_const, implies_true, Int.reduceLT, Int.reduceLE, Int.reduceToNat, Int.reduceAdd, Int.reduceSub, Int.reduceNeg, ne_eq, Int.reduceEq, Int.reduceNe, Int.reduceBEq, Int.reduceBNe, beq_self_eq_true, bne_self_eq_false, BitVec.reduceBEq, BitVec.reduceBNe, BitVec.reduceOfInt, BitVec.reduceSetWidth, wrD, engS0, engS1, engS2, engS3, engS4, engS5, engS6, engS7, engS8, engS9, engU0, engT0, engT1, engT2, Fx.t2, Fx.t3, Fx.t4, Fx.t5, Fx.t6, Fx.t91, Fx.t92, Fx.t137, Fx.t138, Fx.t139, o, f1, w1, w2]
    exact D.fin _
  · have w2 : IntKind.i64.wrap ((S.next : Int) - (S.out : Int)) = (S.next : Int) - S.out := by rw [wrap_i64] <;> omega
    simp (config := { maxSteps := 1000000, implicitDefEqProofs := false }) only [-List.reduceReplicate, Nat.reduceBEq, renA, renL, renM, renO, evx, evs, evp, Eng.look, cst, cst1, putd, dstOk, params, loadx, partx, loI, hiI, bltx, mmI, boxx, srcx, calx, nilx, upd, del, resv, fillA, setMany, Nat.reduceLT, Nat.reduceLeDiff, Nat.reduceEqDiff, Nat.reduceAdd, Nat.reduceMul, Nat.reduceSub, reduceIte, reduceCtorEq, if_true, if_false, ite_true, ite_false, eq_self, forall_const, implies_true, Int.reduceLT, Int.reduceLE, Int.reduceToNat, Int.reduceAdd, Int.reduceSub, Int.reduceNeg, ne_eq, Int.reduceEq, Int.reduceNe, Int.reduceBEq, Int.reduceBNe, beq_self_eq_true, bne_self_eq_false, BitVec.reduceBEq, BitVec.reduceBNe, BitVec.reduceOfInt, BitVec.reduceSetWidth, wrD, engS0, engS1, engS2, engS3, engS4, engS5, engS6, engS7, engS8, engS9, engU0, engT0, engT1, engT2, Fx.t2, Fx.t3, Fx.t4, Fx.t5, Fx.t6, Fx.t91, Fx.t92, Fx.t137, Fx.t138, Fx.t139, Try.results61, Try.ntmps61]
    refine ⟨Fx.mixed, .inl ⟨[(0, false), (1, false), (2, false), (3, false), (4, false), (5, false), (6, false), (7, false), (8, false), (9, false), (10, false)], [], by kernel_rfl, (fun n hn => by cases hn), ?_⟩⟩
    simp (config := { maxSteps := 1000000, implicitDefEqProofs := false }) only [-List.reduceReplicate, Nat.reduceBEq, renA, renL, renM, renO, evx, evs, evp, Eng.look, cst, cst1, putd, dstOk, params, loadx, partx, loI, hiI, bltx, mmI, boxx, srcx, calx, nilx, upd, del, resv, fillA, setMany, Nat.reduceLT, Nat.reduceLeDiff, Nat.reduceEqDiff, Nat.reduceAdd, Nat.reduceMul, Nat.reduceSub, reduceIte, reduceCtorEq, if_true, if_false, ite_true, ite_false, eq_self, forall_const, implies_true, Int.reduceLT, Int.reduceLE, Int.reduceToNat, Int.reduceAdd, Int.reduceSub, Int.reduceNeg, ne_eq, Int.reduceEq, Int.reduceNe, Int.reduceBEq, Int.reduceBNe, beq_self_eq_true, bne_self_eq_false, BitVec.reduceBEq, BitVec.reduceBNe, BitVec.reduceOfInt, BitVec.reduceSetWidth, wrD, engS0, engS1, engS2, engS3, engS4, engS5, engS6, engS7, engS8, engS9, engU0, engT0, engT1, engT2, Fx.t2, Fx.t3, Fx.t4, Fx.t5, Fx.t6, Fx.t91, Fx.t92, Fx.t137, Fx.t138, Fx.t139, o, f1, rngZ_len, w2]
    exact D.fin _
theorem mxT137 : mxT Try.prog 137 = some (.i .i64, 4) := by kernel_rfl
theorem waitingOk (D : Rdm wr m nx) (P : PoolAt m nx a b c jobs room S Qv Ov qs os born) : CallG false Try.prog 63 [.ptr a 0] wr m nx (Kr (.int .i64 (S.ws.length : Nat)) m nx) := by
  refine fn_okG Try.func63 rfl (by show 1 ≤ _; decide) ?_
  have o := P.o
  have mp := P.mp
  simp (config := { maxSteps := 1000000, implicitDefEqProofs := false }) only [-List.reduceReplicate, Nat.reduceBEq, renA, renL, renM, renO, evx, evs, evp, Eng.look, cst, cst1, putd, dstOk, params, loadx, partx, loI, hiI, bltx, mmI, boxx, srcx, calx, nilx, upd, del, resv, fillA, setMany, Nat.reduceLT, Nat.reduceLeDiff, Nat.reduceEqDiff, Nat.reduceAdd, Nat.reduceMul, Nat.reduceSub, reduceIte, reduceCtorEq, if_true, if_false, ite_true, ite_false, eq_self, forall_const, implies_true, Int.reduceLT, Int.reduceLE, Int.reduceToNat, Int.reduceAdd, Int.reduceSub, Int.reduceNeg, ne_eq, Int.reduceEq, Int.reduceNe, Int.reduceBEq, Int.reduceBNe, beq_self_eq_true, bne_self_eq_false, BitVec.reduceBEq, BitVec.reduceBNe, BitVec.reduceOfInt, BitVec.reduceSetWidth, wrD, engS0, engS1, engS2, engS3, engS4, engS5, engS6, engS7, engS8, engS9, engU0, engT0, engT1, engT2, Fx.t3, Fx.t4, Fx.t5, Fx.t91, Fx.t92, Fx.t137, Fx.t138, Fx.t139, Try.results63, Try.ntmps63, o, mp, mxT137]
  exact D.fin _
theorem doneOk (D : Rdm wr m nx) (P : PoolAt m nx a b c jobs room S Qv Ov qs os born) : CallG false Try.prog 66 [.ptr a 0] wr m nx (Kr (.bool (decide (S.out = jobs))) m nx) := by
  refine fn_okG Try.func66 rfl (by show 1 ≤ _; decide) ?_
  have o := P.o
  have f1 : decide (nx ≤ a) = false := decide_eq_false (by have := P.an; omega)
  have hb : ((S.out : Int) == (jobs : Int)) = decide (S.out = jobs) := by
    by_cases h : S.out = jobs
    · rw [decide_eq_true h, h]; exact beq_self_eq_true _
    · rw [decide_eq_false h]; simp; omega
  rcases P.ou with ⟨rfl, h0, _⟩ | ⟨n, off, cap, pre, sp, rfl, _, _⟩
  · have h0 : S.out = 0 := by have := congrArg List.length h0; rw [rngZ_len] at this; exact this
    have hb' : ((0 : Int) == (jobs : Int)) = decide (S.out = jobs) := by rw [← hb, h0]; rfl
    simp (config := { maxSteps := 1000000, implicitDefEqProofs := false }) only [-List.reduceReplicate, Nat.reduceBEq, renA, renL, renM, renO, evx, evs, evp, Eng.look, cst, cst1, putd, dstOk, params, loadx, partx, loI, hiI, bltx, mmI, boxx, srcx, calx, nilx, upd, del, resv, fillA, setMany, Nat.reduceLT, Nat.reduceLeDiff, Nat.reduceEqDiff, Nat.reduceAdd, Nat.reduceMul, Nat.reduceSub, reduceIte, reduceCtorEq, if_true, if_false, ite_true, ite_false, eq_self, forall_const, implies_true, Int.reduceLT, Int.reduceLE, Int.reduceToNat, Int.reduceAdd, Int.reduceSub, Int.reduceNeg, ne_eq, Int.reduceEq, Int.reduceNe, Int.reduceBEq, Int.reduceBNe, beq_self_eq_true, bne_self_eq_false, BitVec.reduceBEq, BitVec.reduceBNe, BitVec.reduceOfInt, BitVec.reduceSetWidth, wrD, engS0, engS1, engS2, engS3, engS4, engS5, engS6, engS7, engS8, engS9, engU0, engT0, engT1, engT2, Fx.t3, Fx.t4, Fx.t5, Fx.t6, Fx.t91, Fx.t92, Fx.t137, Fx.t138, Fx.t139, Try.results66, Try.ntmps66]
    refine ⟨Fx.mixed, .inl ⟨[(0, false), (1, false), (2, false), (3, false), (4, false), (5, false), (6, false), (7, false), (8, false), (9, false), (10, false), (11, false), (12, false), (13, false), (14, false)], [], by kernel_rfl, (fun n hn => by cases hn), ?_⟩⟩
    simp (config := { maxSteps := 1000000, implicitDefEqProofs := false }) only [-List.reduceReplicate, Nat.reduceBEq, renA, renL, renM, renO, evx, evs, evp, Eng.look, cst, cst1, putd, dstOk, params, loadx, partx, loI, hiI, bltx, mmI, boxx, srcx, calx, nilx, upd, del, resv, fillA, setMany, Nat.reduceLT, Nat.reduceLeDiff, Nat.reduceEqDiff, Nat.reduceAdd, Nat.reduceMul, Nat.reduceSub, reduceIte, reduceCtorEq, if_true, if_false, ite_true, ite_false, eq_self, forall_const, implies_true, Int.reduceLT, Int.reduceLE, Int.reduceToNat, Int.reduceAdd, Int.reduceSub, Int.reduceNeg, ne_eq, Int.reduceEq, Int.reduceNe, Int.reduceBEq, Int.reduceBNe, beq_self_eq_true, bne_self_eq_false, BitVec.reduceBEq, BitVec.reduceBNe, BitVec.reduceOfInt, BitVec.reduceSetWidth, wrD, engS0, engS1, engS2, engS3, engS4, engS5, engS6, engS7, engS8, engS9, engU0, engT0, engT1, engT2, Fx.t3, Fx.t4, Fx.t5, Fx.t6, Fx.t91, Fx.t92, Fx.t137, Fx.t138, Fx.t139, o, f1, hb']
    exact D.fin _
  · simp (config := { maxSteps := 1000000, implicitDefEqProofs := false }) only [-List.reduceReplicate, Nat.reduceBEq, renA, renL, renM, renO, evx, evs, evp, Eng.look, cst, cst1, putd, dstOk, params, loadx, partx, loI, hiI, bltx, mmI, boxx, srcx, calx, nilx, upd, del, resv, fillA, setMany, Nat.reduceLT, Nat.reduceLeDiff, Nat.reduceEqDiff, Nat.reduceAdd, Nat.reduceMul, Nat.reduceSub, reduceIte, reduceCtorEq, if_true, if_false, ite_true, ite_false, eq_self, forall_const, implies_true, Int.reduceLT, Int.reduceLE, Int.reduceToNat, Int.reduceAdd, Int.reduceSub, Int.reduceNeg, ne_eq, Int.reduceEq, Int.reduceNe, Int.reduceBEq, Int.reduceBNe, beq_self_eq_true, bne_self_eq_false, BitVec.reduceBEq, BitVec.reduceBNe, BitVec.reduceOfInt, BitVec.reduceSetWidth, wrD, engS0, engS1, engS2, engS3, engS4, engS5, engS6, engS7, engS8, engS9, engU0, engT0, engT1, engT2, Fx.t3, Fx.t4, Fx.t5, Fx.t6, Fx.t91, Fx.t92, Fx.t137, Fx.t138, Fx.t139, Try.results66, Try.ntmps66]
    refine ⟨Fx.mixed, .inl ⟨[(0, false), (1, false), (2, false), (3, false), (4, false), (5, false), (6, false), (7, false), (8, false), (9, false), (10, false), (11, false), (12, false), (13, false), (14, false)], [], by kernel_rfl, (fun n hn => by cases hn), ?_⟩⟩
    simp (config := { maxSteps := 1000000, implicitDefEqProofs := false }) only [-List.reduceReplicate, Nat.reduceBEq, renA, renL, renM, renO, evx, evs, evp, Eng.look, cst, cst1, putd, dstOk, params, loadx, partx, loI, hiI, bltx, mmI, boxx, srcx, calx, nilx, upd, del, resv, fillA, setMany, Nat.reduceLT, Nat.reduceLeDiff, Nat.reduceEqDiff, Nat.reduceAdd, Nat.reduceMul, Nat.reduceSub, reduceIte, reduceCtorEq, if_true, if_false, ite_true, ite_false, eq_self, forall_const, implies_true, Int.reduceLT, Int.reduceLE, Int.reduceToNat, Int.reduceAdd, Int.reduceSub, Int.reduceNeg, ne_eq, Int.reduceEq, Int.reduceNe, Int.reduceBEq, Int.reduceBNe, beq_self_eq_true, bne_self_eq_false, BitVec.reduceBEq, BitVec.reduceBNe, BitVec.reduceOfInt, BitVec.reduceSetWidth, wrD, engS0, engS1, engS2, engS3, engS4, engS5, engS6, engS7, engS8, engS9, engU0, engT0, engT1, engT2, Fx.t3, Fx.t4, Fx.t5, Fx.t6, Fx.t91, Fx.t92, Fx.t137, Fx.t138, Fx.t139, o, f1, rngZ_len, hb]
    exact D.fin _
end
end Go.Proofs.Ytmnbbpckglppjaa
