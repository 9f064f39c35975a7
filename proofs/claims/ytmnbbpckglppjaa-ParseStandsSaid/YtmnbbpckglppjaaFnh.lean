/- Finding: New, wherever it is called. -/
import Derived.Test.YtmnbbpckglppjaaEng19
import Derived.Test.YtmnbbpckglppjaaEng26
import Derived.Test.YtmnbbpckglppjaaFng
set_option linter.unusedVariables false
set_option linter.unusedSimpArgs false
set_option maxRecDepth 100000
namespace Go.Eng
open Go
theorem look_lt {m : Mem} {n : Nat} {o : AObj} (h : look m n = some o) : ∃ p ∈ m, p.1 = n := by
  induction m with
  | nil => cases h
  | cons p r ih =>
    obtain ⟨k, x⟩ := p
    rw [look_cons] at h
    split at h
    · rename_i e; exact ⟨(k, x), .head _, e⟩
    · obtain ⟨q, hq, e⟩ := ih h; exact ⟨q, .tail _ hq, e⟩
theorem look_ren_low (m m0 : Mem) (k n : Nat) (h : n < k) : look (renM (fun n => n + k) m ++ m0) n = look m0 n := by
  rw [look_app]
  cases he : look (renM (fun n => n + k) m) n with
  | none => rfl
  | some o =>
    obtain ⟨j, rfl⟩ := look_renM_some he
    omega
theorem look_ren_hi (m m0 : Mem) (k n : Nat) (h0 : ∀ p ∈ m0, p.1 < k) : look (renM (fun n => n + k) m ++ m0) (n + k) = (look m n).map (renO fun n => n + k) := by
  rw [look_app, look_renM (f := fun n => n + k) (fun a b e => by omega)]
  cases he : look m n with
  | some o => rfl
  | none =>
    show look m0 (n + k) = none
    cases h2 : look m0 (n + k) with
    | none => rfl
    | some o =>
      obtain ⟨p, hp, e⟩ := look_lt h2
      have := h0 p hp
      omega
theorem renM_names (f : Nat → Nat) (m : Mem) : (renM f m).map (fun p => p.1) = (m.map fun p => p.1).map f := by
  induction m with
  | nil => rfl
  | cons p r ih => obtain ⟨k, x⟩ := p; simp only [renM, List.map_cons, ih]
theorem ren_nodup {m m0 : Mem} {k : Nat} (h : (m.map fun p => p.1).Nodup) (h0 : (m0.map fun p => p.1).Nodup) (hk : ∀ p ∈ m0, p.1 < k) : ((renM (fun n => n + k) m ++ m0).map fun p => p.1).Nodup := by
  rw [List.map_append, renM_names]
  refine List.nodup_append.2 ⟨List.Pairwise.map _ (fun a b hab => by show a + k ≠ b + k; omega) h, h0, fun a ha b hb => ?_⟩
  obtain ⟨c, _, rfl⟩ := List.mem_map.1 ha
  obtain ⟨p, hp, rfl⟩ := List.mem_map.1 hb
  have := hk p hp
  show c + k ≠ p.1
  omega
theorem ren_lt {m m0 : Mem} {k nx : Nat} (h : ∀ p ∈ m, p.1 < nx) (hk : ∀ p ∈ m0, p.1 < k) : ∀ p ∈ renM (fun n => n + k) m ++ m0, p.1 < k + nx := fun p hp => by
  rcases List.mem_append.1 hp with hp | hp
  · have : p.1 ∈ (renM (fun n => n + k) m).map (fun p => p.1) := List.mem_map_of_mem hp
    rw [renM_names] at this
    obtain ⟨c, hc, e⟩ := List.mem_map.1 this
    obtain ⟨q, hq, rfl⟩ := List.mem_map.1 hc
    have := h q hq
    have e : q.1 + k = p.1 := e
    omega
  · have := hk p hp; omega
end Go.Eng
namespace Go.Proofs.Ytmnbbpckglppjaa
open Go Go.Eng

theorem FinderM.ren {m m0 : Mem} {nx a k : Nat} {d : List (BitVec 8)} {dict nice : Int} (h : FinderM m nx a d dict nice) (h0 : ∀ p ∈ m0, p.1 < k) : FinderM (renM (fun n => n + k) m ++ m0) (k + nx) (a + k) d dict nice := by
  obtain ⟨b, c, cap, sp, keys, vals, born, F, hc⟩ := h
  refine ⟨b + k, c + k, cap, sp, keys, renL (fun n => n + k) vals, born, ⟨?_, ?_, ?_, by have := F.an; omega, by have := F.bn; omega, by have := F.cn; omega, F.cl, fun x y => ?_⟩, hc⟩
  · rw [look_ren_hi _ _ _ _ h0, F.o]; rfl
  · rw [look_ren_hi _ _ _ _ h0, F.r, Option.map_some, rowO_ren]
  · rw [look_ren_hi _ _ _ _ h0, F.p]; rfl
  · have hq := F.q x y
    have hl : ∀ (l : List AV) (i : Nat), (renL (fun n => n + k) l)[i]? = (l[i]?).map (renA fun n => n + k) := fun l => by
      induction l with
      | nil => intro i; rfl
      | cons v r ih =>
        intro i
        cases i with
        | zero => rfl
        | succ i => simp only [renL, List.getElem?_cons_succ, ih]
    unfold xget at hq ⊢
    rw [hl]
    cases hv : vals[xidx (.b x y) keys]? with
    | none => rw [hv] at hq; exact hq
    | some v =>
      rw [hv] at hq
      obtain ⟨n, cp, s, rfl, hn, c1, c2, c3⟩ := hq
      refine ⟨n + k, cp, s, rfl, ?_, c1, c2, by omega⟩
      rw [look_ren_hi _ _ _ _ h0, hn, Option.map_some, renO, renL_append, bvs_ren, renL_vals]
/-- a call of New -/
theorem callNew {fz : Bool} {wr : Nat → Bool} {m : Mem} {nx : Nat} {K : Kv} {args : List AV} {d : List (BitVec 8)} {dict nice : Int} (hl : d.length ≤ 100000) (ha : argsx m [] (rf [] nx 0) args [.ro d.length (bvs .u8 d), .int .i64 dict, .int .i64 nice])
    (hnd : (m.map fun p => p.1).Nodup) (hlt : ∀ p ∈ m, p.1 < nx) (hbad : (dict < 1 ∨ nice < 2 ∨ 273 < nice) → K (.tup [.nilp, .int .i64 1]) m nx)
    (hok : ¬(dict < 1 ∨ nice < 2 ∨ 273 < nice) → ∀ (a : Nat) (m' : Mem) (nx' : Nat), FinderM m' nx' a d dict nice → (m'.map fun p => p.1).Nodup → (∀ p ∈ m', p.1 < nx') → nx ≤ nx' → (∀ k, k < nx → Eng.look m' k = Eng.look m k) → K (.tup [.ptr a 0, .int .i64 0]) m' nx') :
    CallG fz Try.prog 20 args wr m nx K := by
  refine CallOk.more (CallG.any (newFOk d dict nice hl)) ha ?_
  intro v m' nx' hR
  by_cases h : dict < 1 ∨ nice < 2 ∨ 273 < nice
  · rw [NewF, if_pos h] at hR
    obtain ⟨rfl, rfl, rfl⟩ := hR
    exact ⟨rfl, rfl, hbad h⟩
  · rw [NewF, if_neg h] at hR
    obtain ⟨a, rfl, F, h1, h2, h3⟩ := hR
    refine ⟨rfl, h2, ?_⟩
    exact hok h (a + nx) _ _ (F.ren hlt) (ren_nodup h1 hnd hlt) (ren_lt h3 hlt) (Nat.le_add_right _ _) (fun k hk => look_ren_low _ _ _ _ hk)
theorem rdmT {m : Mem} {nx : Nat} (h : (m.map fun p => p.1).Nodup) : Rdm (fun _ => true) m nx := ⟨h, (fun n e => by cases e), fun _ _ => rfl⟩
theorem Fin.anyv {m : Mem} {nx : Nat} {V : AV} (hf : ∀ f, renA f V = V) : Eng.Fin 0 (fun _ => true) m nx (fun v m nx => v = V ∧ m = [] ∧ nx = 0) V := Fin.flatv (fun _ => rfl) hf ⟨rfl, rfl, rfl⟩
theorem bestNil (p M : Int) : CallG false Try.prog 21 [.nilp, .int .i64 p, .int .i64 M] (fun _ => true) [] 0 fun v m nx => v = .tup [.int .i64 0, .int .i64 0] ∧ m = [] ∧ nx = 0 := by
  refine fn_okG Try.func21 rfl (by show 3 ≤ _; decide) ?_
  simp (config := { maxSteps := 1000000, implicitDefEqProofs := false }) only [-List.reduceReplicate, Nat.reduceBEq, renA, renL, renM, renO, evx, evs, evp, Eng.look, cst, cst1, putd, dstOk, params, loadx, partx, loI, hiI, bltx, mmI, boxx, srcx, calx, nilx, upd, del, resv, fillA, setMany, Nat.reduceLT, Nat.reduceLeDiff, Nat.reduceEqDiff, Nat.reduceAdd, Nat.reduceMul, Nat.reduceSub, reduceIte, reduceCtorEq, if_true, if_false, ite_true, ite_false, eq_self, forall_const, implies_true, Int.reduceLT, Int.reduceLE, Int.reduceToNat, Int.reduceAdd, Int.reduceSub, Int.reduceNeg, ne_eq, Int.reduceEq, Int.reduceNe, Int.reduceBEq, Int.reduceBNe, beq_self_eq_true, bne_self_eq_false, BitVec.reduceBEq, BitVec.reduceBNe, BitVec.reduceOfInt, BitVec.reduceSetWidth, wrD, engS0, engS1, engS2, engS3, engS4, engS5, engS6, engS7, engS8, engS9, engU0, engT0, engT1, engT2, Fx.t1, Fx.t2, Fx.t3, Fx.t4, Fx.t5, Fx.t23, Fx.t35, Fx.t91, Fx.t109, Fx.t110, Fx.t111, Fx.t112, Fx.t113, Fx.en68, Fx.en69, Fx.en70, Try.results21, Try.ntmps21]
  exact Fin.anyv (fun _ => rfl)
set_option maxHeartbeats 2000000 in
theorem knows09 : CallG false Try.prog 19 [] (fun _ => true) [] 0 fun v m nx => v = .bool true ∧ m = [] ∧ nx = 0 := by
  refine fn_okG Try.func19 rfl (Nat.zero_le _) ?_
  simp (config := { maxSteps := 1000000, implicitDefEqProofs := false }) only [-List.reduceReplicate, Nat.reduceBEq, renA, renL, renM, renO, evx, evs, evp, Eng.look, cst, cst1, putd, dstOk, params, loadx, partx, loI, hiI, bltx, mmI, boxx, srcx, calx, nilx, upd, del, resv, fillA, setMany, Nat.reduceLT, Nat.reduceLeDiff, Nat.reduceEqDiff, Nat.reduceAdd, Nat.reduceMul, Nat.reduceSub, reduceIte, reduceCtorEq, if_true, if_false, ite_true, ite_false, eq_self, forall_const, implies_true, Int.reduceLT, Int.reduceLE, Int.reduceToNat, Int.reduceAdd, Int.reduceSub, Int.reduceNeg, ne_eq, Int.reduceEq, Int.reduceNe, Int.reduceBEq, Int.reduceBNe, beq_self_eq_true, bne_self_eq_false, BitVec.reduceBEq, BitVec.reduceBNe, BitVec.reduceOfInt, BitVec.reduceSetWidth, wrD, engS0, engS1, engS2, engS3, engS4, engS5, engS6, engS7, engS8, engS9, engU0, engT0, engT1, engT2, Fx.t1, Fx.t3, Fx.t4, Fx.t5, Fx.t23, Fx.t25, Fx.t35, Fx.t91, Fx.t109, Fx.t110, Fx.t111, Fx.t112, Fx.t113, Fx.en20, Fx.en21, Fx.en23, Try.results19, Try.ntmps19]
  refine ⟨.inr trivial, ?_⟩
  refine callNew (d := [97#8, 98#8, 99#8, 97#8, 98#8, 99#8, 97#8, 98#8, 100#8]) (by decide) ⟨⟨rfl, rfl, rfl, (fun h => by cases h), by decide, rfl⟩, rfl, rfl, trivial⟩ (by simp) (by simp) (fun h => by omega) ?_
  intro _ a m nx F h1 h2 h3 _
  simp (config := { maxSteps := 1000000, implicitDefEqProofs := false }) only [-List.reduceReplicate, Nat.reduceBEq, renA, renL, renM, renO, evx, evs, evp, Eng.look, cst, cst1, putd, dstOk, params, loadx, partx, loI, hiI, bltx, mmI, boxx, srcx, calx, nilx, upd, del, resv, fillA, setMany, Nat.reduceLT, Nat.reduceLeDiff, Nat.reduceEqDiff, Nat.reduceAdd, Nat.reduceMul, Nat.reduceSub, reduceIte, reduceCtorEq, if_true, if_false, ite_true, ite_false, eq_self, forall_const, implies_true, Int.reduceLT, Int.reduceLE, Int.reduceToNat, Int.reduceAdd, Int.reduceSub, Int.reduceNeg, ne_eq, Int.reduceEq, Int.reduceNe, Int.reduceBEq, Int.reduceBNe, beq_self_eq_true, bne_self_eq_false, BitVec.reduceBEq, BitVec.reduceBNe, BitVec.reduceOfInt, BitVec.reduceSetWidth, wrD, engS0, engS1, engS2, engS3, engS4, engS5, engS6, engS7, engS8, engS9, engU0, engT0, engT1, engT2, Fx.t1, Fx.t3, Fx.t4, Fx.t5, Fx.t23, Fx.t25, Fx.t35, Fx.t91, Fx.t109, Fx.t110, Fx.t111, Fx.t112, Fx.t113, Fx.en20, Fx.en21, Fx.en23]
  refine callNew (d := []) (by decide) ⟨⟨rfl, rfl⟩, rfl, rfl, trivial⟩ h1 h2 ?_ (fun h => by omega)
  intro _
  obtain ⟨b, c, cap, sp, keys, vals, born, F, hc⟩ := F
  simp (config := { maxSteps := 1000000, implicitDefEqProofs := false }) only [-List.reduceReplicate, Nat.reduceBEq, renA, renL, renM, renO, evx, evs, evp, Eng.look, cst, cst1, putd, dstOk, params, loadx, partx, loI, hiI, bltx, mmI, boxx, srcx, calx, nilx, upd, del, resv, fillA, setMany, Nat.reduceLT, Nat.reduceLeDiff, Nat.reduceEqDiff, Nat.reduceAdd, Nat.reduceMul, Nat.reduceSub, reduceIte, reduceCtorEq, if_true, if_false, ite_true, ite_false, eq_self, forall_const, implies_true, Int.reduceLT, Int.reduceLE, Int.reduceToNat, Int.reduceAdd, Int.reduceSub, Int.reduceNeg, ne_eq, Int.reduceEq, Int.reduceNe, Int.reduceBEq, Int.reduceBNe, beq_self_eq_true, bne_self_eq_false, BitVec.reduceBEq, BitVec.reduceBNe, BitVec.reduceOfInt, BitVec.reduceSetWidth, wrD, engS0, engS1, engS2, engS3, engS4, engS5, engS6, engS7, engS8, engS9, engU0, engT0, engT1, engT2, Fx.t1, Fx.t3, Fx.t4, Fx.t5, Fx.t23, Fx.t25, Fx.t35, Fx.t91, Fx.t109, Fx.t110, Fx.t111, Fx.t112, Fx.t113, Fx.en20, Fx.en21, Fx.en23]
  refine (bestOk (rdmT h1) F 3 99 (by decide) (by decide) hc).weak ?_
  rintro v m' nx' ⟨rfl, rfl, rfl⟩
  have hB : BestP [97#8, 98#8, 99#8, 97#8, 98#8, 99#8, 97#8, 98#8, 100#8] 9 273 3 99 = (5, 3) := by kernel_rfl
  simp (config := { maxSteps := 1000000, implicitDefEqProofs := false }) only [-List.reduceReplicate, Nat.reduceBEq, renA, renL, renM, renO, evx, evs, evp, Eng.look, cst, cst1, putd, dstOk, params, loadx, partx, loI, hiI, bltx, mmI, boxx, srcx, calx, nilx, upd, del, resv, fillA, setMany, Nat.reduceLT, Nat.reduceLeDiff, Nat.reduceEqDiff, Nat.reduceAdd, Nat.reduceMul, Nat.reduceSub, reduceIte, reduceCtorEq, if_true, if_false, ite_true, ite_false, eq_self, forall_const, implies_true, Int.reduceLT, Int.reduceLE, Int.reduceToNat, Int.reduceAdd, Int.reduceSub, Int.reduceNeg, ne_eq, Int.reduceEq, Int.reduceNe, Int.reduceBEq, Int.reduceBNe, beq_self_eq_true, bne_self_eq_false, BitVec.reduceBEq, BitVec.reduceBNe, BitVec.reduceOfInt, BitVec.reduceSetWidth, wrD, engS0, engS1, engS2, engS3, engS4, engS5, engS6, engS7, engS8, engS9, engU0, engT0, engT1, engT2, Fx.t1, Fx.t3, Fx.t4, Fx.t5, Fx.t23, Fx.t25, Fx.t35, Fx.t91, Fx.t109, Fx.t110, Fx.t111, Fx.t112, Fx.t113, Fx.en20, Fx.en21, Fx.en23, BestV, hB]
  refine (bestNil 0 9).flat0 ⟨rfl, rfl, rfl, trivial⟩ (fun _ => rfl) rfl ?_
  have hL : LikeV [97#8, 98#8, 99#8, 97#8, 98#8, 99#8, 97#8, 98#8, 100#8] 9 6 3 99 = 2 := by kernel_rfl
  simp (config := { maxSteps := 1000000, implicitDefEqProofs := false }) only [-List.reduceReplicate, Nat.reduceBEq, renA, renL, renM, renO, evx, evs, evp, Eng.look, cst, cst1, putd, dstOk, params, loadx, partx, loI, hiI, bltx, mmI, boxx, srcx, calx, nilx, upd, del, resv, fillA, setMany, Nat.reduceLT, Nat.reduceLeDiff, Nat.reduceEqDiff, Nat.reduceAdd, Nat.reduceMul, Nat.reduceSub, reduceIte, reduceCtorEq, if_true, if_false, ite_true, ite_false, eq_self, forall_const, implies_true, Int.reduceLT, Int.reduceLE, Int.reduceToNat, Int.reduceAdd, Int.reduceSub, Int.reduceNeg, ne_eq, Int.reduceEq, Int.reduceNe, Int.reduceBEq, Int.reduceBNe, beq_self_eq_true, bne_self_eq_false, BitVec.reduceBEq, BitVec.reduceBNe, BitVec.reduceOfInt, BitVec.reduceSetWidth, wrD, engS0, engS1, engS2, engS3, engS4, engS5, engS6, engS7, engS8, engS9, engU0, engT0, engT1, engT2, Fx.t1, Fx.t3, Fx.t4, Fx.t5, Fx.t23, Fx.t25, Fx.t35, Fx.t91, Fx.t109, Fx.t110, Fx.t111, Fx.t112, Fx.t113, Fx.en20, Fx.en21, Fx.en23, beq_self_eq_true]
  refine (LikeOk (rdmT h1) F.o F.r F.an F.bn 6 3 99 (by decide)).weak ?_
  rintro v m' nx' ⟨rfl, rfl, rfl⟩
  rw [hL]
  simp (config := { maxSteps := 1000000, implicitDefEqProofs := false }) only [-List.reduceReplicate, Nat.reduceBEq, renA, renL, renM, renO, evx, evs, evp, Eng.look, cst, cst1, putd, dstOk, params, loadx, partx, loI, hiI, bltx, mmI, boxx, srcx, calx, nilx, upd, del, resv, fillA, setMany, Nat.reduceLT, Nat.reduceLeDiff, Nat.reduceEqDiff, Nat.reduceAdd, Nat.reduceMul, Nat.reduceSub, reduceIte, reduceCtorEq, if_true, if_false, ite_true, ite_false, eq_self, forall_const, implies_true, Int.reduceLT, Int.reduceLE, Int.reduceToNat, Int.reduceAdd, Int.reduceSub, Int.reduceNeg, ne_eq, Int.reduceEq, Int.reduceNe, Int.reduceBEq, Int.reduceBNe, beq_self_eq_true, bne_self_eq_false, BitVec.reduceBEq, BitVec.reduceBNe, BitVec.reduceOfInt, BitVec.reduceSetWidth, wrD, engS0, engS1, engS2, engS3, engS4, engS5, engS6, engS7, engS8, engS9, engU0, engT0, engT1, engT2, Fx.t1, Fx.t3, Fx.t4, Fx.t5, Fx.t23, Fx.t25, Fx.t35, Fx.t91, Fx.t109, Fx.t110, Fx.t111, Fx.t112, Fx.t113, Fx.en20, Fx.en21, Fx.en23, beq_self_eq_true]
  exact Fin.anyv (fun _ => rfl)
theorem kn09 {fz : Bool} {wr : Nat → Bool} {m : Mem} {nx : Nat} {K : Kv} (h : K (.bool true) m nx) : CallG fz Try.prog 19 [] wr m nx K := knows09.flat0 trivial (fun _ => rfl) rfl h
end Go.Proofs.Ytmnbbpckglppjaa
