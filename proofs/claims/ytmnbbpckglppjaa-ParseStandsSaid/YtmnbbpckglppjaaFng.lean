/- Finding: New. -/
import Derived.Test.YtmnbbpckglppjaaEng19
import Derived.Test.YtmnbbpckglppjaaEng26
import Derived.Test.YtmnbbpckglppjaaFnf
set_option linter.unusedVariables false
set_option linter.unusedSimpArgs false
set_option maxRecDepth 100000
namespace Go.Proofs.Ytmnbbpckglppjaa
open Go Go.Eng

/-- a finder's memory, as New lays it -/
def FM (d : List (BitVec 8)) (t : Nat) (dict nice : Int) (cap : Nat) (sp : List Value) (E : List Ent) (born : List Nat) : Mem :=
  (3, finO 1 2 d.length cap dict nice) :: (2, .mx .b (keysE E) (valsE d t E) born) :: (1, rowO d sp) :: rowsE d t E
def FinderM (m : Mem) (nx a : Nat) (d : List (BitVec 8)) (dict nice : Int) : Prop := ∃ b c cap sp keys vals born, FndAt m nx a d dict nice b c cap sp keys vals born ∧ cap ≤ maxI
def NewF (d : List (BitVec 8)) (dict nice : Int) : Kv := fun v m nx => if dict < 1 ∨ nice < 2 ∨ 273 < nice then v = .tup [.nilp, .int .i64 1] ∧ m = [] ∧ nx = 0 else
  ∃ a, v = .tup [.ptr a 0, .int .i64 0] ∧ FinderM m nx a d dict nice ∧ (m.map fun p => p.1).Nodup ∧ noRoM m = true ∧ ∀ p ∈ m, p.1 < nx
theorem FM_nodup {d : List (BitVec 8)} {t : Nat} {dict nice : Int} {cap : Nat} {sp : List Value} {E : List Ent} {born : List Nat} {N : Nat} (q : EntQ d t E N) : ((FM d t dict nice cap sp E born).map fun p => p.1).Nodup := by
  have hr : (rowsE d t E).map (fun p => p.1) = E.map (·.n) := by simp [rowsE]
  have hno : ∀ k, k < 4 → k ∉ E.map (·.n) := fun k hk h => by
    obtain ⟨e, he, rfl⟩ := List.mem_map.1 h
    have := (q.nr e he).1
    omega
  simp only [FM, List.map_cons, hr, List.nodup_cons, List.mem_cons, not_or]
  exact ⟨⟨by decide, by decide, hno 3 (by decide)⟩, ⟨by decide, hno 2 (by decide)⟩, hno 1 (by decide), q.nn⟩
theorem FM_finder {d : List (BitVec 8)} {dict nice : Int} {cap : Nat} {sp : List Value} {E : List Ent} {born : List Nat} {N : Nat} (q : EntQ d (d.length - 1) E N) (hc : d.length + sp.length = cap) (hm : cap ≤ maxI) : FinderM (FM d (d.length - 1) dict nice cap sp E born) N 3 d dict nice := by
  have n4 := q.n4
  refine ⟨1, 2, cap, sp, keysE E, valsE d (d.length - 1) E, born, ⟨rfl, rfl, rfl, by omega, by omega, by omega, hc, fun x y => ?_⟩, hm⟩
  by_cases hlt : xidx (.b x y) (keysE E) < (keysE E).length
  · obtain ⟨e, he, rfl, rfl⟩ := found hlt
    have hem := List.mem_of_getElem? he
    have hv : xget (.b e.x e.y) (keysE E) (valsE d (d.length - 1) E) = some (valE d (d.length - 1) e) := by rw [xget, valsE, List.getElem?_map, he]; rfl
    rw [hv]
    refine ⟨e.n, e.cp, e.s, rfl, ?_, (q.cp e hem).1, (q.cp e hem).2, (q.nr e hem).2⟩
    have h4 := (q.nr e hem).1
    rw [FM, look_cons, look_cons, look_cons, if_neg (by omega), if_neg (by omega), if_neg (by omega)]
    exact look_rowsE d _ q.nn e hem
  · have hv : xget (.b x y) (keysE E) (valsE d (d.length - 1) E) = none := by
      rw [xget]
      refine List.getElem?_eq_none ?_
      have : (valsE d (d.length - 1) E).length = (keysE E).length := by simp [valsE, keysE]
      omega
    rw [hv]
    exact q.no x y (xidx_none _ _ (by omega))
theorem FM_noRo (d : List (BitVec 8)) (t : Nat) (dict nice : Int) (cap : Nat) (sp : List Value) (E : List Ent) (born : List Nat) : noRoM (FM d t dict nice cap sp E born) = true := by
  have h1 : ∀ E : List Ent, noRoM (rowsE d t E) = true := fun E => by
    induction E with
    | nil => rfl
    | cons e r ih =>
      show (noRoO (rowE d t e) && noRoM (rowsE d t r)) = true
      rw [ih]
      simp only [rowE, noRoO, noRoL_append, bvs_noRo, noRoL_vals, Bool.and_self]
  have h2 : ∀ E : List Ent, noRoL (valsE d t E) = true := fun E => by
    induction E with
    | nil => rfl
    | cons e r ih =>
      show (noRo (valE d t e) && noRoL (valsE d t r)) = true
      rw [ih]; rfl
  simp only [FM, noRoM, finO, rowO, noRoO, noRoL_append, bvs_noRo, noRoL_vals, h1, h2, Bool.and_self, noRoL, noRo]
theorem one64 (t : Nat) (ht : t < 1000000) : [AV.int .i64 ((t : Nat) : Int)] = bvs .i64 [BitVec.ofNat 64 t] := by
  have : (BitVec.ofNat 64 t).toNat = t := by rw [BitVec.toNat_ofNat]; omega
  simp only [bvs, List.map_cons, List.map_nil, this]
theorem memSame_of {m0 : Mem} : ∀ {m : Mem}, (∀ p ∈ m, Eng.look m0 p.1 = some p.2) → memSame m0 m
  | [], _ => trivial
  | (n, o) :: r, h => ⟨h (n, o) (.head _), memSame_of fun p hp => h p (.tail _ hp)⟩
theorem keysE_upd {E : List Ent} {j : Nat} {e : Ent} (hj : E[j]? = some e) (n' cp' : Nat) (s' : List Value) : keysE (E.set j { e with n := n', cp := cp', s := s' }) = keysE E := by
  have hjl : j < E.length := (List.getElem?_eq_some_iff.1 hj).1
  unfold keysE
  rw [List.map_set]
  apply List.ext_getElem?
  intro i
  rw [List.getElem?_set]
  by_cases h : j = i
  · subst h
    rw [if_pos rfl, if_pos (by simpa using hjl), List.getElem?_map, hj]; rfl
  · rw [if_neg h]
theorem mem_upd {E : List Ent} {j : Nat} (hjl : j < E.length) {e' f : Ent} (hf : f ∈ E.set j e') : f = e' ∨ ∃ i, i ≠ j ∧ E[i]? = some f := by
  obtain ⟨i, hi, e1⟩ := List.getElem_of_mem hf
  have e2 := List.getElem?_eq_getElem hi
  rw [e1, List.getElem?_set] at e2
  by_cases h : j = i
  · rw [if_pos h, if_pos hjl] at e2
    exact .inl (by cases e2; rfl)
  · rw [if_neg h] at e2
    exact .inr ⟨i, fun g => h g.symm, e2⟩
theorem EntQ.oth {d : List (BitVec 8)} {t : Nat} {E : List Ent} {N : Nat} (q : EntQ d t E N) {j : Nat} {e : Ent} (hj : E[j]? = some e) (hx : e.x = d.getD t 0) (hy : e.y = d.getD (t + 1) 0) {i : Nat} {f : Ent} (hi : i ≠ j) (hf : E[i]? = some f) : posN d f.x f.y (t + 1) = posN d f.x f.y t ∧ f.n ≠ e.n := by
  have hil : i < E.length := (List.getElem?_eq_some_iff.1 hf).1
  refine ⟨posN_succ_ne fun hkk => hi ?_, fun hn => hi ?_⟩
  · have e1 : (keysE E)[i]? = some (Key.b (d.getD t 0) (d.getD (t + 1) 0)) := by unfold keysE; rw [List.getElem?_map, hf]; exact congrArg some hkk
    have e2 : (keysE E)[j]? = some (Key.b (d.getD t 0) (d.getD (t + 1) 0)) := by unfold keysE; rw [List.getElem?_map, hj]; exact congrArg some (show Key.b e.x e.y = _ by rw [hx, hy])
    exact (List.getElem?_inj (by rw [keysE_len]; exact hil) q.kn).1 (e1.trans e2.symm)
  · have e1 : (E.map (·.n))[i]? = some e.n := by rw [List.getElem?_map, hf]; exact congrArg some hn
    have e2 : (E.map (·.n))[j]? = some e.n := by rw [List.getElem?_map, hj]; rfl
    exact (List.getElem?_inj (by rw [List.length_map]; exact hil) q.nn).1 (e1.trans e2.symm)
theorem valsE_upd {d : List (BitVec 8)} {t : Nat} {E : List Ent} {N : Nat} (q : EntQ d t E N) {j : Nat} {e : Ent} (hj : E[j]? = some e) (hx : e.x = d.getD t 0) (hy : e.y = d.getD (t + 1) 0) (e' : Ent) : valsE d (t + 1) (E.set j e') = (valsE d t E).set j (valE d (t + 1) e') := by
  unfold valsE
  apply List.ext_getElem?
  intro i
  rw [List.getElem?_map, List.getElem?_set, List.getElem?_set, List.getElem?_map, List.length_map]
  by_cases h : j = i
  · subst h
    rw [if_pos rfl, if_pos rfl]
    split <;> rfl
  · rw [if_neg h, if_neg h]
    cases hf : E[i]? with
    | none => rfl
    | some f =>
      simp only [Option.map_some, valE]
      rw [(q.oth hj hx hy (fun g => h g.symm) hf).1]
theorem rowE_oth {d : List (BitVec 8)} {t : Nat} {f : Ent} (h : posN d f.x f.y (t + 1) = posN d f.x f.y t) : rowE d (t + 1) f = rowE d t f := by rw [rowE, rowE, h]
theorem set_last {α : Type} (a b : α) : ∀ (l : List α) (n : Nat), n = l.length → (l ++ [a]).set n b = l ++ [b]
  | [], n, h => by subst h; rfl
  | x :: l, n, h => by
    subst h
    show x :: (l ++ [a]).set l.length b = x :: (l ++ [b])
    rw [set_last a b l l.length rfl]
theorem posN_new {d : List (BitVec 8)} {t : Nat} {E : List Ent} (hno : Key.b (d.getD t 0) (d.getD (t + 1) 0) ∉ keysE E) {f : Ent} (hf : f ∈ E) : posN d f.x f.y (t + 1) = posN d f.x f.y t :=
  posN_succ_ne fun hkk => hno (by rw [← hkk]; exact List.mem_map_of_mem hf)
theorem valsE_new {d : List (BitVec 8)} {t : Nat} {E : List Ent} (hno : Key.b (d.getD t 0) (d.getD (t + 1) 0) ∉ keysE E) : valsE d (t + 1) E = valsE d t E := by
  unfold valsE
  refine List.map_congr_left fun f hf => ?_
  rw [valE, valE, posN_new hno hf]
set_option maxHeartbeats 4000000 in
theorem newFOk (d : List (BitVec 8)) (dict nice : Int) (hl : d.length ≤ 100000) : CallG false Try.prog 20 [.ro d.length (bvs .u8 d), .int .i64 dict, .int .i64 nice] (fun _ => true) [] 0 (NewF d dict nice) := by
  refine fn_okG Try.func20 rfl (by show 3 ≤ _; decide) ?_
  have bad : ∀ {m : Mem} {nx : Nat}, (dict < 1 ∨ nice < 2 ∨ 273 < nice) → Eng.Fin 0 (fun _ => true) m nx (NewF d dict nice) (.tup [.nilp, .int .i64 1]) := fun h => Fin.flatv (fun _ => rfl) (fun _ => rfl) (by rw [NewF, if_pos h]; exact ⟨rfl, rfl, rfl⟩)
  rcases Int.lt_or_le dict 1 with g | g
  · have g1 : decide (dict < 1) = true := decide_eq_true g
    simp (config := { maxSteps := 1000000, implicitDefEqProofs := false }) only [-List.reduceReplicate, Nat.reduceBEq, renA, renL, renM, renO, evx, evs, evp, Eng.look, cst, cst1, putd, dstOk, params, loadx, partx, loI, hiI, bltx, mmI, boxx, srcx, calx, nilx, upd, del, resv, fillA, setMany, Nat.reduceLT, Nat.reduceLeDiff, Nat.reduceEqDiff, Nat.reduceAdd, Nat.reduceMul, Nat.reduceSub, reduceIte, reduceCtorEq, if_true, if_false, ite_true, ite_false, eq_self, forall_const, implies_true, Int.reduceLT, Int.reduceLE, Int.reduceToNat, Int.reduceAdd, Int.reduceSub, Int.reduceNeg, ne_eq, Int.reduceEq, Int.reduceNe, Int.reduceBEq, Int.reduceBNe, beq_self_eq_true, bne_self_eq_false, BitVec.reduceBEq, BitVec.reduceBNe, BitVec.reduceOfInt, BitVec.reduceSetWidth, wrD, engS0, engS1, engS2, engS3, engS4, engS5, engS6, engS7, engS8, engS9, engU0, engT0, engT1, engT2, Fx.t1, Fx.t3, Fx.t4, Fx.t5, Fx.t23, Fx.t25, Fx.t35, Fx.t91, Fx.t109, Fx.t110, Fx.t111, Fx.t112, Fx.t113, Try.results20, Try.ntmps20, g1]
    exact bad (.inl g)
  have g1 : decide (dict < 1) = false := decide_eq_false (by omega)
  rcases Int.lt_or_le nice 2 with g' | g'
  · have g2 : decide (nice < 2) = true := decide_eq_true g'
    simp (config := { maxSteps := 1000000, implicitDefEqProofs := false }) only [-List.reduceReplicate, Nat.reduceBEq, renA, renL, renM, renO, evx, evs, evp, Eng.look, cst, cst1, putd, dstOk, params, loadx, partx, loI, hiI, bltx, mmI, boxx, srcx, calx, nilx, upd, del, resv, fillA, setMany, Nat.reduceLT, Nat.reduceLeDiff, Nat.reduceEqDiff, Nat.reduceAdd, Nat.reduceMul, Nat.reduceSub, reduceIte, reduceCtorEq, if_true, if_false, ite_true, ite_false, eq_self, forall_const, implies_true, Int.reduceLT, Int.reduceLE, Int.reduceToNat, Int.reduceAdd, Int.reduceSub, Int.reduceNeg, ne_eq, Int.reduceEq, Int.reduceNe, Int.reduceBEq, Int.reduceBNe, beq_self_eq_true, bne_self_eq_false, BitVec.reduceBEq, BitVec.reduceBNe, BitVec.reduceOfInt, BitVec.reduceSetWidth, wrD, engS0, engS1, engS2, engS3, engS4, engS5, engS6, engS7, engS8, engS9, engU0, engT0, engT1, engT2, Fx.t1, Fx.t3, Fx.t4, Fx.t5, Fx.t23, Fx.t25, Fx.t35, Fx.t91, Fx.t109, Fx.t110, Fx.t111, Fx.t112, Fx.t113, Try.results20, Try.ntmps20, g1, g2]
    exact bad (.inr (.inl g'))
  have g2 : decide (nice < 2) = false := decide_eq_false (by omega)
  rcases Int.lt_or_le 273 nice with k | k
  · have g3 : decide (nice > 273) = true := decide_eq_true k
    simp (config := { maxSteps := 1000000, implicitDefEqProofs := false }) only [-List.reduceReplicate, Nat.reduceBEq, renA, renL, renM, renO, evx, evs, evp, Eng.look, cst, cst1, putd, dstOk, params, loadx, partx, loI, hiI, bltx, mmI, boxx, srcx, calx, nilx, upd, del, resv, fillA, setMany, Nat.reduceLT, Nat.reduceLeDiff, Nat.reduceEqDiff, Nat.reduceAdd, Nat.reduceMul, Nat.reduceSub, reduceIte, reduceCtorEq, if_true, if_false, ite_true, ite_false, eq_self, forall_const, implies_true, Int.reduceLT, Int.reduceLE, Int.reduceToNat, Int.reduceAdd, Int.reduceSub, Int.reduceNeg, ne_eq, Int.reduceEq, Int.reduceNe, Int.reduceBEq, Int.reduceBNe, beq_self_eq_true, bne_self_eq_false, BitVec.reduceBEq, BitVec.reduceBNe, BitVec.reduceOfInt, BitVec.reduceSetWidth, wrD, engS0, engS1, engS2, engS3, engS4, engS5, engS6, engS7, engS8, engS9, engU0, engT0, engT1, engT2, Fx.t1, Fx.t3, Fx.t4, Fx.t5, Fx.t23, Fx.t25, Fx.t35, Fx.t91, Fx.t109, Fx.t110, Fx.t111, Fx.t112, Fx.t113, Try.results20, Try.ntmps20, g1, g2, g3]
    exact bad (.inr (.inr k))
  have g3 : decide (nice > 273) = false := decide_eq_false (by omega)
  simp (config := { maxSteps := 1000000, implicitDefEqProofs := false }) only [-List.reduceReplicate, Nat.reduceBEq, renA, renL, renM, renO, evx, evs, evp, Eng.look, cst, cst1, putd, dstOk, params, loadx, partx, loI, hiI, bltx, mmI, boxx, srcx, calx, nilx, upd, del, resv, fillA, setMany, Nat.reduceLT, Nat.reduceLeDiff, Nat.reduceEqDiff, Nat.reduceAdd, Nat.reduceMul, Nat.reduceSub, reduceIte, reduceCtorEq, if_true, if_false, ite_true, ite_false, eq_self, forall_const, implies_true, Int.reduceLT, Int.reduceLE, Int.reduceToNat, Int.reduceAdd, Int.reduceSub, Int.reduceNeg, ne_eq, Int.reduceEq, Int.reduceNe, Int.reduceBEq, Int.reduceBNe, beq_self_eq_true, bne_self_eq_false, BitVec.reduceBEq, BitVec.reduceBNe, BitVec.reduceOfInt, BitVec.reduceSetWidth, wrD, engS0, engS1, engS2, engS3, engS4, engS5, engS6, engS7, engS8, engS9, engU0, engT0, engT1, engT2, Fx.t1, Fx.t3, Fx.t4, Fx.t5, Fx.t23, Fx.t25, Fx.t35, Fx.t91, Fx.t109, Fx.t110, Fx.t111, Fx.t112, Fx.t113, Try.results20, Try.ntmps20, g1, g2, g3]
  refine ⟨.inr trivial, ?_⟩
  refine ⟨by rw [List.take_length], ?_⟩
  rw [List.take_length]
  refine appk_bvs (k := .u8) (x := ([] : List (BitVec 8))) (y := d) (sp := []) (cap := 0) rfl rfl rfl (by decide) (by decide) (by rw [List.length_nil]; omega) ?_
  intro cap sp c1 c2
  rw [List.nil_append] at c1 ⊢
  simp (config := { maxSteps := 1000000, implicitDefEqProofs := false }) only [-List.reduceReplicate, Nat.reduceBEq, renA, renL, renM, renO, evx, evs, evp, Eng.look, cst, cst1, putd, dstOk, params, loadx, partx, loI, hiI, bltx, mmI, boxx, srcx, calx, nilx, upd, del, resv, fillA, setMany, Nat.reduceLT, Nat.reduceLeDiff, Nat.reduceEqDiff, Nat.reduceAdd, Nat.reduceMul, Nat.reduceSub, reduceIte, reduceCtorEq, if_true, if_false, ite_true, ite_false, eq_self, forall_const, implies_true, Int.reduceLT, Int.reduceLE, Int.reduceToNat, Int.reduceAdd, Int.reduceSub, Int.reduceNeg, ne_eq, Int.reduceEq, Int.reduceNe, Int.reduceBEq, Int.reduceBNe, beq_self_eq_true, bne_self_eq_false, BitVec.reduceBEq, BitVec.reduceBNe, BitVec.reduceOfInt, BitVec.reduceSetWidth, wrD, engS0, engS1, engS2, engS3, engS4, engS5, engS6, engS7, engS8, engS9, engU0, engT0, engT1, engT2, Fx.t1, Fx.t3, Fx.t4, Fx.t5, Fx.t23, Fx.t25, Fx.t35, Fx.t91, Fx.t109, Fx.t110, Fx.t111, Fx.t112, Fx.t113]
  refine LoopOk.upX (fun t (z : List Ent × List Nat × Nat) => t ≤ d.length - 1 ∧ EntQ d t z.1 z.2.2) (d.length - 1) (fun t z => ([(9, .int .i64 ((t + 1 : Nat) : Int)), (8, .ptr 3 0), (0, .ro d.length (bvs .u8 d))], FM d t dict nice cap sp z.1 z.2.1, z.2.2)) ([], [], 4) ⟨Nat.zero_le _, List.nodup_nil, (fun e h => by cases h), List.nodup_nil, (fun e h => by cases h), (fun x y _ => rfl), Nat.le_refl _⟩ ?_ ?_
  · exact Le.sameT (by decide) ⟨rfl, rfl, rfl, trivial⟩ ⟨rfl, rfl, rfl, trivial⟩ (by simp [FM, rowsE])
  rintro t ⟨E, born, N⟩ ⟨hi, ht, q⟩
  have q : EntQ d t E N := q
  rcases Nat.lt_or_ge (t + 1) d.length with h | h
  · have e1 : decide (((t + 1 : Nat) : Int) < (d.length : Int)) = true := decide_eq_true (by omega)
    have w1 : IntKind.i64.wrap (((t + 1 : Nat) : Int) - 1) = ((t : Nat) : Int) := by rw [wrap_i64] <;> omega
    have w2 : IntKind.i64.wrap (((t + 1 : Nat) : Int) + 1) = ((t + 1 + 1 : Nat) : Int) := by rw [wrap_i64] <;> omega
    simp (config := { maxSteps := 1000000, implicitDefEqProofs := false }) only [-List.reduceReplicate, Nat.reduceBEq, renA, renL, renM, renO, evx, evs, evp, Eng.look, cst, cst1, putd, dstOk, params, loadx, partx, loI, hiI, bltx, mmI, boxx, srcx, calx, nilx, upd, del, resv, fillA, setMany, Nat.reduceLT, Nat.reduceLeDiff, Nat.reduceEqDiff, Nat.reduceAdd, Nat.reduceMul, Nat.reduceSub, reduceIte, reduceCtorEq, if_true, if_false, ite_true, ite_false, eq_self, forall_const, implies_true, Int.reduceLT, Int.reduceLE, Int.reduceToNat, Int.reduceAdd, Int.reduceSub, Int.reduceNeg, ne_eq, Int.reduceEq, Int.reduceNe, Int.reduceBEq, Int.reduceBNe, beq_self_eq_true, bne_self_eq_false, BitVec.reduceBEq, BitVec.reduceBNe, BitVec.reduceOfInt, BitVec.reduceSetWidth, wrD, engS0, engS1, engS2, engS3, engS4, engS5, engS6, engS7, engS8, engS9, engU0, engT0, engT1, engT2, Fx.t1, Fx.t3, Fx.t4, Fx.t5, Fx.t23, Fx.t25, Fx.t35, Fx.t91, Fx.t109, Fx.t110, Fx.t111, Fx.t112, Fx.t113, e1]
    refine ⟨Fx.mixed, .inl ⟨[(0, false), (1, false), (2, false), (3, false), (4, false), (5, false), (6, false), (7, false), (8, false), (9, false), (10, true), (11, true)], [], by kernel_rfl, (fun n hn => by cases hn), ?_⟩⟩
    simp (config := { maxSteps := 1000000, implicitDefEqProofs := false }) only [-List.reduceReplicate, Nat.reduceBEq, renA, renL, renM, renO, evx, evs, evp, Eng.look, cst, cst1, putd, dstOk, params, loadx, partx, loI, hiI, bltx, mmI, boxx, srcx, calx, nilx, upd, del, resv, fillA, setMany, Nat.reduceLT, Nat.reduceLeDiff, Nat.reduceEqDiff, Nat.reduceAdd, Nat.reduceMul, Nat.reduceSub, reduceIte, reduceCtorEq, if_true, if_false, ite_true, ite_false, eq_self, forall_const, implies_true, Int.reduceLT, Int.reduceLE, Int.reduceToNat, Int.reduceAdd, Int.reduceSub, Int.reduceNeg, ne_eq, Int.reduceEq, Int.reduceNe, Int.reduceBEq, Int.reduceBNe, beq_self_eq_true, bne_self_eq_false, BitVec.reduceBEq, BitVec.reduceBNe, BitVec.reduceOfInt, BitVec.reduceSetWidth, wrD, engS0, engS1, engS2, engS3, engS4, engS5, engS6, engS7, engS8, engS9, engU0, engT0, engT1, engT2, Fx.t1, Fx.t3, Fx.t4, Fx.t5, Fx.t23, Fx.t25, Fx.t35, Fx.t91, Fx.t109, Fx.t110, Fx.t111, Fx.t112, Fx.t113, e1, w1, w2, FM]
    refine ⟨by omega, by omega, by rw [List.length_drop]; omega, by omega, by omega, by rw [List.length_drop]; omega, ?_⟩
    have n4 := q.n4
    have f1 : (N = 3) = False := eq_false (by omega)
    have f2 : (N = 2) = False := eq_false (by omega)
    have f3 : (N + 1 = 3) = False := eq_false (by omega)
    have f4 : (N + 1 = 2) = False := eq_false (by omega)
    have f5 : decide (N + 1 ≤ 3) = false := decide_eq_false (by omega)
    have f6 : decide (N + 1 ≤ N) = false := decide_eq_false (by omega)
    have f7 : decide (N + 1 ≤ 2) = false := decide_eq_false (by omega)
    have f8 : (N + 1 + 1 = 2) = False := eq_false (by omega)
    obtain ⟨x, hx⟩ : ∃ x, x = d.getD t 0 := ⟨_, rfl⟩
    obtain ⟨y, hy⟩ : ∃ y, y = d.getD (t + 1) 0 := ⟨_, rfl⟩
    rw [← hx, ← hy]
    by_cases hlt : xidx (.b x y) (keysE E) < (keysE E).length
    · obtain ⟨e, he, rfl, rfl⟩ := found hlt
      have hem := List.mem_of_getElem? he
      obtain ⟨a1, a2⟩ := q.nr e hem
      obtain ⟨b1, b2⟩ := q.cp e hem
      have hle := posN_len d e.x e.y t
      have d3 : Eng.look (rowsE d t E) e.n = some (rowE d t e) := look_rowsE d t q.nn e hem
      have g4 : (N = e.n) = False := eq_false (by omega)
      have g5 : (3 = e.n) = False := eq_false (by omega)
      have g6 : (2 = e.n) = False := eq_false (by omega)
      have g7 : (1 = e.n) = False := eq_false (by omega)
      have g8 : (N + 1 = e.n) = False := eq_false (by omega)
      have v1 : (valsE d t E).getD (xidx (.b e.x e.y) (keysE E)) .nils = valE d t e := by
        rw [valsE, List.getD_eq_getElem?_getD, List.getElem?_map, he]; rfl
      refine ⟨Fx.mixed, .inl ⟨[(0, false), (1, false), (2, false), (3, false), (4, false), (5, false), (6, false), (7, true), (8, true), (9, false), (11, false), (10, true), (12, true)], [2, e.n], by kernel_rfl, (fun n hn => ?_), ?_⟩⟩
      · simp only [List.mem_cons, List.not_mem_nil, or_false] at hn
        rcases hn with rfl | rfl
        · exact ⟨rfl, by simp only [look_cons, f1, f2, if_false]; rfl⟩
        · exact ⟨rfl, by simp only [look_cons, g4, g5, g6, g7, if_false]; rw [d3]; rfl⟩
      have p1 : (3 == e.n) = false := by simp; omega
      have p2 : (N == e.n) = false := by simp; omega
      have p3 : (N == 2) = false := by simp; omega
      have p4 : decide (N ≤ 2) = false := decide_eq_false (by omega)
      have hk : keyA KD.b (AV.agg (bvs IntKind.u8 (List.take 2 (((List.replicate 2 0).set 0 e.x).set 1 e.y)))) = some (.b e.x e.y) := keyA_bb e.x e.y
      simp (config := { maxSteps := 1000000, implicitDefEqProofs := false }) only [-List.reduceReplicate, Nat.reduceBEq, renA, renL, renM, renO, evx, evs, evp, Eng.look, cst, cst1, putd, dstOk, params, loadx, partx, loI, hiI, bltx, mmI, boxx, srcx, calx, nilx, upd, del, resv, fillA, setMany, Nat.reduceLT, Nat.reduceLeDiff, Nat.reduceEqDiff, Nat.reduceAdd, Nat.reduceMul, Nat.reduceSub, reduceIte, reduceCtorEq, if_true, if_false, ite_true, ite_false, eq_self, forall_const, implies_true, Int.reduceLT, Int.reduceLE, Int.reduceToNat, Int.reduceAdd, Int.reduceSub, Int.reduceNeg, ne_eq, Int.reduceEq, Int.reduceNe, Int.reduceBEq, Int.reduceBNe, beq_self_eq_true, bne_self_eq_false, BitVec.reduceBEq, BitVec.reduceBNe, BitVec.reduceOfInt, BitVec.reduceSetWidth, wrD, engS0, engS1, engS2, engS3, engS4, engS5, engS6, engS7, engS8, engS9, engU0, engT0, engT1, engT2, Fx.t1, Fx.t3, Fx.t4, Fx.t5, Fx.t23, Fx.t25, Fx.t35, Fx.t91, Fx.t109, Fx.t110, Fx.t111, Fx.t112, Fx.t113, w1, finO, f1, f2, f3, f4, f5, f6, f7, f8, p1, p2, p3, p4, hk, or_true, Bool.or_self, Bool.not_false]
      refine ⟨fun _ c hc hbl => ?_, fun hge => absurd hlt (by omega)⟩
      rw [v1, valE]
      simp (config := { maxSteps := 1000000, implicitDefEqProofs := false }) only [-List.reduceReplicate, Nat.reduceBEq, renA, renL, renM, renO, evx, evs, evp, Eng.look, cst, cst1, putd, dstOk, params, loadx, partx, loI, hiI, bltx, mmI, boxx, srcx, calx, nilx, upd, del, resv, fillA, setMany, Nat.reduceLT, Nat.reduceLeDiff, Nat.reduceEqDiff, Nat.reduceAdd, Nat.reduceMul, Nat.reduceSub, reduceIte, reduceCtorEq, if_true, if_false, ite_true, ite_false, eq_self, forall_const, implies_true, Int.reduceLT, Int.reduceLE, Int.reduceToNat, Int.reduceAdd, Int.reduceSub, Int.reduceNeg, ne_eq, Int.reduceEq, Int.reduceNe, Int.reduceBEq, Int.reduceBNe, beq_self_eq_true, bne_self_eq_false, BitVec.reduceBEq, BitVec.reduceBNe, BitVec.reduceOfInt, BitVec.reduceSetWidth, wrD, engS0, engS1, engS2, engS3, engS4, engS5, engS6, engS7, engS8, engS9, engU0, engT0, engT1, engT2, Fx.t1, Fx.t3, Fx.t4, Fx.t5, Fx.t23, Fx.t25, Fx.t35, Fx.t91, Fx.t109, Fx.t110, Fx.t111, Fx.t112, Fx.t113, w1, finO, f1, f2, f3, f4, f5, f6, f7, f8, p1, p2, p3, p4, or_true, Bool.or_self, Bool.not_false]
      rw [show List.take 1 ((List.replicate 1 (AV.int IntKind.i64 0)).set 0 (AV.int IntKind.i64 ((t : Nat) : Int))) = bvs .i64 [BitVec.ofNat 64 t] from one64 t (by omega)]
      refine ⟨rfl, bvs_one _ _, ?_⟩
      rw [show AV.sl e.n 0 (posN d e.x e.y t).length e.cp = AV.sl e.n 0 (pv (posN d e.x e.y t)).length e.cp by rw [pv_len]]
      refine appk_bvs (k := .i64) (x := pv (posN d e.x e.y t)) (y := [BitVec.ofNat 64 t]) (sp := e.s) (cap := e.cp) (bt := 8) ?_ ?_ (by rw [pv_len]; exact b1) b2 (by decide) (by rw [pv_len, List.length_singleton]; omega) ?_
      · simp only [look_cons, g4, g5, g6, g7, g8, if_false]
        exact d3
      · simp [wrD]
      intro cap' sp' h1 h2
      rw [show pv (posN d e.x e.y t) ++ [BitVec.ofNat 64 t] = pv (posN d e.x e.y (t + 1)) by rw [hx, hy, posN_succ_eq, pv_app, ← hx, ← hy]; rfl, pv_len] at h1 ⊢
      simp (config := { maxSteps := 1000000, implicitDefEqProofs := false }) only [-List.reduceReplicate, Nat.reduceBEq, renA, renL, renM, renO, evx, evs, evp, Eng.look, cst, cst1, putd, dstOk, params, loadx, partx, loI, hiI, bltx, mmI, boxx, srcx, calx, nilx, upd, del, resv, fillA, setMany, Nat.reduceLT, Nat.reduceLeDiff, Nat.reduceEqDiff, Nat.reduceAdd, Nat.reduceMul, Nat.reduceSub, reduceIte, reduceCtorEq, if_true, if_false, ite_true, ite_false, eq_self, forall_const, implies_true, Int.reduceLT, Int.reduceLE, Int.reduceToNat, Int.reduceAdd, Int.reduceSub, Int.reduceNeg, ne_eq, Int.reduceEq, Int.reduceNe, Int.reduceBEq, Int.reduceBNe, beq_self_eq_true, bne_self_eq_false, BitVec.reduceBEq, BitVec.reduceBNe, BitVec.reduceOfInt, BitVec.reduceSetWidth, wrD, engS0, engS1, engS2, engS3, engS4, engS5, engS6, engS7, engS8, engS9, engU0, engT0, engT1, engT2, Fx.t1, Fx.t3, Fx.t4, Fx.t5, Fx.t23, Fx.t25, Fx.t35, Fx.t91, Fx.t109, Fx.t110, Fx.t111, Fx.t112, Fx.t113, g4, g5, g6, g7, g8, f1, f2, f3, f4, f8, p1, p2, p3, p4, hc, or_true, Bool.or_self, Bool.not_false]
      refine ⟨by omega, ?_⟩
      have hjl : xidx (.b e.x e.y) (keysE E) < E.length := by rw [keysE_len] at hlt; exact hlt
      have q' := q.upd he hx hy (n' := N + 1 + 1) (cp' := cap') (N' := N + 1 + 1 + 1) (s' := sp') (by omega) (by omega) h1 h2
      refine UpX_normal (by omega) (_, born, N + 1 + 1 + 1) ⟨by omega, q'⟩ ?_
      have i1 : (N + 1 + 1 = 3) = False := eq_false (by omega)
      have i2 : (N + 1 + 1 = 1) = False := eq_false (by omega)
      have i3 : (N + 1 = 1) = False := eq_false (by omega)
      have i4 : (N = 1) = False := eq_false (by omega)
      refine Le.sameT (Nat.zero_le _) ⟨by show some (AV.int .i64 (IntKind.i64.wrap _)) = _; rw [w2], rfl, rfl, trivial⟩ (memSame_of fun p hp => ?_) (FM_nodup q')
      simp only [FM, List.mem_cons] at hp
      rcases hp with rfl | rfl | rfl | hp
      · simp only [look_cons, f1, f2, f3, f4, f8, i1, i2, i3, i4, if_false]; rfl
      · simp only [look_cons, f1, f2, f3, f4, f8, i1, i2, i3, i4, if_false, Nat.reduceEqDiff, if_true]
        rw [keysE_upd he, valsE_upd q he hx hy, pv_len]
        rfl
      · simp only [look_cons, f1, f2, f3, f4, f8, i1, i2, i3, i4, if_false, Nat.reduceEqDiff, if_true]
      · obtain ⟨f, hf, rfl⟩ := List.mem_map.1 hp
        rcases mem_upd hjl hf with rfl | ⟨i, hi, hf⟩
        · simp only [look_cons, if_true]; rfl
        · obtain ⟨o1, o2⟩ := q.oth he hx hy hi hf
          have hfm := List.mem_of_getElem? hf
          obtain ⟨r1, r2⟩ := q.nr f hfm
          have j1 : (N + 1 + 1 = f.n) = False := eq_false (by omega)
          have j2 : (N + 1 = f.n) = False := eq_false (by omega)
          have j3 : (N = f.n) = False := eq_false (by omega)
          have j4 : (3 = f.n) = False := eq_false (by omega)
          have j5 : (2 = f.n) = False := eq_false (by omega)
          have j6 : (1 = f.n) = False := eq_false (by omega)
          simp only [look_cons, j1, j2, j3, j4, j5, j6, if_false]
          rw [look_del_other (fun g => o2 g.symm), look_rowsE d t q.nn f hfm, rowE_oth o1]
    · have hno := xidx_none (.b x y) (keysE E) (by omega)
      refine ⟨Fx.mixed, .inl ⟨[(0, false), (1, false), (2, false), (3, false), (4, false), (5, false), (6, false), (7, true), (8, true), (9, false), (11, false), (10, true), (12, true)], [2], by kernel_rfl, (fun n hn => ?_), ?_⟩⟩
      · simp only [List.mem_cons, List.not_mem_nil, or_false] at hn
        subst hn
        exact ⟨rfl, by simp only [look_cons, f1, f2, if_false]; rfl⟩
      have p3 : (N == 2) = false := by simp; omega
      have p4 : decide (N ≤ 2) = false := decide_eq_false (by omega)
      have hk : keyA KD.b (AV.agg (bvs IntKind.u8 (List.take 2 (((List.replicate 2 0).set 0 x).set 1 y)))) = some (.b x y) := keyA_bb x y
      simp (config := { maxSteps := 1000000, implicitDefEqProofs := false }) only [-List.reduceReplicate, Nat.reduceBEq, renA, renL, renM, renO, evx, evs, evp, Eng.look, cst, cst1, putd, dstOk, params, loadx, partx, loI, hiI, bltx, mmI, boxx, srcx, calx, nilx, upd, del, resv, fillA, setMany, Nat.reduceLT, Nat.reduceLeDiff, Nat.reduceEqDiff, Nat.reduceAdd, Nat.reduceMul, Nat.reduceSub, reduceIte, reduceCtorEq, if_true, if_false, ite_true, ite_false, eq_self, forall_const, implies_true, Int.reduceLT, Int.reduceLE, Int.reduceToNat, Int.reduceAdd, Int.reduceSub, Int.reduceNeg, ne_eq, Int.reduceEq, Int.reduceNe, Int.reduceBEq, Int.reduceBNe, beq_self_eq_true, bne_self_eq_false, BitVec.reduceBEq, BitVec.reduceBNe, BitVec.reduceOfInt, BitVec.reduceSetWidth, wrD, engS0, engS1, engS2, engS3, engS4, engS5, engS6, engS7, engS8, engS9, engU0, engT0, engT1, engT2, Fx.t1, Fx.t3, Fx.t4, Fx.t5, Fx.t23, Fx.t25, Fx.t35, Fx.t91, Fx.t109, Fx.t110, Fx.t111, Fx.t112, Fx.t113, w1, finO, f1, f2, f3, f4, f5, f6, f7, f8, p3, p4, hk, or_true, Bool.or_self, Bool.not_false]
      refine ⟨fun h => absurd h hlt, fun _ c hc hbl => ?_⟩
      simp (config := { maxSteps := 1000000, implicitDefEqProofs := false }) only [-List.reduceReplicate, Nat.reduceBEq, renA, renL, renM, renO, evx, evs, evp, Eng.look, cst, cst1, putd, dstOk, params, loadx, partx, loI, hiI, bltx, mmI, boxx, srcx, calx, nilx, upd, del, resv, fillA, setMany, Nat.reduceLT, Nat.reduceLeDiff, Nat.reduceEqDiff, Nat.reduceAdd, Nat.reduceMul, Nat.reduceSub, reduceIte, reduceCtorEq, if_true, if_false, ite_true, ite_false, eq_self, forall_const, implies_true, Int.reduceLT, Int.reduceLE, Int.reduceToNat, Int.reduceAdd, Int.reduceSub, Int.reduceNeg, ne_eq, Int.reduceEq, Int.reduceNe, Int.reduceBEq, Int.reduceBNe, beq_self_eq_true, bne_self_eq_false, BitVec.reduceBEq, BitVec.reduceBNe, BitVec.reduceOfInt, BitVec.reduceSetWidth, wrD, engS0, engS1, engS2, engS3, engS4, engS5, engS6, engS7, engS8, engS9, engU0, engT0, engT1, engT2, Fx.t1, Fx.t3, Fx.t4, Fx.t5, Fx.t23, Fx.t25, Fx.t35, Fx.t91, Fx.t109, Fx.t110, Fx.t111, Fx.t112, Fx.t113, w1, finO, f1, f2, f3, f4, f5, f6, f7, f8, p3, p4, or_true, Bool.or_self, Bool.not_false]
      rw [show List.take 1 ((List.replicate 1 (AV.int IntKind.i64 0)).set 0 (AV.int IntKind.i64 ((t : Nat) : Int))) = bvs .i64 [BitVec.ofNat 64 t] from one64 t (by omega)]
      refine ⟨rfl, bvs_one _ _, ?_⟩
      refine appk_nils (k := .i64) (y := [BitVec.ofNat 64 t]) (bt := 8) (by decide) (by rw [List.length_singleton]; decide) (fun h => by cases h) ?_
      intro _ cap' sp' h1 h2
      simp (config := { maxSteps := 1000000, implicitDefEqProofs := false }) only [-List.reduceReplicate, Nat.reduceBEq, renA, renL, renM, renO, evx, evs, evp, Eng.look, cst, cst1, putd, dstOk, params, loadx, partx, loI, hiI, bltx, mmI, boxx, srcx, calx, nilx, upd, del, resv, fillA, setMany, Nat.reduceLT, Nat.reduceLeDiff, Nat.reduceEqDiff, Nat.reduceAdd, Nat.reduceMul, Nat.reduceSub, reduceIte, reduceCtorEq, if_true, if_false, ite_true, ite_false, eq_self, forall_const, implies_true, Int.reduceLT, Int.reduceLE, Int.reduceToNat, Int.reduceAdd, Int.reduceSub, Int.reduceNeg, ne_eq, Int.reduceEq, Int.reduceNe, Int.reduceBEq, Int.reduceBNe, beq_self_eq_true, bne_self_eq_false, BitVec.reduceBEq, BitVec.reduceBNe, BitVec.reduceOfInt, BitVec.reduceSetWidth, wrD, engS0, engS1, engS2, engS3, engS4, engS5, engS6, engS7, engS8, engS9, engU0, engT0, engT1, engT2, Fx.t1, Fx.t3, Fx.t4, Fx.t5, Fx.t23, Fx.t25, Fx.t35, Fx.t91, Fx.t109, Fx.t110, Fx.t111, Fx.t112, Fx.t113, f1, f2, f3, f4, f8, p3, p4, hc, or_true, Bool.or_self, Bool.not_false]
      refine ⟨by omega, ?_⟩
      have hno' := hno
      rw [hx, hy] at hno'
      have h1' : 1 + sp'.length = cap' := h1
      have q' := q.add hno' (n' := N + 1 + 1) (cp' := cap') (N' := N + 1 + 1 + 1) (s' := sp') (by omega) (by omega) h1' h2
      have hp1 : posN d x y (t + 1) = [t] := by rw [hx, hy, posN_succ_eq, q.no _ _ hno']; rfl
      refine UpX_normal (by omega) (_, born ++ [c], N + 1 + 1 + 1) ⟨by omega, q'⟩ ?_
      have i1 : (N + 1 + 1 = 3) = False := eq_false (by omega)
      have i2 : (N + 1 + 1 = 1) = False := eq_false (by omega)
      have i3 : (N + 1 = 1) = False := eq_false (by omega)
      have i4 : (N = 1) = False := eq_false (by omega)
      refine Le.sameT (Nat.zero_le _) ⟨by show some (AV.int .i64 (IntKind.i64.wrap _)) = _; rw [w2], rfl, rfl, trivial⟩ (memSame_of fun p hp => ?_) (FM_nodup q')
      rw [← hx, ← hy] at hp
      simp only [FM, List.mem_cons] at hp
      rcases hp with rfl | rfl | rfl | hp
      · simp only [look_cons, f1, f2, f3, f4, f8, i1, i2, i3, i4, if_false]; rfl
      · simp only [look_cons, f1, f2, f3, f4, f8, i1, i2, i3, i4, if_false, Nat.reduceEqDiff, if_true]
        rw [set_last _ _ _ _ (by rw [valsE, List.length_map, keysE_len])]
        have e1 : keysE (E ++ [⟨x, y, N + 1 + 1, cap', sp'⟩]) = keysE E ++ [.b x y] := by simp [keysE]
        have e2 : valsE d (t + 1) (E ++ [⟨x, y, N + 1 + 1, cap', sp'⟩]) = valsE d t E ++ [.sl (N + 1 + 1) 0 1 cap'] := by
          rw [← valsE_new hno', valsE, valsE, List.map_append, List.map_cons, List.map_nil, valE, hp1]; rfl
        rw [e1, e2]
      · simp only [look_cons, f1, f2, f3, f4, f8, i1, i2, i3, i4, if_false, Nat.reduceEqDiff, if_true]
      · obtain ⟨f, hf, rfl⟩ := List.mem_map.1 hp
        rcases List.mem_append.1 hf with hf | hf
        · obtain ⟨r1, r2⟩ := q.nr f hf
          have j1 : (N + 1 + 1 = f.n) = False := eq_false (by omega)
          have j2 : (N + 1 = f.n) = False := eq_false (by omega)
          have j3 : (N = f.n) = False := eq_false (by omega)
          have j4 : (3 = f.n) = False := eq_false (by omega)
          have j5 : (2 = f.n) = False := eq_false (by omega)
          have j6 : (1 = f.n) = False := eq_false (by omega)
          simp only [look_cons, j1, j2, j3, j4, j5, j6, if_false]
          rw [look_rowsE d t q.nn f hf, rowE_oth (posN_new hno' hf)]
        · rw [List.mem_singleton] at hf
          subst hf
          simp only [look_cons, if_true, rowE, hp1]; rfl
  · have e1 : decide (((t + 1 : Nat) : Int) < (d.length : Int)) = false := decide_eq_false (by omega)
    have htt : t = d.length - 1 := by omega
    subst htt
    simp (config := { maxSteps := 1000000, implicitDefEqProofs := false }) only [-List.reduceReplicate, Nat.reduceBEq, renA, renL, renM, renO, evx, evs, evp, Eng.look, cst, cst1, putd, dstOk, params, loadx, partx, loI, hiI, bltx, mmI, boxx, srcx, calx, nilx, upd, del, resv, fillA, setMany, Nat.reduceLT, Nat.reduceLeDiff, Nat.reduceEqDiff, Nat.reduceAdd, Nat.reduceMul, Nat.reduceSub, reduceIte, reduceCtorEq, if_true, if_false, ite_true, ite_false, eq_self, forall_const, implies_true, Int.reduceLT, Int.reduceLE, Int.reduceToNat, Int.reduceAdd, Int.reduceSub, Int.reduceNeg, ne_eq, Int.reduceEq, Int.reduceNe, Int.reduceBEq, Int.reduceBNe, beq_self_eq_true, bne_self_eq_false, BitVec.reduceBEq, BitVec.reduceBNe, BitVec.reduceOfInt, BitVec.reduceSetWidth, wrD, engS0, engS1, engS2, engS3, engS4, engS5, engS6, engS7, engS8, engS9, engU0, engT0, engT1, engT2, Fx.t1, Fx.t3, Fx.t4, Fx.t5, Fx.t23, Fx.t25, Fx.t35, Fx.t91, Fx.t109, Fx.t110, Fx.t111, Fx.t112, Fx.t113, e1]
    refine Fin.keep (m0 := FM d (d.length - 1) dict nice cap sp E born) (Nat.zero_le _) (memSame_slf (FM_nodup q)) (FM_nodup q) ?_
    rw [NewF, if_neg (by omega)]
    refine ⟨3, rfl, FM_finder q c1 c2, FM_nodup q, FM_noRo _ _ _ _ _ _ _ _, fun p hp => ?_⟩
    have n4 := q.n4
    simp only [FM, List.mem_cons] at hp
    rcases hp with rfl | rfl | rfl | hp
    · show 3 < N; omega
    · show 2 < N; omega
    · show 1 < N; omega
    · obtain ⟨e, he, rfl⟩ := List.mem_map.1 hp
      exact (q.nr e he).2
end Go.Proofs.Ytmnbbpckglppjaa
