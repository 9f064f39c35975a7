/- Turns: a job is collected. -/
import Derived.Test.YtmnbbpckglppjaaEng19
import Derived.Test.YtmnbbpckglppjaaEng26
import Derived.Test.YtmnbbpckglppjaaPoe
set_option linter.unusedVariables false
set_option linter.unusedSimpArgs false
set_option maxRecDepth 100000
namespace Go.Proofs.Ytmnbbpckglppjaa
open Go Go.Eng

def wsE (ws : List Int) (j : Int) : List Int := ws.eraseIdx (xidx (Key.i .i64 j) (ws.map (Key.i .i64)))
theorem xidxW (j : Int) : ∀ ws : List Int, (j ∈ ws → xidx (Key.i .i64 j) (ws.map (Key.i .i64)) < ws.length) ∧ (j ∉ ws → xidx (Key.i .i64 j) (ws.map (Key.i .i64)) = ws.length)
  | [] => ⟨fun h => (by cases h), fun _ => rfl⟩
  | k :: r => by
    have ih := xidxW j r
    rw [List.map_cons, xidx]
    by_cases e : k = j
    · subst e
      exact ⟨fun _ => by rw [if_pos rfl]; exact Nat.succ_pos _, fun h => absurd (List.mem_cons_self ..) h⟩
    · rw [if_neg (by intro h; cases h; exact e rfl)]
      refine ⟨fun h => ?_, fun h => ?_⟩
      · rcases List.mem_cons.1 h with h | h
        · exact absurd h.symm e
        · have := ih.1 h
          rw [List.length_cons]; omega
      · have := ih.2 (fun h' => h (List.mem_cons_of_mem _ h'))
        rw [List.length_cons]; omega
theorem xgetW (j : Int) (ws : List Int) : xget (Key.i .i64 j) (ws.map (Key.i .i64)) (ws.map fun _ => AV.bool true) = if j ∈ ws then some (.bool true) else none := by
  rw [xget]
  have h := xidxW j ws
  by_cases hj : j ∈ ws
  · rw [if_pos hj, List.getElem?_map, List.getElem?_eq_getElem (h.1 hj)]; rfl
  · rw [if_neg hj, List.getElem?_eq_none]
    rw [List.length_map, h.2 hj]; exact Nat.le_refl _
theorem wsE_mem (j x : Int) : ∀ ws : List Int, ws.Nodup → (x ∈ wsE ws j ↔ x ∈ ws ∧ x ≠ j)
  | [], _ => by simp [wsE, xidx]
  | k :: r, h => by
    rw [List.nodup_cons] at h
    have ih := wsE_mem j x r h.2
    rw [wsE, List.map_cons, xidx]
    by_cases e : k = j
    · subst e
      rw [if_pos rfl, List.eraseIdx_cons_zero]
      refine ⟨fun hx => ⟨List.mem_cons_of_mem _ hx, fun e => h.1 (by rw [← e]; exact hx)⟩, fun hx => ?_⟩
      rcases List.mem_cons.1 hx.1 with h' | h'
      · exact absurd h' hx.2
      · exact h'
    · rw [if_neg (by intro h; cases h; exact e rfl), List.eraseIdx_cons_succ, List.mem_cons, List.mem_cons]
      rw [wsE] at ih
      rw [ih]
      constructor
      · rintro (rfl | ⟨h1, h2⟩)
        · exact ⟨.inl rfl, e⟩
        · exact ⟨.inr h1, h2⟩
      · rintro ⟨rfl | h1, h2⟩
        · exact .inl rfl
        · exact .inr ⟨h1, h2⟩
theorem wsE_nodup (j : Int) (ws : List Int) (h : ws.Nodup) : (wsE ws j).Nodup := h.sublist (List.eraseIdx_sublist _ _)
theorem wsE_len (j : Int) (ws : List Int) (h : j ∈ ws) : (wsE ws j).length = ws.length - 1 := by
  rw [wsE, List.length_eraseIdx, if_pos ((xidxW j ws).1 h)]
theorem zvalB : zval Try.prog 4 = some (.bool false) := by kernel_rfl
section
variable {wr : Nat → Bool} {m : Mem} {nx a b c jobs room : Nat} {S : PS} {Qv Ov : AV} {qs os born : List Nat}
theorem collectF (D : Rdm wr m nx) (P : PoolAt m nx a b c jobs room S Qv Ov qs os born) : CallG false Try.prog 97 [.ptr a 0, .bool false] wr m nx (Kr (.tup [.int .i64 (if (S.out : Int) ∈ S.ws then (S.out : Int) else 0), .bool (decide ((S.out : Int) ∈ S.ws))]) m nx) := by
  refine fn_okG Try.func97 rfl (by show 2 ≤ _; decide) ?_
  have o := P.o
  have mp := P.mp
  obtain ⟨q1, q2, q3, q4, q5, q6⟩ := P.ou.facts
  rw [rngZ_len] at q6
  by_cases h : (S.out : Int) ∈ S.ws
  · have hx : xget (Key.i .i64 (S.out : Int)) (S.ws.map (Key.i .i64)) (S.ws.map fun _ => AV.bool true) = some (.bool true) := by rw [xgetW, if_pos h]
    rw [if_pos h, decide_eq_true h]
    simp (config := { maxSteps := 1000000, implicitDefEqProofs := false }) only [-List.reduceReplicate, Nat.reduceBEq, renA, renL, renM, renO, evx, evs, evp, Eng.look, cst, cst1, putd, dstOk, params, loadx, partx, loI, hiI, bltx, mmI, boxx, srcx, calx, nilx, upd, del, resv, fillA, setMany, Nat.reduceLT, Nat.reduceLeDiff, Nat.reduceEqDiff, Nat.reduceAdd, Nat.reduceMul, Nat.reduceSub, reduceIte, reduceCtorEq, if_true, if_false, ite_true, ite_false, eq_self, forall_const, implies_true, Int.reduceLT, Int.reduceLE, Int.reduceToNat, Int.reduceAdd, Int.reduceSub, Int.reduceNeg, ne_eq, Int.reduceEq, Int.reduceNe, Int.reduceBEq, Int.reduceBNe, beq_self_eq_true, bne_self_eq_false, BitVec.reduceBEq, BitVec.reduceBNe, BitVec.reduceOfInt, BitVec.reduceSetWidth, wrD, engS0, engS1, engS2, engS3, engS4, engS5, engS6, engS7, engS8, engS9, engU0, engT0, engT1, engT2, Fx.t1, Fx.t3, Fx.t4, Fx.t5, Fx.t6, Fx.t91, Fx.t92, Fx.t137, Fx.t138, Fx.t139, Try.results97, Try.ntmps97, o, mp, q1, q2, q3, q4, q5, q6, mxT137, zvalB, keyA_int, hx]
    exact D.fin _
  · have hx : xget (Key.i .i64 (S.out : Int)) (S.ws.map (Key.i .i64)) (S.ws.map fun _ => AV.bool true) = none := by rw [xgetW, if_neg h]
    rw [if_neg h, decide_eq_false h]
    simp (config := { maxSteps := 1000000, implicitDefEqProofs := false }) only [-List.reduceReplicate, Nat.reduceBEq, renA, renL, renM, renO, evx, evs, evp, Eng.look, cst, cst1, putd, dstOk, params, loadx, partx, loI, hiI, bltx, mmI, boxx, srcx, calx, nilx, upd, del, resv, fillA, setMany, Nat.reduceLT, Nat.reduceLeDiff, Nat.reduceEqDiff, Nat.reduceAdd, Nat.reduceMul, Nat.reduceSub, reduceIte, reduceCtorEq, if_true, if_false, ite_true, ite_false, eq_self, forall_const, implies_true, Int.reduceLT, Int.reduceLE, Int.reduceToNat, Int.reduceAdd, Int.reduceSub, Int.reduceNeg, ne_eq, Int.reduceEq, Int.reduceNe, Int.reduceBEq, Int.reduceBNe, beq_self_eq_true, bne_self_eq_false, BitVec.reduceBEq, BitVec.reduceBNe, BitVec.reduceOfInt, BitVec.reduceSetWidth, wrD, engS0, engS1, engS2, engS3, engS4, engS5, engS6, engS7, engS8, engS9, engU0, engT0, engT1, engT2, Fx.t1, Fx.t3, Fx.t4, Fx.t5, Fx.t6, Fx.t91, Fx.t92, Fx.t137, Fx.t138, Fx.t139, Try.results97, Try.ntmps97, o, mp, q1, q2, q3, q4, q5, q6, mxT137, zvalB, keyA_int, hx]
    exact D.fin _
def colS (S : PS) : PS := ⟨S.next, S.q, S.busy, wsE S.ws S.out, S.out + 1⟩
set_option maxHeartbeats 4000000 in
theorem collectT (D : Rdm (fun _ => true) m nx) (hlt : ∀ p ∈ m, p.1 < nx) (P : PoolAt m nx a b c jobs room S Qv Ov qs os born) (hso : (S.out : Int) ∈ S.ws → S.out < 10000) : CallG false Try.prog 97 [.ptr a 0, .bool true] (fun _ => true) m nx
    (PoolK a b c jobs room (if (S.out : Int) ∈ S.ws then colS S else S) (.tup [.int .i64 (if (S.out : Int) ∈ S.ws then (S.out : Int) else 0), .bool (decide ((S.out : Int) ∈ S.ws))]) (a :: b :: c :: (qs ++ os)) m nx) := by
  refine fn_okG Try.func97 rfl (by show 2 ≤ _; decide) ?_
  have o := P.o
  have mp := P.mp
  obtain ⟨q1, q2, q3, q4, q5, q6⟩ := P.ou.facts
  rw [rngZ_len] at q6
  have same : ∀ (V : AV), Eng.Fin nx (fun _ => true) m nx (PoolK a b c jobs room S V (a :: b :: c :: (qs ++ os)) m nx) V := fun V => Fin.keepW (m0 := m) (Nat.le_refl _) (memSame_slf D.nd) D.nd D.kp (PoolK.same D hlt P V)
  by_cases h : (S.out : Int) ∈ S.ws
  rotate_left
  · have hx : xget (Key.i .i64 (S.out : Int)) (S.ws.map (Key.i .i64)) (S.ws.map fun _ => AV.bool true) = none := by rw [xgetW, if_neg h]
    rw [if_neg h, if_neg h, decide_eq_false h]
    simp (config := { maxSteps := 1000000, implicitDefEqProofs := false }) only [-List.reduceReplicate, Nat.reduceBEq, renA, renL, renM, renO, evx, evs, evp, Eng.look, cst, cst1, putd, dstOk, params, loadx, partx, loI, hiI, bltx, mmI, boxx, srcx, calx, nilx, upd, del, resv, fillA, setMany, Nat.reduceLT, Nat.reduceLeDiff, Nat.reduceEqDiff, Nat.reduceAdd, Nat.reduceMul, Nat.reduceSub, reduceIte, reduceCtorEq, if_true, if_false, ite_true, ite_false, eq_self, forall_const, implies_true, Int.reduceLT, Int.reduceLE, Int.reduceToNat, Int.reduceAdd, Int.reduceSub, Int.reduceNeg, ne_eq, Int.reduceEq, Int.reduceNe, Int.reduceBEq, Int.reduceBNe, beq_self_eq_true, bne_self_eq_false, BitVec.reduceBEq, BitVec.reduceBNe, BitVec.reduceOfInt, BitVec.reduceSetWidth, wrD, engS0, engS1, engS2, engS3, engS4, engS5, engS6, engS7, engS8, engS9, engU0, engT0, engT1, engT2, Fx.t1, Fx.t3, Fx.t4, Fx.t5, Fx.t6, Fx.t91, Fx.t92, Fx.t137, Fx.t138, Fx.t139, Try.results97, Try.ntmps97, o, mp, q1, q2, q3, q4, q5, q6, mxT137, zvalB, keyA_int, hx]
    exact same _
  have hx : xget (Key.i .i64 (S.out : Int)) (S.ws.map (Key.i .i64)) (S.ws.map fun _ => AV.bool true) = some (.bool true) := by rw [xgetW, if_pos h]
  rw [if_pos h, if_pos h, decide_eq_true h]
  obtain ⟨n1, n2, n3, n4, n5⟩ := P.ab
  have hse := hso h
  have oc : ∀ X, Eng.look (Eng.upd m c X) a = some (.cells [.int .i64 jobs, .int .i64 room, .int .i64 S.next, Qv, .sl b 0 S.busy.length S.busy.length, .map c, Ov] 139) := fun X => by rw [look_upd_other _ n2.symm]; exact o
  have e1 : (nx = a) = False := eq_false (by have := P.an; omega)
  have mE : (S.ws.map (Key.i .i64)).eraseIdx (xidx (Key.i .i64 (S.out : Int)) (S.ws.map (Key.i .i64))) = (wsE S.ws S.out).map (Key.i .i64) := (map_eraseIdx' _ _ _).symm
  have vE : (S.ws.map fun _ => AV.bool true).eraseIdx (xidx (Key.i .i64 (S.out : Int)) (S.ws.map (Key.i .i64))) = (wsE S.ws S.out).map fun _ => AV.bool true := (map_eraseIdx' _ _ _).symm
  simp (config := { maxSteps := 1000000, implicitDefEqProofs := false }) only [-List.reduceReplicate, Nat.reduceBEq, renA, renL, renM, renO, evx, evs, evp, Eng.look, cst, cst1, putd, dstOk, params, loadx, partx, loI, hiI, bltx, mmI, boxx, srcx, calx, nilx, upd, del, resv, fillA, setMany, Nat.reduceLT, Nat.reduceLeDiff, Nat.reduceEqDiff, Nat.reduceAdd, Nat.reduceMul, Nat.reduceSub, reduceIte, reduceCtorEq, if_true, if_false, ite_true, ite_false, eq_self, forall_const, implies_true, Int.reduceLT, Int.reduceLE, Int.reduceToNat, Int.reduceAdd, Int.reduceSub, Int.reduceNeg, ne_eq, Int.reduceEq, Int.reduceNe, Int.reduceBEq, Int.reduceBNe, beq_self_eq_true, bne_self_eq_false, BitVec.reduceBEq, BitVec.reduceBNe, BitVec.reduceOfInt, BitVec.reduceSetWidth, wrD, engS0, engS1, engS2, engS3, engS4, engS5, engS6, engS7, engS8, engS9, engU0, engT0, engT1, engT2, Fx.t1, Fx.t3, Fx.t4, Fx.t5, Fx.t6, Fx.t91, Fx.t92, Fx.t137, Fx.t138, Fx.t139, Try.results97, Try.ntmps97, o, mp, q1, q2, q3, q4, q5, q6, mxT137, zvalB, keyA_int, hx, oc, e1, mE, vE]
  refine ⟨.inr trivial, rfl, rfl, ?_⟩
  rw [zs_one]
  have DC := D.upd c (.mx (.i .i64) ((wsE S.ws S.out).map (Key.i .i64)) ((wsE S.ws S.out).map fun _ => AV.bool true) (born.eraseIdx (xidx (Key.i .i64 (S.out : Int)) (S.ws.map (Key.i .i64)))))
  have ltC := upd_lt hlt c (.mx (.i .i64) ((wsE S.ws S.out).map (Key.i .i64)) ((wsE S.ws S.out).map fun _ => AV.bool true) (born.eraseIdx (xidx (Key.i .i64 (S.out : Int)) (S.ws.map (Key.i .i64)))))
  have keepC : ∀ k X, k ≠ c → Eng.look m k = some X → Eng.look ((nx, .cells ((List.replicate 1 (AV.int .i64 0)).set 0 (.int .i64 (S.out : Int))) 3) :: Eng.upd m c (.mx (.i .i64) ((wsE S.ws S.out).map (Key.i .i64)) ((wsE S.ws S.out).map fun _ => AV.bool true) (born.eraseIdx (xidx (Key.i .i64 (S.out : Int)) (S.ws.map (Key.i .i64)))))) k = some X := fun k X hk hX =>
    cons_keep ltC _ _ _ (by rw [look_upd_other _ (fun e => hk e.symm)]; exact hX)
  have na : a ∉ os := fun h => (n4 a (List.mem_append_right _ h)).1 rfl
  have nb : b ∉ os := fun h => (n4 b (List.mem_append_right _ h)).2.1 rfl
  have nc : c ∉ os := fun h => (n4 c (List.mem_append_right _ h)).2.2 rfl
  refine appk_qu (P.ou.ext fun k hk X hX => keepC k X (fun e => nc (by rw [← e]; exact hk)) hX) (DC.cons ltC _) (cons_lt ltC _) (fun _ _ => rfl) (by rw [rngZ_len]; omega) ?_
  intro v' m' nx' ns' hq' hxx hns D' lt' k' kn'
  rw [← rngZ_succ] at hq'
  have o' := k' a _ na (keepC a _ n2 o)
  obtain ⟨r1, r2, r3, r4, r5, r6⟩ := hq'.facts
  have hu : ∀ X, Eng.look (Eng.upd m' a X) a = some X := fun X => look_upd_same X o'
  simp (config := { maxSteps := 1000000, implicitDefEqProofs := false }) only [-List.reduceReplicate, Nat.reduceBEq, renA, renL, renM, renO, evx, evs, evp, Eng.look, cst, cst1, putd, dstOk, params, loadx, partx, loI, hiI, bltx, mmI, boxx, srcx, calx, nilx, upd, del, resv, fillA, setMany, Nat.reduceLT, Nat.reduceLeDiff, Nat.reduceEqDiff, Nat.reduceAdd, Nat.reduceMul, Nat.reduceSub, reduceIte, reduceCtorEq, if_true, if_false, ite_true, ite_false, eq_self, forall_const, implies_true, Int.reduceLT, Int.reduceLE, Int.reduceToNat, Int.reduceAdd, Int.reduceSub, Int.reduceNeg, ne_eq, Int.reduceEq, Int.reduceNe, Int.reduceBEq, Int.reduceBNe, beq_self_eq_true, bne_self_eq_false, BitVec.reduceBEq, BitVec.reduceBNe, BitVec.reduceOfInt, BitVec.reduceSetWidth, wrD, engS0, engS1, engS2, engS3, engS4, engS5, engS6, engS7, engS8, engS9, engU0, engT0, engT1, engT2, Fx.t1, Fx.t3, Fx.t4, Fx.t5, Fx.t6, Fx.t91, Fx.t92, Fx.t137, Fx.t138, Fx.t139, o', r1, r2, r3, r4, r5, r6, hu]
  have hns' : ∀ k ∈ ns', k ∈ os ∨ k = nx + 1 := fun k hk => by
    rcases hns with rfl | ⟨rfl, _⟩
    · exact .inl hk
    · exact .inr (List.mem_singleton.1 hk)
  have hna : ∀ k ∈ ns', a ≠ k := fun k hk e => by
    rcases hns' k hk with h | h
    · exact na (by rw [e]; exact h)
    · have := P.an; omega
  have oth : ∀ k X, a ≠ k → k ≠ c → k ∉ os → Eng.look m k = some X → Eng.look (Eng.upd m' a (.cells [.int .i64 jobs, .int .i64 room, .int .i64 S.next, Qv, .sl b 0 S.busy.length S.busy.length, .map c, v'] 139)) k = some X := fun k X h1 h2 h3 h4 => by
    rw [look_upd_other _ h1]; exact k' k X h3 (keepC k X h2 h4)
  have hc' : Eng.look (Eng.upd m' a (.cells [.int .i64 jobs, .int .i64 room, .int .i64 S.next, Qv, .sl b 0 S.busy.length S.busy.length, .map c, v'] 139)) c = some (.mx (.i .i64) ((wsE S.ws S.out).map (Key.i .i64)) ((wsE S.ws S.out).map fun _ => AV.bool true) (born.eraseIdx (xidx (Key.i .i64 (S.out : Int)) (S.ws.map (Key.i .i64))))) := by
    rw [look_upd_other _ n2]
    refine k' c _ nc ?_
    exact cons_keep ltC _ _ _ (look_upd_same _ mp)
  have DU := D'.upd a (.cells [.int .i64 jobs, .int .i64 room, .int .i64 S.next, Qv, .sl b 0 S.busy.length S.busy.length, .map c, v'] 139)
  have hxi := (xidxW (S.out : Int) S.ws).1 h
  refine Fin.keepW (m0 := Eng.upd m' a (.cells [.int .i64 jobs, .int .i64 room, .int .i64 S.next, Qv, .sl b 0 S.busy.length S.busy.length, .map c, v'] 139)) (by omega) (memSame_slf DU.nd) DU.nd DU.kp ⟨rfl, by omega, DU, upd_lt lt' a _, ⟨Qv, v', qs, ns', _, ⟨look_upd_same _ o', oth b _ n1 n3 nb P.bz, hc', ?_, P.qu.ext fun k hk X hX => oth k X (fun e => (n4 k (List.mem_append_left _ hk)).1 e.symm) (n4 k (List.mem_append_left _ hk)).2.2 (fun h => n5 k hk h) hX, hq'.ext fun k hk X hX => by rw [look_upd_other _ (hna k hk)]; exact hX, ?_, ?_, P.z1, by show S.out + 1 ≤ 10000; omega, P.z3, P.z4, P.z5, P.z6⟩, fun k hk => ?_⟩, fun k X hk hX => ?_⟩
  · show (born.eraseIdx _).length = (wsE S.ws S.out).length
    rw [wsE_len _ _ h, List.length_eraseIdx, P.bl, if_pos hxi]
  · rcases hns with rfl | ⟨rfl, _⟩
    · exact P.nd
    · exact nd_o P.nd (fun k hk => by have := P.lt k hk; omega)
  · intro k hk
    simp only [List.mem_cons, List.mem_append] at hk
    have hl := P.lt
    simp only [List.mem_cons, List.mem_append] at hl
    rcases hk with rfl | rfl | rfl | h | h
    · have := P.an; omega
    · have := hl k (.inr (.inl rfl)); omega
    · have := hl k (.inr (.inr (.inl rfl))); omega
    · have := hl k (.inr (.inr (.inr (.inl h)))); omega
    · rcases hns with rfl | ⟨rfl, hlt2⟩
      · have := hl k (.inr (.inr (.inr (.inr h)))); omega
      · have := List.mem_singleton.1 h; omega
  · simp only [List.mem_cons, List.mem_append] at hk ⊢
    rcases hk with h | h
    · exact .inl (.inr (.inr (.inr (.inl h))))
    · rcases hns' k h with h | h
      · exact .inl (.inr (.inr (.inr (.inr h))))
      · exact .inr (by omega)
  · simp only [List.mem_cons, List.mem_append, not_or] at hk
    exact oth k X (fun e => hk.1 e.symm) hk.2.2.1 hk.2.2.2.2 hX
end
end Go.Proofs.Ytmnbbpckglppjaa
