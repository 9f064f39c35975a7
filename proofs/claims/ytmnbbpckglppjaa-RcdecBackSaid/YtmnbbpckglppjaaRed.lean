/- Coding bits: scale. -/
import Derived.Test.YtmnbbpckglppjaaEng19
import Derived.Test.YtmnbbpckglppjaaEng26
import Derived.Test.YtmnbbpckglppjaaRec
import Derived.Test.YtmnbbpckglppjaaRdb
set_option linter.unusedVariables false
set_option linter.unusedSimpArgs false
set_option maxRecDepth 100000
namespace Go.Eng
theorem SlT.pos {T : SlT} {s : T.σ} {x : AV × Mem × Nat} (hx : T.Start s x) : 0 < x.2.2 := by rcases hx with ⟨_, rfl⟩ | ⟨cap, sp, rfl, _, _⟩ <;> simp
theorem SlT.start_of {T : SlT} {s s' : T.σ} {x : AV × Mem × Nat} (hx : T.Start s x) (h : T.out s' = T.out s) : T.Start s' x := by
  rcases hx with ⟨h1, rfl⟩ | ⟨cap, sp, rfl, h1, h2⟩
  · exact .inl ⟨h.trans h1, rfl⟩
  · exact .inr ⟨cap, sp, by rw [h], by rw [h]; exact h1, h2⟩
theorem SlT.looks {T : SlT} {s : T.σ} {x : AV × Mem × Nat} (hx : T.Start s x) (o : AObj) : ∀ p ∈ x.2.1, look ((0, o) :: x.2.1) p.1 = some p.2 := by
  rcases hx with ⟨h1, rfl⟩ | ⟨cap, sp, rfl, h1, h2⟩
  · intro p hp; cases hp
  · intro p hp; cases List.mem_singleton.1 hp; rfl
/-- the end of such a contract, behind a call of such a kind -/
theorem SlT.finW {T : SlT} {s s1 s' : T.σ} {V V1 : AV} {x : AV × Mem × Nat} (hx : T.Start s x) (hs1 : T.out s1 = T.out s) (hV : ∀ f, renA f V = V) {v : AV} {m : Mem} {nx : Nat} (h : T.C V1 s1 s' x v m nx) : Fin x.2.2 (fun _ => true) m nx (T.C V s s' x) V := by
  obtain ⟨_, ⟨e1, rfl, rfl⟩ | ⟨cap, sp, c1, c2, rfl, rfl⟩⟩ := h
  · exact SlT.finU' hx (e1.trans hs1) hV (by simp [look]) (SlT.looks hx _)
  · have := SlT.pos hx
    have hne : 0 ≠ x.2.2 := by omega
    refine SlT.finC hx hV (n := x.2.2) (Ne.symm hne) rfl ?_ c1 c2
    simp only [look, if_neg hne, if_true]
end Go.Eng
namespace Go.Proofs.Ytmnbbpckglppjaa
open Go Go.Eng

def szE (e : ES) (r : BitVec 32) : ES := ⟨e.low, r, e.held, e.full, e.out⟩
def sclE : Nat → ES → ES
  | 0, e => e
  | f + 1, e => if 16777216 ≤ e.size.toNat then e else sclE f (putS (szE e (e.size <<< 8)))
theorem putS_len (e : ES) : (putS e).out.length + (putS e).full = e.out.length + e.full + 1 ∧ (putS e).size = e.size := by
  unfold putS
  split
  · simp; omega
  · simp; omega
theorem sclE_len : ∀ (f : Nat) (e : ES), (sclE f e).out.length + (sclE f e).full ≤ e.out.length + e.full + f
  | 0, e => Nat.le_refl _
  | f + 1, e => by
    rw [sclE]
    split
    · omega
    · have h1 := sclE_len f (putS (szE e (e.size <<< 8)))
      have h2 := (putS_len (szE e (e.size <<< 8))).1
      have h3 : (szE e (e.size <<< 8)).out = e.out := rfl
      have h4 : (szE e (e.size <<< 8)).full = e.full := rfl
      rw [h3, h4] at h2
      omega
def memE (x : AV × Mem × Nat) (y : ES) : Option (Nat × List Value) → Mem × Nat
  | none => ((0, encO x.1 y) :: x.2.1, x.2.2)
  | some (cap, sp) => ([(0, encO (.sl x.2.2 0 y.out.length cap) y), (x.2.2, rowO y.out sp)], x.2.2 + 1)
def memQ (e y : ES) : Option (Nat × List Value) → Prop
  | none => y.out = e.out
  | some (cap, sp) => y.out.length + sp.length = cap ∧ cap ≤ maxI
theorem nodupE {e : ES} {x : AV × Mem × Nat} (hx : encT.Start e x) (y : ES) (z : Option (Nat × List Value)) : ((memE x y z).1.map fun p => p.1).Nodup := by
  rcases hx with ⟨h1, rfl⟩ | ⟨cap, sp, rfl, h1, h2⟩ <;> rcases z with _ | ⟨c, s⟩ <;> simp [memE]
theorem leNewT {x : AV × Mem × Nat} (hpos : 0 < x.2.2) {y : ES} {cap : Nat} {sp : List Value} {t t' : Slots} {J : Mem} (ht : slotsLe (rf [(x.2.2, x.2.2 + 1)] (x.2.2 + 1 + 1) (x.2.2 + 1)) t t') :
    ∃ l, Le x.2.2 l (fun _ => true) t ((0, encO (.sl (x.2.2 + 1) 0 y.out.length cap) y) :: (x.2.2 + 1, rowO y.out sp) :: J) (x.2.2 + 1 + 1) t' (memE x y (some (cap, sp))).1 (memE x y (some (cap, sp))).2 := by
  have hne : x.2.2 ≠ 0 := by omega
  have f0 : rf [(x.2.2, x.2.2 + 1)] (x.2.2 + 1 + 1) (x.2.2 + 1) 0 = 0 := by simp [rf, Eng.look, hne]
  have f1 : rf [(x.2.2, x.2.2 + 1)] (x.2.2 + 1 + 1) (x.2.2 + 1) x.2.2 = x.2.2 + 1 := by simp [rf, Eng.look]
  refine ⟨[(x.2.2, x.2.2 + 1)], by simp [memE], Nat.le_succ _, ht, ⟨?_, rfl, ?_, rfl, trivial⟩, ?_, (fun n e => by cases e), fun _ _ => rfl⟩
  · rw [show (memE x y (some (cap, sp))).2 = x.2.2 + 1 from rfl, f0, encO_ren]
    simp only [renA, f1]
    rfl
  · rw [show (memE x y (some (cap, sp))).2 = x.2.2 + 1 from rfl, f1, rowO_ren]
    simp [Eng.look]
  · rw [show (memE x y (some (cap, sp))).2 = x.2.2 + 1 from rfl]
    simp [injOn, memE, f0, f1]
theorem rfNew {a : Nat} (hpos : 0 < a) : rf [(a, a + 1)] (a + 1 + 1) (a + 1) 0 = 0 := by
  have : a ≠ 0 := by omega
  simp [rf, Eng.look, this]
theorem leNew {x : AV × Mem × Nat} (hpos : 0 < x.2.2) {y : ES} {cap : Nat} {sp : List Value} {t : Slots} {J : Mem} (ht : Eng.look t 0 = some (.ptr 0 0)) :
    ∃ l, Le x.2.2 l (fun _ => true) t ((0, encO (.sl (x.2.2 + 1) 0 y.out.length cap) y) :: (x.2.2 + 1, rowO y.out sp) :: J) (x.2.2 + 1 + 1) [(0, .ptr 0 0)] (memE x y (some (cap, sp))).1 (memE x y (some (cap, sp))).2 :=
  leNewT hpos ⟨by rw [ht]; simp only [renA, rfNew hpos], trivial⟩
set_option maxHeartbeats 1000000 in
theorem sclEOk (e : ES) (hb : e.out.length + e.full + 3 ≤ 1000000) (hr : 1 ≤ e.size.toNat) : encT.Ok Try.prog 79 [] (.tup []) e (sclE 3 e) := by
  intro x hx
  have hpos := SlT.pos hx
  have hne : 0 ≠ x.2.2 := by omega
  refine fn_okG Try.func79 rfl (by show 1 ≤ _; decide) ?_
  simp (config := { maxSteps := 1000000, implicitDefEqProofs := false }) only [-List.reduceReplicate, Nat.reduceBEq, renA, renL, renM, renO, evx, evs, evp, Eng.look, cst, cst1, putd, dstOk, params, loadx, partx, loI, hiI, bltx, mmI, boxx, srcx, calx, nilx, upd, del, resv, fillA, setMany, Nat.reduceLT, Nat.reduceLeDiff, Nat.reduceEqDiff, Nat.reduceAdd, Nat.reduceMul, Nat.reduceSub, reduceIte, reduceCtorEq, if_true, if_false, ite_true, ite_false, eq_self, forall_const, implies_true, Int.reduceLT, Int.reduceLE, Int.reduceToNat, Int.reduceAdd, Int.reduceSub, Int.reduceNeg, ne_eq, Int.reduceEq, Int.reduceNe, Int.reduceBEq, Int.reduceBNe, beq_self_eq_true, bne_self_eq_false, BitVec.reduceBEq, BitVec.reduceBNe, BitVec.reduceOfInt, BitVec.reduceSetWidth, wrD, engS0, engS1, engS2, engS3, engS4, engS5, engS6, engS7, engS8, engS9, engT0, engT1, engT2, Fx.t1, Fx.t3, Fx.t4, Fx.t5, Fx.t22, Fx.t23, Fx.t53, Fx.t65, Fx.t123, Fx.t124, Fx.en82, Try.results79, Try.ntmps79, encT_obj]
  refine LoopOk.upX (fun i (z : ES × Option (Nat × List Value)) => memQ e z.1 z.2 ∧ sclE (3 - i) z.1 = sclE 3 e ∧ 16777216 ≤ z.1.size.toNat * 256 ^ (3 - i) ∧ z.1.out.length + z.1.full = e.out.length + e.full + i) 3
    (fun i z => ([(0, .ptr 0 0)], memE x z.1 z.2)) (e, none) ⟨rfl, rfl, by show 16777216 ≤ e.size.toNat * 16777216; omega, rfl⟩ (Le.sameT (Nat.le_refl _) ⟨rfl, trivial⟩ (memSame_slf (nodupE hx e none)) (nodupE hx e none)) ?_
  rintro i ⟨y, z⟩ ⟨hi, q0, h1, h3, q4⟩
  dsimp only at q0 h1 h3 q4
  rcases Nat.lt_or_ge y.size.toNat 16777216 with h | h
  · have g1 : decide ((y.size.toNat : Int) < 16777216) = true := by simp; omega
    have hi3 : i < 3 := by
      rcases Nat.lt_or_ge i 3 with g | g
      · exact g
      · rw [show 3 - i = 0 by omega] at h3; omega
    have hst : sclE (3 - (i + 1)) (putS (szE y (y.size <<< 8))) = sclE 3 e := by
      rw [← h1, show 3 - i = (3 - (i + 1)) + 1 by omega, sclE, if_neg (by omega)]
    have hr2 := shl8 y.size h
    have hp : 256 ^ (3 - i) = 256 * 256 ^ (3 - (i + 1)) := by rw [show 3 - i = (3 - (i + 1)) + 1 by omega, Nat.pow_succ, Nat.mul_comm]
    obtain ⟨l1, l2⟩ := putS_len (szE y (y.size <<< 8))
    have hP := putOk (szE y (y.size <<< 8)) (by show y.out.length + y.full ≤ _; omega)
    have hQ : ∀ z', memQ e (putS (szE y (y.size <<< 8))) z' → memQ e (putS (szE y (y.size <<< 8))) z' ∧ sclE (3 - (i + 1)) (putS (szE y (y.size <<< 8))) = sclE 3 e ∧ 16777216 ≤ (putS (szE y (y.size <<< 8))).size.toNat * 256 ^ (3 - (i + 1)) ∧ (putS (szE y (y.size <<< 8))).out.length + (putS (szE y (y.size <<< 8))).full = e.out.length + e.full + (i + 1) :=
      fun z' hz => ⟨hz, hst, by rw [l2]; show _ ≤ (y.size <<< 8).toNat * _; rw [hr2, Nat.mul_assoc, ← hp]; exact h3, by rw [l1]; show y.out.length + y.full + 1 = _; omega⟩
    rcases z with _ | ⟨cap, sp⟩
    · simp (config := { maxSteps := 1000000, implicitDefEqProofs := false }) only [-List.reduceReplicate, Nat.reduceBEq, renA, renL, renM, renO, evx, evs, evp, Eng.look, cst, cst1, putd, dstOk, params, loadx, partx, loI, hiI, bltx, mmI, boxx, srcx, calx, nilx, upd, del, resv, fillA, setMany, Nat.reduceLT, Nat.reduceLeDiff, Nat.reduceEqDiff, Nat.reduceAdd, Nat.reduceMul, Nat.reduceSub, reduceIte, reduceCtorEq, if_true, if_false, ite_true, ite_false, eq_self, forall_const, implies_true, Int.reduceLT, Int.reduceLE, Int.reduceToNat, Int.reduceAdd, Int.reduceSub, Int.reduceNeg, ne_eq, Int.reduceEq, Int.reduceNe, Int.reduceBEq, Int.reduceBNe, beq_self_eq_true, bne_self_eq_false, BitVec.reduceBEq, BitVec.reduceBNe, BitVec.reduceOfInt, BitVec.reduceSetWidth, wrD, engS0, engS1, engS2, engS3, engS4, engS5, engS6, engS7, engS8, engS9, engT0, engT1, engT2, Fx.t1, Fx.t3, Fx.t4, Fx.t5, Fx.t22, Fx.t23, Fx.t53, Fx.t65, Fx.t123, Fx.t124, Fx.en82, memE, encO, g1]
      refine CallG.weak (hP x (SlT.start_of hx q0)) ?_
      rintro v m nx ⟨rfl, ⟨e1, rfl, rfl⟩ | ⟨cap, sp, c1, c2, rfl, rfl⟩⟩
      · simp (config := { maxSteps := 1000000, implicitDefEqProofs := false }) only [-List.reduceReplicate, Nat.reduceBEq, renA, renL, renM, renO, evx, evs, evp, Eng.look, cst, cst1, putd, dstOk, params, loadx, partx, loI, hiI, bltx, mmI, boxx, srcx, calx, nilx, upd, del, resv, fillA, setMany, Nat.reduceLT, Nat.reduceLeDiff, Nat.reduceEqDiff, Nat.reduceAdd, Nat.reduceMul, Nat.reduceSub, reduceIte, reduceCtorEq, if_true, if_false, ite_true, ite_false, eq_self, forall_const, implies_true, Int.reduceLT, Int.reduceLE, Int.reduceToNat, Int.reduceAdd, Int.reduceSub, Int.reduceNeg, ne_eq, Int.reduceEq, Int.reduceNe, Int.reduceBEq, Int.reduceBNe, beq_self_eq_true, bne_self_eq_false, BitVec.reduceBEq, BitVec.reduceBNe, BitVec.reduceOfInt, BitVec.reduceSetWidth, wrD, engS0, engS1, engS2, engS3, engS4, engS5, engS6, engS7, engS8, engS9, engT0, engT1, engT2, Fx.t1, Fx.t3, Fx.t4, Fx.t5, Fx.t22, Fx.t23, Fx.t53, Fx.t65, Fx.t123, Fx.t124, Fx.en82]
        exact UpX_normal hi3 (_, none) (hQ none (e1.trans q0)) (Le.sameT (Nat.le_refl _) ⟨rfl, trivial⟩ (memSame_slf (nodupE hx _ none)) (nodupE hx _ none))
      · simp (config := { maxSteps := 1000000, implicitDefEqProofs := false }) only [-List.reduceReplicate, Nat.reduceBEq, renA, renL, renM, renO, evx, evs, evp, Eng.look, cst, cst1, putd, dstOk, params, loadx, partx, loI, hiI, bltx, mmI, boxx, srcx, calx, nilx, upd, del, resv, fillA, setMany, Nat.reduceLT, Nat.reduceLeDiff, Nat.reduceEqDiff, Nat.reduceAdd, Nat.reduceMul, Nat.reduceSub, reduceIte, reduceCtorEq, if_true, if_false, ite_true, ite_false, eq_self, forall_const, implies_true, Int.reduceLT, Int.reduceLE, Int.reduceToNat, Int.reduceAdd, Int.reduceSub, Int.reduceNeg, ne_eq, Int.reduceEq, Int.reduceNe, Int.reduceBEq, Int.reduceBNe, beq_self_eq_true, bne_self_eq_false, BitVec.reduceBEq, BitVec.reduceBNe, BitVec.reduceOfInt, BitVec.reduceSetWidth, wrD, engS0, engS1, engS2, engS3, engS4, engS5, engS6, engS7, engS8, engS9, engT0, engT1, engT2, Fx.t1, Fx.t3, Fx.t4, Fx.t5, Fx.t22, Fx.t23, Fx.t53, Fx.t65, Fx.t123, Fx.t124, Fx.en82]
        exact UpX_normal hi3 (_, some (cap, sp)) (hQ _ ⟨c1, c2⟩) (Le.sameT (Nat.le_succ _) ⟨rfl, trivial⟩ (memSame_slf (nodupE hx _ (some (cap, sp)))) (nodupE hx _ (some (cap, sp))))
    · simp (config := { maxSteps := 1000000, implicitDefEqProofs := false }) only [-List.reduceReplicate, Nat.reduceBEq, renA, renL, renM, renO, evx, evs, evp, Eng.look, cst, cst1, putd, dstOk, params, loadx, partx, loI, hiI, bltx, mmI, boxx, srcx, calx, nilx, upd, del, resv, fillA, setMany, Nat.reduceLT, Nat.reduceLeDiff, Nat.reduceEqDiff, Nat.reduceAdd, Nat.reduceMul, Nat.reduceSub, reduceIte, reduceCtorEq, if_true, if_false, ite_true, ite_false, eq_self, forall_const, implies_true, Int.reduceLT, Int.reduceLE, Int.reduceToNat, Int.reduceAdd, Int.reduceSub, Int.reduceNeg, ne_eq, Int.reduceEq, Int.reduceNe, Int.reduceBEq, Int.reduceBNe, beq_self_eq_true, bne_self_eq_false, BitVec.reduceBEq, BitVec.reduceBNe, BitVec.reduceOfInt, BitVec.reduceSetWidth, wrD, engS0, engS1, engS2, engS3, engS4, engS5, engS6, engS7, engS8, engS9, engT0, engT1, engT2, Fx.t1, Fx.t3, Fx.t4, Fx.t5, Fx.t22, Fx.t23, Fx.t53, Fx.t65, Fx.t123, Fx.t124, Fx.en82, memE, encO, g1]
      have hr1 : Eng.look ((0, encO (.sl x.2.2 0 y.out.length cap) (szE y (y.size <<< 8))) :: [(x.2.2, rowO y.out sp)]) x.2.2 = some (rowO y.out sp) := by simp only [Eng.look, if_neg hne, if_true]
      refine SlT.useS (T := encT) (a := 0) (n := x.2.2) (args0 := []) hP (fun _ => rfl) (fun _ => rfl) hne rfl hr1 q0.1 q0.2 rfl rfl ?_ ?_
      · intro e1
        have e2 : (putS (szE y (y.size <<< 8))).out = y.out := e1
        simp (config := { maxSteps := 1000000, implicitDefEqProofs := false }) only [-List.reduceReplicate, Nat.reduceBEq, renA, renL, renM, renO, evx, evs, evp, Eng.look, cst, cst1, putd, dstOk, params, loadx, partx, loI, hiI, bltx, mmI, boxx, srcx, calx, nilx, upd, del, resv, fillA, setMany, Nat.reduceLT, Nat.reduceLeDiff, Nat.reduceEqDiff, Nat.reduceAdd, Nat.reduceMul, Nat.reduceSub, reduceIte, reduceCtorEq, if_true, if_false, ite_true, ite_false, eq_self, forall_const, implies_true, Int.reduceLT, Int.reduceLE, Int.reduceToNat, Int.reduceAdd, Int.reduceSub, Int.reduceNeg, ne_eq, Int.reduceEq, Int.reduceNe, Int.reduceBEq, Int.reduceBNe, beq_self_eq_true, bne_self_eq_false, BitVec.reduceBEq, BitVec.reduceBNe, BitVec.reduceOfInt, BitVec.reduceSetWidth, wrD, engS0, engS1, engS2, engS3, engS4, engS5, engS6, engS7, engS8, engS9, engT0, engT1, engT2, Fx.t1, Fx.t3, Fx.t4, Fx.t5, Fx.t22, Fx.t23, Fx.t53, Fx.t65, Fx.t123, Fx.t124, Fx.en82]
        refine UpX_normal hi3 (putS (szE y (y.size <<< 8)), some (cap, sp)) (hQ (some (cap, sp)) ⟨by rw [e2]; exact q0.1, q0.2⟩) ?_
        refine Le.sameT (Nat.le_succ _) ⟨rfl, trivial⟩ ⟨?_, ?_, trivial⟩ (nodupE hx _ (some (cap, sp)))
        · rw [e2]; rfl
        · rw [e2]; simp only [Eng.look, if_neg hne, if_true]; rfl
      · intro cap2 sp2 c1 c2
        simp (config := { maxSteps := 1000000, implicitDefEqProofs := false }) only [-List.reduceReplicate, Nat.reduceBEq, renA, renL, renM, renO, evx, evs, evp, Eng.look, cst, cst1, putd, dstOk, params, loadx, partx, loI, hiI, bltx, mmI, boxx, srcx, calx, nilx, upd, del, resv, fillA, setMany, Nat.reduceLT, Nat.reduceLeDiff, Nat.reduceEqDiff, Nat.reduceAdd, Nat.reduceMul, Nat.reduceSub, reduceIte, reduceCtorEq, if_true, if_false, ite_true, ite_false, eq_self, forall_const, implies_true, Int.reduceLT, Int.reduceLE, Int.reduceToNat, Int.reduceAdd, Int.reduceSub, Int.reduceNeg, ne_eq, Int.reduceEq, Int.reduceNe, Int.reduceBEq, Int.reduceBNe, beq_self_eq_true, bne_self_eq_false, BitVec.reduceBEq, BitVec.reduceBNe, BitVec.reduceOfInt, BitVec.reduceSetWidth, wrD, engS0, engS1, engS2, engS3, engS4, engS5, engS6, engS7, engS8, engS9, engT0, engT1, engT2, Fx.t1, Fx.t3, Fx.t4, Fx.t5, Fx.t22, Fx.t23, Fx.t53, Fx.t65, Fx.t123, Fx.t124, Fx.en82]
        exact UpX_normal hi3 (putS (szE y (y.size <<< 8)), some (cap2, sp2)) (hQ (some (cap2, sp2)) ⟨c1, c2⟩) (leNew hpos rfl)
  · have g1 : decide ((y.size.toNat : Int) < 16777216) = false := by simp; omega
    have hst : y = sclE 3 e := by
      rw [← h1]
      cases hc : 3 - i with
      | zero => rfl
      | succ f => rw [sclE, if_pos (by omega)]
    rcases z with _ | ⟨cap, sp⟩
    · simp (config := { maxSteps := 1000000, implicitDefEqProofs := false }) only [-List.reduceReplicate, Nat.reduceBEq, renA, renL, renM, renO, evx, evs, evp, Eng.look, cst, cst1, putd, dstOk, params, loadx, partx, loI, hiI, bltx, mmI, boxx, srcx, calx, nilx, upd, del, resv, fillA, setMany, Nat.reduceLT, Nat.reduceLeDiff, Nat.reduceEqDiff, Nat.reduceAdd, Nat.reduceMul, Nat.reduceSub, reduceIte, reduceCtorEq, if_true, if_false, ite_true, ite_false, eq_self, forall_const, implies_true, Int.reduceLT, Int.reduceLE, Int.reduceToNat, Int.reduceAdd, Int.reduceSub, Int.reduceNeg, ne_eq, Int.reduceEq, Int.reduceNe, Int.reduceBEq, Int.reduceBNe, beq_self_eq_true, bne_self_eq_false, BitVec.reduceBEq, BitVec.reduceBNe, BitVec.reduceOfInt, BitVec.reduceSetWidth, wrD, engS0, engS1, engS2, engS3, engS4, engS5, engS6, engS7, engS8, engS9, engT0, engT1, engT2, Fx.t1, Fx.t3, Fx.t4, Fx.t5, Fx.t22, Fx.t23, Fx.t53, Fx.t65, Fx.t123, Fx.t124, Fx.en82, memE, encO, g1]
      rw [← hst]
      exact SlT.finU' hx q0 (fun _ => rfl) rfl (SlT.looks hx _)
    · simp (config := { maxSteps := 1000000, implicitDefEqProofs := false }) only [-List.reduceReplicate, Nat.reduceBEq, renA, renL, renM, renO, evx, evs, evp, Eng.look, cst, cst1, putd, dstOk, params, loadx, partx, loI, hiI, bltx, mmI, boxx, srcx, calx, nilx, upd, del, resv, fillA, setMany, Nat.reduceLT, Nat.reduceLeDiff, Nat.reduceEqDiff, Nat.reduceAdd, Nat.reduceMul, Nat.reduceSub, reduceIte, reduceCtorEq, if_true, if_false, ite_true, ite_false, eq_self, forall_const, implies_true, Int.reduceLT, Int.reduceLE, Int.reduceToNat, Int.reduceAdd, Int.reduceSub, Int.reduceNeg, ne_eq, Int.reduceEq, Int.reduceNe, Int.reduceBEq, Int.reduceBNe, beq_self_eq_true, bne_self_eq_false, BitVec.reduceBEq, BitVec.reduceBNe, BitVec.reduceOfInt, BitVec.reduceSetWidth, wrD, engS0, engS1, engS2, engS3, engS4, engS5, engS6, engS7, engS8, engS9, engT0, engT1, engT2, Fx.t1, Fx.t3, Fx.t4, Fx.t5, Fx.t22, Fx.t23, Fx.t53, Fx.t65, Fx.t123, Fx.t124, Fx.en82, memE, encO, g1]
      rw [← hst]
      exact SlT.finC hx (fun _ => rfl) (n := x.2.2) (Ne.symm hne) rfl (by simp [Eng.look, hne]; rfl) q0.1 q0.2
end Go.Proofs.Ytmnbbpckglppjaa
