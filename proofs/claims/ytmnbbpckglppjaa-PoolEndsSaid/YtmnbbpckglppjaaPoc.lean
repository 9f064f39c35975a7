/- Turns: rows of numbers; which actors may go on, in the document's pool; are numbers alike? -/
import Derived.Test.YtmnbbpckglppjaaEng19
import Derived.Test.YtmnbbpckglppjaaEng26
import Derived.Test.YtmnbbpckglppjaaPob
set_option linter.unusedVariables false
set_option linter.unusedSimpArgs false
set_option maxRecDepth 100000
namespace Go.Proofs.Ytmnbbpckglppjaa
open Go Go.Eng

def zRow (L : List Int) (sp : List Value) : AObj := .cells (zs L ++ sp.map AV.val) 3
def zA (L : List Int) : Option (Nat × Nat × List Value) → AV
  | none => .nils
  | some (n, cap, _) => .sl n 0 L.length cap
def zM (L : List Int) : Option (Nat × Nat × List Value) → Mem
  | none => []
  | some (n, _, sp) => [(n, zRow L sp)]
def zQ (L : List Int) (lo hi : Nat) : Option (Nat × Nat × List Value) → Prop
  | none => L = []
  | some (n, cap, sp) => lo ≤ n ∧ n < hi ∧ L.length ≤ cap ∧ cap ≤ maxI ∧ sp.length = (cap - L.length) * 1
def SlK (L : List Int) (m : Mem) (nx : Nat) : Kv := fun v m' nx' => ∃ o, v = zA L o ∧ zQ L nx nx' o ∧ m' = zM L o ++ m ∧ nx ≤ nx'
theorem zM_rdm {wr : Nat → Bool} {m : Mem} {nx N : Nat} {L : List Int} {o : Option (Nat × Nat × List Value)} (D : Rdm wr m nx) (hlt : ∀ p ∈ m, p.1 < nx) (h : zQ L nx N o) (hN : nx ≤ N) : Rdm wr (zM L o ++ m) N ∧ (∀ p ∈ zM L o ++ m, p.1 < N) ∧ (∀ k X, Eng.look m k = some X → Eng.look (zM L o ++ m) k = some X) := by
  rcases o with _ | ⟨n, cap, sp⟩
  · exact ⟨D.up hN, fun p hp => by have := hlt p hp; omega, fun _ _ h => h⟩
  · have h1 : nx ≤ n := h.1
    have h2 : n < N := h.2.1
    refine ⟨(D.up hN).consN (fun p hp => by have := hlt p hp; omega) _, fun p hp => ?_, fun k X hk => ?_⟩
    · rcases List.mem_cons.1 hp with rfl | hp
      · exact h2
      · have := hlt p hp; omega
    · obtain ⟨y, hy, e⟩ := look_lt hk
      have := hlt y hy
      show Eng.look ((n, zRow L sp) :: m) k = _
      rw [look_cons, if_neg (by omega)]; exact hk
theorem RefAt.ext {m m' : Mem} {nx N a n : Nat} {A : List Int} {W R : Int} (F : RefAt m nx a n A W R) (hN : nx ≤ N) (h : ∀ k X, Eng.look m k = some X → Eng.look m' k = some X) : RefAt m' N a n A W R :=
  ⟨h _ _ F.o, h _ _ F.q, by have := F.an; omega, by have := F.nn; omega, F.ne, F.sm⟩
def enF (f : Nat → Bool) : Nat → List Int
  | 0 => []
  | k + 1 => if f k = true then enF f k ++ [(k : Int)] else enF f k
theorem enF_len (f : Nat → Bool) : ∀ k, (enF f k).length ≤ k
  | 0 => Nat.le_refl _
  | k + 1 => by
    have := enF_len f k
    rw [enF]; split
    · rw [List.length_append, List.length_singleton]; omega
    · omega
theorem zs_one (x : Int) : List.take 1 ((List.replicate 1 (AV.int .i64 0)).set 0 (.int .i64 x)) = zs [x] := rfl
theorem zs_app (l l' : List Int) : zs l ++ zs l' = zs (l ++ l') := by simp [zs]
section
variable {wr : Nat → Bool} {m : Mem} {nx a n : Nat} {A : List Int} {w R : Nat}
set_option maxHeartbeats 2000000 in
theorem enROk (D : Rdm wr m nx) (hlt : ∀ p ∈ m, p.1 < nx) (F : RefAt m nx a n A w R) (hW : 1 ≤ w ∧ w ≤ 64) (hR : 1 ≤ R ∧ R ≤ 64) :
    CallG false Try.prog 58 [.ptr a 0] wr m nx (SlK (enF (fun x : Nat => decide (0 ≤ (nextZ A (w : Int) (R : Int) (x : Int)).1)) (w + 2)) m nx) := by
  refine fn_okG Try.func58 rfl (by show 1 ≤ _; decide) ?_
  have o := F.o
  have w1 : IntKind.i64.wrap ((w : Int) + 1) = (w : Int) + 1 := by rw [wrap_i64] <;> omega
  obtain ⟨f, hf⟩ : ∃ f : Nat → Bool, f = fun x : Nat => decide (0 ≤ (nextZ A (w : Int) (R : Int) (x : Int)).1) := ⟨_, rfl⟩
  rw [← hf]
  simp (config := { maxSteps := 1000000, implicitDefEqProofs := false }) only [-List.reduceReplicate, Nat.reduceBEq, renA, renL, renM, renO, evx, evs, evp, Eng.look, cst, cst1, putd, dstOk, params, loadx, partx, loI, hiI, bltx, mmI, boxx, srcx, calx, nilx, upd, del, resv, fillA, setMany, Nat.reduceLT, Nat.reduceLeDiff, Nat.reduceEqDiff, Nat.reduceAdd, Nat.reduceMul, Nat.reduceSub, reduceIte, reduceCtorEq, if_true, if_false, ite_true, ite_false, eq_self, forall_const, implies_true, Int.reduceLT, Int.reduceLE, Int.reduceToNat, Int.reduceAdd, Int.reduceSub, Int.reduceNeg, ne_eq, Int.reduceEq, Int.reduceNe, Int.reduceBEq, Int.reduceBNe, beq_self_eq_true, bne_self_eq_false, BitVec.reduceBEq, BitVec.reduceBNe, BitVec.reduceOfInt, BitVec.reduceSetWidth, wrD, engS0, engS1, engS2, engS3, engS4, engS5, engS6, engS7, engS8, engS9, engU0, engT0, engT1, engT2, Fx.t1, Fx.t3, Fx.t4, Fx.t91, Fx.t96, Fx.t97, Fx.t98, Fx.en88, Try.results58, Try.ntmps58]
  refine LoopOk.upX (fun i (g : Option (Nat × Nat × List Value) × Nat) => zQ (enF f i) nx g.2 g.1 ∧ nx ≤ g.2) (w + 2) (fun i g => ([(4, .int .i64 (i : Nat)), (3, zA (enF f i) g.1), (0, .ptr a 0)], zM (enF f i) g.1 ++ m, g.2)) (none, nx) ⟨rfl, Nat.le_refl _⟩ ?_ ?_
  · exact D.le ⟨rfl, rfl, rfl, trivial⟩
  rintro i ⟨q, N⟩ ⟨hi, c1, c2⟩
  have c1 : zQ (enF f i) nx N q := c1
  have c2 : nx ≤ N := c2
  have hen := enF_len f i
  obtain ⟨D2, lt2, k2⟩ := zM_rdm D hlt c1 c2
  have F2 := F.ext c2 k2
  have o2 := F2.o
  rcases Nat.lt_or_ge i (w + 2) with h | h
  · have g1 : decide ((i : Int) ≤ (w : Int) + 1) = true := decide_eq_true (by omega)
    have w2 : IntKind.i64.wrap ((i : Int) + 1) = ((i + 1 : Nat) : Int) := by rw [wrap_i64] <;> omega
    simp (config := { maxSteps := 1000000, implicitDefEqProofs := false }) only [-List.reduceReplicate, Nat.reduceBEq, renA, renL, renM, renO, evx, evs, evp, Eng.look, cst, cst1, putd, dstOk, params, loadx, partx, loI, hiI, bltx, mmI, boxx, srcx, calx, nilx, upd, del, resv, fillA, setMany, Nat.reduceLT, Nat.reduceLeDiff, Nat.reduceEqDiff, Nat.reduceAdd, Nat.reduceMul, Nat.reduceSub, reduceIte, reduceCtorEq, if_true, if_false, ite_true, ite_false, eq_self, forall_const, implies_true, Int.reduceLT, Int.reduceLE, Int.reduceToNat, Int.reduceAdd, Int.reduceSub, Int.reduceNeg, ne_eq, Int.reduceEq, Int.reduceNe, Int.reduceBEq, Int.reduceBNe, beq_self_eq_true, bne_self_eq_false, BitVec.reduceBEq, BitVec.reduceBNe, BitVec.reduceOfInt, BitVec.reduceSetWidth, wrD, engS0, engS1, engS2, engS3, engS4, engS5, engS6, engS7, engS8, engS9, engU0, engT0, engT1, engT2, Fx.t1, Fx.t3, Fx.t4, Fx.t91, Fx.t96, Fx.t97, Fx.t98, Fx.en88, o2, w1, g1]
    refine (CallG.any (nextROk D2 F2 (by omega) (by omega) (i : Int) (by omega))).weak ?_
    rintro v m3 nx3 ⟨rfl, rfl, rfl⟩
    by_cases hk : 0 ≤ (nextZ A w R i).1
    · have k1 : decide ((nextZ A w R i).1 ≥ 0) = true := decide_eq_true hk
      have hs : enF f (i + 1) = enF f i ++ [(i : Int)] := by rw [enF, if_pos (by rw [hf]; exact decide_eq_true hk)]
      have fin : ∀ {M : Mem} {N' cap' : Nat} {sp' : List Value} {t : Slots}, nx ≤ N' → slotsSame t ([(4, .int .i64 ((i + 1 : Nat) : Int)), (3, .sl N' 0 (enF f (i + 1)).length cap'), (0, .ptr a 0)]) → Eng.look M N' = some (zRow (enF f (i + 1)) sp') → (∀ p ∈ m, Eng.look M p.1 = some p.2) →
          ∃ l, Le nx l wr t M (N' + 1) [(4, .int .i64 ((i + 1 : Nat) : Int)), (3, .sl N' 0 (enF f (i + 1)).length cap'), (0, .ptr a 0)] ((N', zRow (enF f (i + 1)) sp') :: m) (N' + 1) := by
        intro M N' cap' sp' t hN' ht h1 h2
        have RS := (D.up (show nx ≤ N' + 1 by omega)).consN (n := N') (fun x hx => by have := hlt x hx; omega) (zRow (enF f (i + 1)) sp')
        refine Le.same (by omega) ht (memSame_all fun x hx => ?_) RS.nd RS.wn RS.kp
        rcases List.mem_cons.1 hx with rfl | hx
        · exact h1
        · exact h2 x hx
      rcases q with _ | ⟨n', cap', sp'⟩
      · have h0 : enF f i = [] := c1
        simp (config := { maxSteps := 1000000, implicitDefEqProofs := false }) only [-List.reduceReplicate, Nat.reduceBEq, renA, renL, renM, renO, evx, evs, evp, Eng.look, cst, cst1, putd, dstOk, params, loadx, partx, loI, hiI, bltx, mmI, boxx, srcx, calx, nilx, upd, del, resv, fillA, setMany, Nat.reduceLT, Nat.reduceLeDiff, Nat.reduceEqDiff, Nat.reduceAdd, Nat.reduceMul, Nat.reduceSub, reduceIte, reduceCtorEq, if_true, if_false, ite_true, ite_false, eq_self, forall_const, implies_true, Int.reduceLT, Int.reduceLE, Int.reduceToNat, Int.reduceAdd, Int.reduceSub, Int.reduceNeg, ne_eq, Int.reduceEq, Int.reduceNe, Int.reduceBEq, Int.reduceBNe, beq_self_eq_true, bne_self_eq_false, BitVec.reduceBEq, BitVec.reduceBNe, BitVec.reduceOfInt, BitVec.reduceSetWidth, wrD, engS0, engS1, engS2, engS3, engS4, engS5, engS6, engS7, engS8, engS9, engU0, engT0, engT1, engT2, Fx.t1, Fx.t3, Fx.t4, Fx.t91, Fx.t96, Fx.t97, Fx.t98, Fx.en88, k1, w2, zA]
        refine ⟨.inr trivial, rfl, rfl, ?_⟩
        rw [zs_one]
        refine appk_cells0 (k := 1) (bt := 8) (s := 1) (by omega) (by decide) (by decide) ?_
        intro cap2 sp2 f1 f2 f3
        simp (config := { maxSteps := 1000000, implicitDefEqProofs := false }) only [-List.reduceReplicate, Nat.reduceBEq, renA, renL, renM, renO, evx, evs, evp, Eng.look, cst, cst1, putd, dstOk, params, loadx, partx, loI, hiI, bltx, mmI, boxx, srcx, calx, nilx, upd, del, resv, fillA, setMany, Nat.reduceLT, Nat.reduceLeDiff, Nat.reduceEqDiff, Nat.reduceAdd, Nat.reduceMul, Nat.reduceSub, reduceIte, reduceCtorEq, if_true, if_false, ite_true, ite_false, eq_self, forall_const, implies_true, Int.reduceLT, Int.reduceLE, Int.reduceToNat, Int.reduceAdd, Int.reduceSub, Int.reduceNeg, ne_eq, Int.reduceEq, Int.reduceNe, Int.reduceBEq, Int.reduceBNe, beq_self_eq_true, bne_self_eq_false, BitVec.reduceBEq, BitVec.reduceBNe, BitVec.reduceOfInt, BitVec.reduceSetWidth, wrD, engS0, engS1, engS2, engS3, engS4, engS5, engS6, engS7, engS8, engS9, engU0, engT0, engT1, engT2, Fx.t1, Fx.t3, Fx.t4, Fx.t91, Fx.t96, Fx.t97, Fx.t98, Fx.en88, w2]
        refine UpX_normal h (some (nx3 + 1, cap2, sp2), nx3 + 1 + 1) ⟨⟨by show nx ≤ nx3 + 1; omega, Nat.lt_succ_self _, by rw [hs, h0]; exact f1, f2, by rw [hs, h0]; exact f3⟩, by show nx ≤ nx3 + 1 + 1; omega⟩ ?_
        refine fin (N' := nx3 + 1) (by omega) ⟨rfl, by rw [hs, h0]; rfl, rfl, trivial⟩ ?_ fun x hx => ?_
        · rw [look_cons, if_pos rfl, hs, h0]; rfl
        · have := hlt x hx
          rw [look_cons, look_cons, if_neg (by omega), if_neg (by omega)]
          exact k2 _ _ (look_mem D.nd hx)
      · obtain ⟨s1, s2, s3, s4, s5⟩ : nx ≤ n' ∧ n' < nx3 ∧ (enF f i).length ≤ cap' ∧ cap' ≤ maxI ∧ sp'.length = (cap' - (enF f i).length) * 1 := c1
        have d5 : (nx3 = n') = False := eq_false (by omega)
        have hdl : del m n' = m := del_none fun p hp => by have := hlt p hp; omega
        simp (config := { maxSteps := 1000000, implicitDefEqProofs := false }) only [-List.reduceReplicate, Nat.reduceBEq, renA, renL, renM, renO, evx, evs, evp, Eng.look, cst, cst1, putd, dstOk, params, loadx, partx, loI, hiI, bltx, mmI, boxx, srcx, calx, nilx, upd, del, resv, fillA, setMany, Nat.reduceLT, Nat.reduceLeDiff, Nat.reduceEqDiff, Nat.reduceAdd, Nat.reduceMul, Nat.reduceSub, reduceIte, reduceCtorEq, if_true, if_false, ite_true, ite_false, eq_self, forall_const, implies_true, Int.reduceLT, Int.reduceLE, Int.reduceToNat, Int.reduceAdd, Int.reduceSub, Int.reduceNeg, ne_eq, Int.reduceEq, Int.reduceNe, Int.reduceBEq, Int.reduceBNe, beq_self_eq_true, bne_self_eq_false, BitVec.reduceBEq, BitVec.reduceBNe, BitVec.reduceOfInt, BitVec.reduceSetWidth, wrD, engS0, engS1, engS2, engS3, engS4, engS5, engS6, engS7, engS8, engS9, engU0, engT0, engT1, engT2, Fx.t1, Fx.t3, Fx.t4, Fx.t91, Fx.t96, Fx.t97, Fx.t98, Fx.en88, k1, w2, zA, zM]
        refine ⟨.inr trivial, rfl, rfl, ?_⟩
        rw [zs_one]
        refine appk_cells (X := zs (enF f i)) (sp := sp') (k := 1) (bt := 8) (s := 1) ?_ (D.wn _ (by omega)) (by rw [zs_len, Nat.mul_one]) s5 s3 s4 (by omega) (by decide) ?_
        · rw [look_cons, if_neg (by omega)]; show Eng.look ((n', zRow (enF f i) sp') :: m) n' = _; rw [look_cons, if_pos rfl]; rfl
        intro cap2 sp2 f1 f2 f3
        rw [zs_app]
        simp (config := { maxSteps := 1000000, implicitDefEqProofs := false }) only [-List.reduceReplicate, Nat.reduceBEq, renA, renL, renM, renO, evx, evs, evp, Eng.look, cst, cst1, putd, dstOk, params, loadx, partx, loI, hiI, bltx, mmI, boxx, srcx, calx, nilx, upd, del, resv, fillA, setMany, Nat.reduceLT, Nat.reduceLeDiff, Nat.reduceEqDiff, Nat.reduceAdd, Nat.reduceMul, Nat.reduceSub, reduceIte, reduceCtorEq, if_true, if_false, ite_true, ite_false, eq_self, forall_const, implies_true, Int.reduceLT, Int.reduceLE, Int.reduceToNat, Int.reduceAdd, Int.reduceSub, Int.reduceNeg, ne_eq, Int.reduceEq, Int.reduceNe, Int.reduceBEq, Int.reduceBNe, beq_self_eq_true, bne_self_eq_false, BitVec.reduceBEq, BitVec.reduceBNe, BitVec.reduceOfInt, BitVec.reduceSetWidth, wrD, engS0, engS1, engS2, engS3, engS4, engS5, engS6, engS7, engS8, engS9, engU0, engT0, engT1, engT2, Fx.t1, Fx.t3, Fx.t4, Fx.t91, Fx.t96, Fx.t97, Fx.t98, Fx.en88, w2, d5, hdl]
        refine UpX_normal h (some (nx3 + 1, cap2, sp2), nx3 + 1 + 1) ⟨⟨by show nx ≤ nx3 + 1; omega, Nat.lt_succ_self _, by rw [hs, List.length_append]; exact f1, f2, by rw [hs, List.length_append]; exact f3⟩, by show nx ≤ nx3 + 1 + 1; omega⟩ ?_
        refine fin (N' := nx3 + 1) (by omega) ⟨rfl, by rw [hs, List.length_append]; rfl, rfl, trivial⟩ ?_ fun x hx => ?_
        · rw [look_cons, if_pos rfl, hs]; rfl
        · have := hlt x hx
          rw [look_cons, look_cons, if_neg (by omega), if_neg (by omega)]
          exact look_mem D.nd hx
    · have k1 : decide ((nextZ A w R i).1 ≥ 0) = false := decide_eq_false (by omega)
      have hs : enF f (i + 1) = enF f i := by rw [enF, if_neg (by rw [hf]; simpa using hk)]
      simp (config := { maxSteps := 1000000, implicitDefEqProofs := false }) only [-List.reduceReplicate, Nat.reduceBEq, renA, renL, renM, renO, evx, evs, evp, Eng.look, cst, cst1, putd, dstOk, params, loadx, partx, loI, hiI, bltx, mmI, boxx, srcx, calx, nilx, upd, del, resv, fillA, setMany, Nat.reduceLT, Nat.reduceLeDiff, Nat.reduceEqDiff, Nat.reduceAdd, Nat.reduceMul, Nat.reduceSub, reduceIte, reduceCtorEq, if_true, if_false, ite_true, ite_false, eq_self, forall_const, implies_true, Int.reduceLT, Int.reduceLE, Int.reduceToNat, Int.reduceAdd, Int.reduceSub, Int.reduceNeg, ne_eq, Int.reduceEq, Int.reduceNe, Int.reduceBEq, Int.reduceBNe, beq_self_eq_true, bne_self_eq_false, BitVec.reduceBEq, BitVec.reduceBNe, BitVec.reduceOfInt, BitVec.reduceSetWidth, wrD, engS0, engS1, engS2, engS3, engS4, engS5, engS6, engS7, engS8, engS9, engU0, engT0, engT1, engT2, Fx.t1, Fx.t3, Fx.t4, Fx.t91, Fx.t96, Fx.t97, Fx.t98, Fx.en88, k1, w2]
      refine UpX_normal h (q, nx3) ⟨by rw [hs]; exact c1, c2⟩ ?_
      rw [hs]
      exact Le.same c2 ⟨rfl, rfl, rfl, trivial⟩ (memSame_slf D2.nd) D2.nd D2.wn D2.kp
  · have hiw : i = w + 2 := by omega
    subst hiw
    have g1 : decide (((w + 2 : Nat) : Int) ≤ (w : Int) + 1) = false := decide_eq_false (by omega)
    simp (config := { maxSteps := 1000000, implicitDefEqProofs := false }) only [-List.reduceReplicate, Nat.reduceBEq, renA, renL, renM, renO, evx, evs, evp, Eng.look, cst, cst1, putd, dstOk, params, loadx, partx, loI, hiI, bltx, mmI, boxx, srcx, calx, nilx, upd, del, resv, fillA, setMany, Nat.reduceLT, Nat.reduceLeDiff, Nat.reduceEqDiff, Nat.reduceAdd, Nat.reduceMul, Nat.reduceSub, reduceIte, reduceCtorEq, if_true, if_false, ite_true, ite_false, eq_self, forall_const, implies_true, Int.reduceLT, Int.reduceLE, Int.reduceToNat, Int.reduceAdd, Int.reduceSub, Int.reduceNeg, ne_eq, Int.reduceEq, Int.reduceNe, Int.reduceBEq, Int.reduceBNe, beq_self_eq_true, bne_self_eq_false, BitVec.reduceBEq, BitVec.reduceBNe, BitVec.reduceOfInt, BitVec.reduceSetWidth, wrD, engS0, engS1, engS2, engS3, engS4, engS5, engS6, engS7, engS8, engS9, engU0, engT0, engT1, engT2, Fx.t1, Fx.t3, Fx.t4, Fx.t91, Fx.t96, Fx.t97, Fx.t98, Fx.en88, o2, w1, g1]
    exact Fin.keepW c2 (memSame_slf D2.nd) D2.nd D2.kp ⟨q, rfl, c1, rfl, c2⟩
end
/-- a row of numbers, somewhere -/
def SlAt (m : Mem) (nx : Nat) (v : AV) (L : List Int) : Prop := (v = .nils ∧ L = []) ∨ ∃ n cap sp, v = .sl n 0 L.length cap ∧ Eng.look m n = some (zRow L sp) ∧ n < nx
theorem intsOk {wr : Nat → Bool} {m : Mem} {nx : Nat} (D : Rdm wr m nx) {v v' : AV} {L : List Int} (h : SlAt m nx v L) (h' : SlAt m nx v' L) (hl : L.length ≤ 1000000) : CallG false Try.prog 56 [v, v'] wr m nx (Kr (.bool true) m nx) := by
  refine fn_okG Try.func56 rfl (by show 2 ≤ _; decide) ?_
  rcases h with ⟨rfl, h0⟩ | ⟨n, cap, sp, rfl, h1, h2⟩
  · rcases h' with ⟨rfl, _⟩ | ⟨n', cap', sp', rfl, h1', h2'⟩
    · simp (config := { maxSteps := 1000000, implicitDefEqProofs := false }) only [-List.reduceReplicate, Nat.reduceBEq, renA, renL, renM, renO, evx, evs, evp, Eng.look, cst, cst1, putd, dstOk, params, loadx, partx, loI, hiI, bltx, mmI, boxx, srcx, calx, nilx, upd, del, resv, fillA, setMany, Nat.reduceLT, Nat.reduceLeDiff, Nat.reduceEqDiff, Nat.reduceAdd, Nat.reduceMul, Nat.reduceSub, reduceIte, reduceCtorEq, if_true, if_false, ite_true, ite_false, eq_self, forall_const, implies_true, Int.reduceLT, Int.reduceLE, Int.reduceToNat, Int.reduceAdd, Int.reduceSub, Int.reduceNeg, ne_eq, Int.reduceEq, Int.reduceNe, Int.reduceBEq, Int.reduceBNe, beq_self_eq_true, bne_self_eq_false, BitVec.reduceBEq, BitVec.reduceBNe, BitVec.reduceOfInt, BitVec.reduceSetWidth, wrD, engS0, engS1, engS2, engS3, engS4, engS5, engS6, engS7, engS8, engS9, engU0, engT0, engT1, engT2, Fx.t3, Fx.t4, Fx.t91, Try.results56, Try.ntmps56]
      refine LoopOk.up 0 (fun _ => ([(5, .int .i64 0), (1, .nils), (0, .nils)], m, nx)) (D.le ⟨rfl, rfl, rfl, trivial⟩) ?_
      intro i hi
      simp (config := { maxSteps := 1000000, implicitDefEqProofs := false }) only [-List.reduceReplicate, Nat.reduceBEq, renA, renL, renM, renO, evx, evs, evp, Eng.look, cst, cst1, putd, dstOk, params, loadx, partx, loI, hiI, bltx, mmI, boxx, srcx, calx, nilx, upd, del, resv, fillA, setMany, Nat.reduceLT, Nat.reduceLeDiff, Nat.reduceEqDiff, Nat.reduceAdd, Nat.reduceMul, Nat.reduceSub, reduceIte, reduceCtorEq, if_true, if_false, ite_true, ite_false, eq_self, forall_const, implies_true, Int.reduceLT, Int.reduceLE, Int.reduceToNat, Int.reduceAdd, Int.reduceSub, Int.reduceNeg, ne_eq, Int.reduceEq, Int.reduceNe, Int.reduceBEq, Int.reduceBNe, beq_self_eq_true, bne_self_eq_false, BitVec.reduceBEq, BitVec.reduceBNe, BitVec.reduceOfInt, BitVec.reduceSetWidth, wrD, engS0, engS1, engS2, engS3, engS4, engS5, engS6, engS7, engS8, engS9, engU0, engT0, engT1, engT2, Fx.t3, Fx.t4, Fx.t91]
      exact D.fin _
    · subst h0
      simp (config := { maxSteps := 1000000, implicitDefEqProofs := false }) only [-List.reduceReplicate, Nat.reduceBEq, renA, renL, renM, renO, evx, evs, evp, Eng.look, cst, cst1, putd, dstOk, params, loadx, partx, loI, hiI, bltx, mmI, boxx, srcx, calx, nilx, upd, del, resv, fillA, setMany, Nat.reduceLT, Nat.reduceLeDiff, Nat.reduceEqDiff, Nat.reduceAdd, Nat.reduceMul, Nat.reduceSub, reduceIte, reduceCtorEq, if_true, if_false, ite_true, ite_false, eq_self, forall_const, implies_true, Int.reduceLT, Int.reduceLE, Int.reduceToNat, Int.reduceAdd, Int.reduceSub, Int.reduceNeg, ne_eq, Int.reduceEq, Int.reduceNe, Int.reduceBEq, Int.reduceBNe, beq_self_eq_true, bne_self_eq_false, BitVec.reduceBEq, BitVec.reduceBNe, BitVec.reduceOfInt, BitVec.reduceSetWidth, wrD, engS0, engS1, engS2, engS3, engS4, engS5, engS6, engS7, engS8, engS9, engU0, engT0, engT1, engT2, Fx.t3, Fx.t4, Fx.t91, Try.results56, Try.ntmps56]
      refine LoopOk.up 0 (fun _ => ([(5, .int .i64 0), (1, .sl n' 0 0 cap'), (0, .nils)], m, nx)) (D.le ⟨rfl, rfl, rfl, trivial⟩) ?_
      intro i hi
      simp (config := { maxSteps := 1000000, implicitDefEqProofs := false }) only [-List.reduceReplicate, Nat.reduceBEq, renA, renL, renM, renO, evx, evs, evp, Eng.look, cst, cst1, putd, dstOk, params, loadx, partx, loI, hiI, bltx, mmI, boxx, srcx, calx, nilx, upd, del, resv, fillA, setMany, Nat.reduceLT, Nat.reduceLeDiff, Nat.reduceEqDiff, Nat.reduceAdd, Nat.reduceMul, Nat.reduceSub, reduceIte, reduceCtorEq, if_true, if_false, ite_true, ite_false, eq_self, forall_const, implies_true, Int.reduceLT, Int.reduceLE, Int.reduceToNat, Int.reduceAdd, Int.reduceSub, Int.reduceNeg, ne_eq, Int.reduceEq, Int.reduceNe, Int.reduceBEq, Int.reduceBNe, beq_self_eq_true, bne_self_eq_false, BitVec.reduceBEq, BitVec.reduceBNe, BitVec.reduceOfInt, BitVec.reduceSetWidth, wrD, engS0, engS1, engS2, engS3, engS4, engS5, engS6, engS7, engS8, engS9, engU0, engT0, engT1, engT2, Fx.t3, Fx.t4, Fx.t91]
      exact D.fin _
  · rcases h' with ⟨rfl, h0⟩ | ⟨n', cap', sp', rfl, h1', h2'⟩
    · subst h0
      simp (config := { maxSteps := 1000000, implicitDefEqProofs := false }) only [-List.reduceReplicate, Nat.reduceBEq, renA, renL, renM, renO, evx, evs, evp, Eng.look, cst, cst1, putd, dstOk, params, loadx, partx, loI, hiI, bltx, mmI, boxx, srcx, calx, nilx, upd, del, resv, fillA, setMany, Nat.reduceLT, Nat.reduceLeDiff, Nat.reduceEqDiff, Nat.reduceAdd, Nat.reduceMul, Nat.reduceSub, reduceIte, reduceCtorEq, if_true, if_false, ite_true, ite_false, eq_self, forall_const, implies_true, Int.reduceLT, Int.reduceLE, Int.reduceToNat, Int.reduceAdd, Int.reduceSub, Int.reduceNeg, ne_eq, Int.reduceEq, Int.reduceNe, Int.reduceBEq, Int.reduceBNe, beq_self_eq_true, bne_self_eq_false, BitVec.reduceBEq, BitVec.reduceBNe, BitVec.reduceOfInt, BitVec.reduceSetWidth, wrD, engS0, engS1, engS2, engS3, engS4, engS5, engS6, engS7, engS8, engS9, engU0, engT0, engT1, engT2, Fx.t3, Fx.t4, Fx.t91, Try.results56, Try.ntmps56]
      refine LoopOk.up 0 (fun _ => ([(5, .int .i64 0), (1, .nils), (0, .sl n 0 0 cap)], m, nx)) (D.le ⟨rfl, rfl, rfl, trivial⟩) ?_
      intro i hi
      simp (config := { maxSteps := 1000000, implicitDefEqProofs := false }) only [-List.reduceReplicate, Nat.reduceBEq, renA, renL, renM, renO, evx, evs, evp, Eng.look, cst, cst1, putd, dstOk, params, loadx, partx, loI, hiI, bltx, mmI, boxx, srcx, calx, nilx, upd, del, resv, fillA, setMany, Nat.reduceLT, Nat.reduceLeDiff, Nat.reduceEqDiff, Nat.reduceAdd, Nat.reduceMul, Nat.reduceSub, reduceIte, reduceCtorEq, if_true, if_false, ite_true, ite_false, eq_self, forall_const, implies_true, Int.reduceLT, Int.reduceLE, Int.reduceToNat, Int.reduceAdd, Int.reduceSub, Int.reduceNeg, ne_eq, Int.reduceEq, Int.reduceNe, Int.reduceBEq, Int.reduceBNe, beq_self_eq_true, bne_self_eq_false, BitVec.reduceBEq, BitVec.reduceBNe, BitVec.reduceOfInt, BitVec.reduceSetWidth, wrD, engS0, engS1, engS2, engS3, engS4, engS5, engS6, engS7, engS8, engS9, engU0, engT0, engT1, engT2, Fx.t3, Fx.t4, Fx.t91]
      exact D.fin _
    · have DW := D.drawn []
      have r1 : decide (nx ≤ n) = false := decide_eq_false (by omega)
      have r2 : decide (nx ≤ n') = false := decide_eq_false (by omega)
      simp (config := { maxSteps := 1000000, implicitDefEqProofs := false }) only [-List.reduceReplicate, Nat.reduceBEq, renA, renL, renM, renO, evx, evs, evp, Eng.look, cst, cst1, putd, dstOk, params, loadx, partx, loI, hiI, bltx, mmI, boxx, srcx, calx, nilx, upd, del, resv, fillA, setMany, Nat.reduceLT, Nat.reduceLeDiff, Nat.reduceEqDiff, Nat.reduceAdd, Nat.reduceMul, Nat.reduceSub, reduceIte, reduceCtorEq, if_true, if_false, ite_true, ite_false, eq_self, forall_const, implies_true, Int.reduceLT, Int.reduceLE, Int.reduceToNat, Int.reduceAdd, Int.reduceSub, Int.reduceNeg, ne_eq, Int.reduceEq, Int.reduceNe, Int.reduceBEq, Int.reduceBNe, beq_self_eq_true, bne_self_eq_false, BitVec.reduceBEq, BitVec.reduceBNe, BitVec.reduceOfInt, BitVec.reduceSetWidth, wrD, engS0, engS1, engS2, engS3, engS4, engS5, engS6, engS7, engS8, engS9, engU0, engT0, engT1, engT2, Fx.t3, Fx.t4, Fx.t91, Try.results56, Try.ntmps56, bne_self_eq_false]
      refine LoopOk.up L.length (fun i => ([(5, .int .i64 (i : Nat)), (1, .sl n' 0 L.length cap'), (0, .sl n 0 L.length cap)], m, nx)) (D.le ⟨rfl, rfl, rfl, trivial⟩) ?_
      intro i hi
      rcases Nat.lt_or_ge i L.length with k | k
      · have g1 : decide ((i : Int) < (L.length : Int)) = true := decide_eq_true (by omega)
        have w2 : IntKind.i64.wrap ((i : Int) + 1) = ((i + 1 : Nat) : Int) := by rw [wrap_i64] <;> omega
        have hg := zs_get L (sp.map AV.val) i k
        have hg' := zs_get L (sp'.map AV.val) i k
        simp (config := { maxSteps := 1000000, implicitDefEqProofs := false }) only [-List.reduceReplicate, Nat.reduceBEq, renA, renL, renM, renO, evx, evs, evp, Eng.look, cst, cst1, putd, dstOk, params, loadx, partx, loI, hiI, bltx, mmI, boxx, srcx, calx, nilx, upd, del, resv, fillA, setMany, Nat.reduceLT, Nat.reduceLeDiff, Nat.reduceEqDiff, Nat.reduceAdd, Nat.reduceMul, Nat.reduceSub, reduceIte, reduceCtorEq, if_true, if_false, ite_true, ite_false, eq_self, forall_const, implies_true, Int.reduceLT, Int.reduceLE, Int.reduceToNat, Int.reduceAdd, Int.reduceSub, Int.reduceNeg, ne_eq, Int.reduceEq, Int.reduceNe, Int.reduceBEq, Int.reduceBNe, beq_self_eq_true, bne_self_eq_false, BitVec.reduceBEq, BitVec.reduceBNe, BitVec.reduceOfInt, BitVec.reduceSetWidth, wrD, engS0, engS1, engS2, engS3, engS4, engS5, engS6, engS7, engS8, engS9, engU0, engT0, engT1, engT2, Fx.t3, Fx.t4, Fx.t91, g1]
        refine ⟨Fx.mixed, .inl ⟨[(0, false), (1, false), (2, false), (3, false), (4, false), (5, false), (6, false), (7, false), (8, false)], [], by kernel_rfl, (fun n hn => by cases hn), ?_⟩⟩
        simp (config := { maxSteps := 1000000, implicitDefEqProofs := false }) only [-List.reduceReplicate, Nat.reduceBEq, renA, renL, renM, renO, evx, evs, evp, Eng.look, cst, cst1, putd, dstOk, params, loadx, partx, loI, hiI, bltx, mmI, boxx, srcx, calx, nilx, upd, del, resv, fillA, setMany, Nat.reduceLT, Nat.reduceLeDiff, Nat.reduceEqDiff, Nat.reduceAdd, Nat.reduceMul, Nat.reduceSub, reduceIte, reduceCtorEq, if_true, if_false, ite_true, ite_false, eq_self, forall_const, implies_true, Int.reduceLT, Int.reduceLE, Int.reduceToNat, Int.reduceAdd, Int.reduceSub, Int.reduceNeg, ne_eq, Int.reduceEq, Int.reduceNe, Int.reduceBEq, Int.reduceBNe, beq_self_eq_true, bne_self_eq_false, BitVec.reduceBEq, BitVec.reduceBNe, BitVec.reduceOfInt, BitVec.reduceSetWidth, wrD, engS0, engS1, engS2, engS3, engS4, engS5, engS6, engS7, engS8, engS9, engU0, engT0, engT1, engT2, Fx.t3, Fx.t4, Fx.t91, h1, h1', zRow, hg, hg', r1, r2, w2, bne_self_eq_false, zs_len]
        refine ⟨by omega, by omega, by omega, by omega, ?_⟩
        exact UpK_normal k (D.le ⟨rfl, rfl, rfl, trivial⟩)
      · have hiL : i = L.length := by omega
        subst hiL
        have g1 : decide ((L.length : Int) < (L.length : Int)) = false := decide_eq_false (by omega)
        simp (config := { maxSteps := 1000000, implicitDefEqProofs := false }) only [-List.reduceReplicate, Nat.reduceBEq, renA, renL, renM, renO, evx, evs, evp, Eng.look, cst, cst1, putd, dstOk, params, loadx, partx, loI, hiI, bltx, mmI, boxx, srcx, calx, nilx, upd, del, resv, fillA, setMany, Nat.reduceLT, Nat.reduceLeDiff, Nat.reduceEqDiff, Nat.reduceAdd, Nat.reduceMul, Nat.reduceSub, reduceIte, reduceCtorEq, if_true, if_false, ite_true, ite_false, eq_self, forall_const, implies_true, Int.reduceLT, Int.reduceLE, Int.reduceToNat, Int.reduceAdd, Int.reduceSub, Int.reduceNeg, ne_eq, Int.reduceEq, Int.reduceNe, Int.reduceBEq, Int.reduceBNe, beq_self_eq_true, bne_self_eq_false, BitVec.reduceBEq, BitVec.reduceBNe, BitVec.reduceOfInt, BitVec.reduceSetWidth, wrD, engS0, engS1, engS2, engS3, engS4, engS5, engS6, engS7, engS8, engS9, engU0, engT0, engT1, engT2, Fx.t3, Fx.t4, Fx.t91, g1]
        exact D.fin _
end Go.Proofs.Ytmnbbpckglppjaa
