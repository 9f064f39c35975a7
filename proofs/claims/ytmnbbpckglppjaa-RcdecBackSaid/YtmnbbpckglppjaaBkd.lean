/- Coding bits: the law on what was coded and is read. -/
import Derived.Test.YtmnbbpckglppjaaEng19
import Derived.Test.YtmnbbpckglppjaaEng26
import Derived.Test.YtmnbbpckglppjaaBkc
set_option linter.unusedVariables false
set_option linter.unusedSimpArgs false
set_option maxRecDepth 100000
namespace Go.Proofs.Ytmnbbpckglppjaa
open Go Go.Eng

/-- what is wanted -/
def wW (L : List Ded) (i : Nat) : List (BitVec 32) := (L.take i).map wantD
theorem wW_succ {L : List Ded} {i : Nat} (h : i < L.length) : wW L (i + 1) = wW L i ++ [wantD (L.getD i dedD)] := by
  rw [wW, List.take_succ_eq_append_getElem h, List.map_append, List.map_singleton, List.getD_eq_getElem?_getD, List.getElem?_eq_getElem h]; rfl
theorem wW_len {L : List Ded} {i : Nat} (h : i ≤ L.length) : (wW L i).length = i := by rw [wW, List.length_map, List.length_take]; omega
theorem wW_at {L : List Ded} {n i : Nat} (hn : n ≤ L.length) (h : i < n) : (wW L n).getD i 0 = wantD (L.getD i dedD) := by
  rw [wW, List.getD_eq_getElem?_getD, List.getElem?_map, List.getElem?_take_of_lt h, List.getElem?_eq_getElem (by omega), List.getD_eq_getElem?_getD, List.getElem?_eq_getElem (by omega)]; rfl
def wV (W : List (BitVec 32)) : Option (Nat × Nat × List Value) → AV
  | none => .nils
  | some (n, cap, _) => .sl n 0 W.length cap
def wR (W : List (BitVec 32)) (sp : List Value) : AObj := .cells (bvs .u32 W ++ sp.map AV.val) 53
def wM (W : List (BitVec 32)) : Option (Nat × Nat × List Value) → Mem
  | none => []
  | some (n, _, sp) => [(n, wR W sp)]
def wOk (W : List (BitVec 32)) : Option (Nat × Nat × List Value) → Prop
  | none => W = []
  | some (_, cap, sp) => W.length + sp.length = cap ∧ cap ≤ maxI

theorem bvs_flat8 (X : List (BitVec 8)) : (bvs .u8 X).all flat = true := by
  induction X with
  | nil => rfl
  | cons q r ih => rw [bvs_cons, List.all_cons, ih]; rfl
theorem argB {m : Mem} {f : Nat → Nat} {n j cap : Nat} {Y b : List (BitVec 8)} {sp : List Value} (h : Eng.look m n = some (.cells (bvs .u8 Y ++ sp.map AV.val) 5)) (hj : j ≤ Y.length) (hb : b = Y.take j) : argx m [] f (.sl n 0 j cap) (.ro b.length (bvs .u8 b)) := by
  subst hb
  unfold argx
  simp only
  rw [h]
  refine ⟨by rw [List.length_take]; omega, rfl, bvs_flat8 _, fun h => by rw [bvs_length, List.length_take]; omega, by rw [bvs_length, List.length_take, List.length_append, bvs_length]; omega, ?_⟩
  rw [List.drop_zero, bvs_length, List.length_take, Nat.min_eq_left hj, List.take_append_of_le_length (by rw [bvs_length]; exact hj), bvs_take]
theorem ded_ren (f : Nat → Nat) : ∀ L : List Ded, renL f (L.flatMap dedC) = L.flatMap dedC
  | [] => rfl
  | p :: r => by rw [List.flatMap_cons, renL_append, ded_ren f r]; rfl
theorem wr_mem {m : Mem} {nx k : Nat} {mods : List Nat} (h : k ∈ mods) : wrD m nx mods k = true := by simp [wrD, h]
theorem zMods0 (z : Option (Nat × Nat × List Value)) : 0 ∈ zMods z := by rcases z with _ | ⟨n, cap, sp⟩ <;> simp [zMods]
theorem zModsz {z : Option (Nat × Nat × List Value)} (k : Nat) (h : zNm z k) : k ∈ zMods z := by
  rcases z with _ | ⟨n, cap, sp⟩
  · exact h.elim
  · have h : k = n := h
    simp [zMods, h]
theorem tk8 (x : BitVec 8) : List.take 1 ((List.replicate 1 (0 : BitVec 8)).set 0 x) = [x] := rfl
theorem tk1 (x : BitVec 32) : List.take 1 ((List.replicate 1 (0 : BitVec 32)).set 0 x) = [x] := rfl
theorem EQ.next {R : Mem} {nx1 nx2 a : Nat} {e : ES} {z : Option (Nat × Nat × List Value)} (q : EQ R nx1 e z) (ha : nx1 ≤ a) (h2 : a < nx2) (o : AObj) :
    EQ [(a, o)] nx2 e z ∧ ((([(a, o)] : Mem) ++ EM e z).map fun p => p.1).Nodup ∧ ∀ m : Mem, Eng.look m a = some o → (∀ k, k < nx1 → (k = 0 ∨ zNm z k) → Eng.look m k = Eng.look (R ++ EM e z) k) → memSame m (([(a, o)] : Mem) ++ EM e z) := by
  have hp := q.p
  refine ⟨q.other (by omega) (fun k hk => ?_), ?_, fun m hm1 hm2 => ⟨hm1, q.same fun k hk => hm2 k (q.zlt hk) hk⟩⟩
  · have hne : ¬ a = k := by
      rcases hk with hk | hk | hk
      · omega
      · omega
      · have := q.zlt (.inr hk); omega
    rw [look_cons, if_neg hne]; rfl
  · show (a :: (EM e z).map fun p => p.1).Nodup
    rw [List.nodup_cons]
    refine ⟨fun hm => ?_, q.nodup⟩
    rcases z with _ | ⟨n, cap, sp⟩
    · have : a = 0 := by simpa [EM, eM] using hm
      omega
    · have h3 := q.zlt (k := n) (.inr rfl)
      have : a = 0 ∨ a = n := by simpa [EM, eM] using hm
      omega

set_option maxHeartbeats 4000000 in
theorem rcdecBackOk (L : List Ded) (hL : L.length ≤ maxLen ∧ ∀ z ∈ L, (-9223372036854775808 ≤ z.1 ∧ z.1 < 9223372036854775808) ∧ True ∧ (-9223372036854775808 ≤ z.2.2.1 ∧ z.2.2.1 < 9223372036854775808) ∧ True ∧ (-9223372036854775808 ≤ z.2.2.2.2.1 ∧ z.2.2.2.2.1 < 9223372036854775808) ∧ True) (more : BitVec 8) :
    CallOk Try.prog 11 [dedR L, .int .u8 (more.toNat : Int)] (fun _ => true) [] 0 fun v _ _ => v = .bool true := by
  have hL := hL.1
  refine fn_ok Try.func11 rfl (by show 2 ≤ _; decide) ?_
  have fin : ∀ {m : Mem} {nx : Nat}, Eng.Fin 0 (fun _ => true) m nx (fun v _ _ => v = .bool true) (.bool true) := Fin.flatv (fun _ => rfl) (fun _ => rfl) rfl
  simp (config := { maxSteps := 1000000, implicitDefEqProofs := false }) only [-List.reduceReplicate, Nat.reduceBEq, renA, renL, renM, renO, evx, evs, evp, Eng.look, cst, cst1, putd, dstOk, params, loadx, partx, loI, hiI, bltx, mmI, boxx, srcx, calx, nilx, upd, del, resv, fillA, setMany, Nat.reduceLT, Nat.reduceLeDiff, Nat.reduceEqDiff, Nat.reduceAdd, Nat.reduceMul, Nat.reduceSub, reduceIte, reduceCtorEq, if_true, if_false, ite_true, ite_false, eq_self, forall_const, implies_true, Int.reduceLT, Int.reduceLE, Int.reduceToNat, Int.reduceAdd, Int.reduceSub, Int.reduceNeg, ne_eq, Int.reduceEq, Int.reduceNe, Int.reduceBEq, Int.reduceBNe, beq_self_eq_true, bne_self_eq_false, BitVec.reduceBEq, BitVec.reduceBNe, BitVec.reduceOfInt, BitVec.reduceSetWidth, wrD, engS0, engS1, engS2, engS3, engS4, engS5, engS6, engS7, engS8, engS9, engT0, engT1, engT2, Fx.t1, Fx.t2, Fx.t3, Fx.t4, Fx.t5, Fx.t22, Fx.t23, Fx.t25, Fx.t45, Fx.t46, Fx.t52, Fx.t53, Fx.t54, Fx.t55, Fx.t65, Fx.t89, Fx.t118, Fx.t119, Fx.t123, Fx.t124, Fx.en25, Fx.en26, Fx.en30, Fx.en33, Fx.en34, Fx.en36, Fx.en39, Fx.en42, Fx.en43, Try.results11, Try.ntmps11, dedR]
  refine newEOk.newE rfl ?_
  rintro v m' nx' ⟨rfl, rfl, rfl⟩
  simp only [renM, encO_ren, renA, List.append_nil]
  rcases Decidable.em (300 < L.length) with h1 | h1
  · have e1 : decide ((L.length : Int) > 300) = true := by simp; omega
    simp (config := { maxSteps := 1000000, implicitDefEqProofs := false }) only [-List.reduceReplicate, Nat.reduceBEq, renA, renL, renM, renO, evx, evs, evp, Eng.look, cst, cst1, putd, dstOk, params, loadx, partx, loI, hiI, bltx, mmI, boxx, srcx, calx, nilx, upd, del, resv, fillA, setMany, Nat.reduceLT, Nat.reduceLeDiff, Nat.reduceEqDiff, Nat.reduceAdd, Nat.reduceMul, Nat.reduceSub, reduceIte, reduceCtorEq, if_true, if_false, ite_true, ite_false, eq_self, forall_const, implies_true, Int.reduceLT, Int.reduceLE, Int.reduceToNat, Int.reduceAdd, Int.reduceSub, Int.reduceNeg, ne_eq, Int.reduceEq, Int.reduceNe, Int.reduceBEq, Int.reduceBNe, beq_self_eq_true, bne_self_eq_false, BitVec.reduceBEq, BitVec.reduceBNe, BitVec.reduceOfInt, BitVec.reduceSetWidth, wrD, engS0, engS1, engS2, engS3, engS4, engS5, engS6, engS7, engS8, engS9, engT0, engT1, engT2, Fx.t1, Fx.t2, Fx.t3, Fx.t4, Fx.t5, Fx.t22, Fx.t23, Fx.t25, Fx.t45, Fx.t46, Fx.t52, Fx.t53, Fx.t54, Fx.t55, Fx.t65, Fx.t89, Fx.t118, Fx.t119, Fx.t123, Fx.t124, Fx.en25, Fx.en26, Fx.en30, Fx.en33, Fx.en34, Fx.en36, Fx.en39, Fx.en42, Fx.en43, e1]
    refine kn06 ?_
    simp (config := { maxSteps := 1000000, implicitDefEqProofs := false }) only [-List.reduceReplicate, Nat.reduceBEq, renA, renL, renM, renO, evx, evs, evp, Eng.look, cst, cst1, putd, dstOk, params, loadx, partx, loI, hiI, bltx, mmI, boxx, srcx, calx, nilx, upd, del, resv, fillA, setMany, Nat.reduceLT, Nat.reduceLeDiff, Nat.reduceEqDiff, Nat.reduceAdd, Nat.reduceMul, Nat.reduceSub, reduceIte, reduceCtorEq, if_true, if_false, ite_true, ite_false, eq_self, forall_const, implies_true, Int.reduceLT, Int.reduceLE, Int.reduceToNat, Int.reduceAdd, Int.reduceSub, Int.reduceNeg, ne_eq, Int.reduceEq, Int.reduceNe, Int.reduceBEq, Int.reduceBNe, beq_self_eq_true, bne_self_eq_false, BitVec.reduceBEq, BitVec.reduceBNe, BitVec.reduceOfInt, BitVec.reduceSetWidth, wrD, engS0, engS1, engS2, engS3, engS4, engS5, engS6, engS7, engS8, engS9, engT0, engT1, engT2, Fx.t1, Fx.t2, Fx.t3, Fx.t4, Fx.t5, Fx.t22, Fx.t23, Fx.t25, Fx.t45, Fx.t46, Fx.t52, Fx.t53, Fx.t54, Fx.t55, Fx.t65, Fx.t89, Fx.t118, Fx.t119, Fx.t123, Fx.t124, Fx.en25, Fx.en26, Fx.en30, Fx.en33, Fx.en34, Fx.en36, Fx.en39, Fx.en42, Fx.en43]
    exact fin
  have e1 : decide ((L.length : Int) > 300) = false := by simp; omega
  simp (config := { maxSteps := 1000000, implicitDefEqProofs := false }) only [-List.reduceReplicate, Nat.reduceBEq, renA, renL, renM, renO, evx, evs, evp, Eng.look, cst, cst1, putd, dstOk, params, loadx, partx, loI, hiI, bltx, mmI, boxx, srcx, calx, nilx, upd, del, resv, fillA, setMany, Nat.reduceLT, Nat.reduceLeDiff, Nat.reduceEqDiff, Nat.reduceAdd, Nat.reduceMul, Nat.reduceSub, reduceIte, reduceCtorEq, if_true, if_false, ite_true, ite_false, eq_self, forall_const, implies_true, Int.reduceLT, Int.reduceLE, Int.reduceToNat, Int.reduceAdd, Int.reduceSub, Int.reduceNeg, ne_eq, Int.reduceEq, Int.reduceNe, Int.reduceBEq, Int.reduceBNe, beq_self_eq_true, bne_self_eq_false, BitVec.reduceBEq, BitVec.reduceBNe, BitVec.reduceOfInt, BitVec.reduceSetWidth, wrD, engS0, engS1, engS2, engS3, engS4, engS5, engS6, engS7, engS8, engS9, engT0, engT1, engT2, Fx.t1, Fx.t2, Fx.t3, Fx.t4, Fx.t5, Fx.t22, Fx.t23, Fx.t25, Fx.t45, Fx.t46, Fx.t52, Fx.t53, Fx.t54, Fx.t55, Fx.t65, Fx.t89, Fx.t118, Fx.t119, Fx.t123, Fx.t124, Fx.en25, Fx.en26, Fx.en30, Fx.en33, Fx.en34, Fx.en36, Fx.en39, Fx.en42, Fx.en43, e1]
  refine LoopOk.upX (fun i (y : Option (Nat × Nat × List Value) × Option (Nat × Nat × List Value) × Nat) => EQ (wM (wW L i) y.2.1) y.2.2 (rcE L i).1 y.1 ∧ wOk (wW L i) y.2.1) L.length
    (fun i y => ([(7, .int .i64 i), (6, wV (wW L i) y.2.1), (5, .ptr 0 0), (1, .int .u8 (more.toNat : Int)), (0, .ro L.length (L.flatMap dedC))], wM (wW L i) y.2.1 ++ EM (rcE L i).1 y.1, y.2.2)) (none, none, 1) ?_ ?_ ?_
  · exact ⟨⟨fun _ _ => rfl, rfl, by decide⟩, rfl⟩
  · exact Le.sameT (by decide) ⟨rfl, rfl, rfl, rfl, rfl, trivial⟩ ⟨rfl, trivial⟩ (by show [0].Nodup; decide)
  rintro i ⟨z, y, nx⟩ ⟨hi, q, hy⟩
  dsimp only at q hy ⊢
  obtain ⟨hR, hlen⟩ := rcE_ok L i
  rcases Nat.lt_or_ge i L.length with h | h
  · have wi : IntKind.i64.wrap ((i : Int) + 1) = ((i + 1 : Nat) : Int) := by rw [wrap_i64] <;> omega
    have g1 : decide ((i : Int) < (L.length : Int)) = true := by simp; omega
    have hde := ded_at h
    have hnext : rcE L (i + 1) = rcS (rcE L i) (L.getD i dedD) := rfl
    have hW := wW_succ h
    have hWl := wW_len hi
    generalize L.getD i dedD = d at hde hnext hW
    rcases y with _ | ⟨n, cap, sp⟩
    · have hv : wV (wW L i) none = .nils := rfl
      have hm : wM (wW L i) none = [] := rfl
      have hy : wW L i = [] := hy
      rw [hy, List.nil_append] at hW
      rcases Decidable.em (d.1 = 0) with h0 | h0
      · have e3 : (d.1 == 0) = true := by simpa using h0
        have hn1 : (rcE L (i + 1)).1 = bitE (rcE L i).1 (fairV d.2.1) (d.2.2.1 != 0) := by rw [hnext, rcS, if_pos h0]
        have hx : BitVec.ofInt 32 (bitI (d.2.2.1 != 0)) = wantD d := by rw [wantD, if_pos h0]; cases (d.2.2.1 != 0) <;> rfl
        have hB := bitEOk (rcE L i).1 (by omega) hR.2 d.2.1 d.2.2.1
        rw [← hn1] at hB
        simp (config := { maxSteps := 1000000, implicitDefEqProofs := false }) only [-List.reduceReplicate, Nat.reduceBEq, renA, renL, renM, renO, evx, evs, evp, Eng.look, cst, cst1, putd, dstOk, params, loadx, partx, loI, hiI, bltx, mmI, boxx, srcx, calx, nilx, upd, del, resv, fillA, setMany, Nat.reduceLT, Nat.reduceLeDiff, Nat.reduceEqDiff, Nat.reduceAdd, Nat.reduceMul, Nat.reduceSub, reduceIte, reduceCtorEq, if_true, if_false, ite_true, ite_false, eq_self, forall_const, implies_true, Int.reduceLT, Int.reduceLE, Int.reduceToNat, Int.reduceAdd, Int.reduceSub, Int.reduceNeg, ne_eq, Int.reduceEq, Int.reduceNe, Int.reduceBEq, Int.reduceBNe, beq_self_eq_true, bne_self_eq_false, BitVec.reduceBEq, BitVec.reduceBNe, BitVec.reduceOfInt, BitVec.reduceSetWidth, wrD, engS0, engS1, engS2, engS3, engS4, engS5, engS6, engS7, engS8, engS9, engT0, engT1, engT2, Fx.t1, Fx.t2, Fx.t3, Fx.t4, Fx.t5, Fx.t22, Fx.t23, Fx.t25, Fx.t45, Fx.t46, Fx.t52, Fx.t53, Fx.t54, Fx.t55, Fx.t65, Fx.t89, Fx.t118, Fx.t119, Fx.t123, Fx.t124, Fx.en25, Fx.en26, Fx.en30, Fx.en33, Fx.en34, Fx.en36, Fx.en39, Fx.en42, Fx.en43, g1, hde, e3, hv, hm, List.cons_append, List.nil_append]
        repeat (refine And.intro (by first | omega | (rw [ded_len]; omega) | (simp only [List.length_drop, List.length_cons, ded_len]; omega)) ?_)
        refine ⟨Fx.mixed, .inl ⟨[(0, false), (1, false), (2, false), (3, false), (4, false), (5, false), (6, false), (7, false), (8, false), (9, false), (10, false), (11, true), (12, false), (13, false), (14, false), (15, false), (16, false)], zMods z, by kernel_rfl, (fun n hn => ⟨rfl, q.mods n hn⟩), ?_⟩⟩
        simp (config := { maxSteps := 1000000, implicitDefEqProofs := false }) only [-List.reduceReplicate, Nat.reduceBEq, renA, renL, renM, renO, evx, evs, evp, Eng.look, cst, cst1, putd, dstOk, params, loadx, partx, loI, hiI, bltx, mmI, boxx, srcx, calx, nilx, upd, del, resv, fillA, setMany, Nat.reduceLT, Nat.reduceLeDiff, Nat.reduceEqDiff, Nat.reduceAdd, Nat.reduceMul, Nat.reduceSub, reduceIte, reduceCtorEq, if_true, if_false, ite_true, ite_false, eq_self, forall_const, implies_true, Int.reduceLT, Int.reduceLE, Int.reduceToNat, Int.reduceAdd, Int.reduceSub, Int.reduceNeg, ne_eq, Int.reduceEq, Int.reduceNe, Int.reduceBEq, Int.reduceBNe, beq_self_eq_true, bne_self_eq_false, BitVec.reduceBEq, BitVec.reduceBNe, BitVec.reduceOfInt, BitVec.reduceSetWidth, wrD, engS0, engS1, engS2, engS3, engS4, engS5, engS6, engS7, engS8, engS9, engT0, engT1, engT2, Fx.t1, Fx.t2, Fx.t3, Fx.t4, Fx.t5, Fx.t22, Fx.t23, Fx.t25, Fx.t45, Fx.t46, Fx.t52, Fx.t53, Fx.t54, Fx.t55, Fx.t65, Fx.t89, Fx.t118, Fx.t119, Fx.t123, Fx.t124, Fx.en25, Fx.en26, Fx.en30, Fx.en33, Fx.en34, Fx.en36, Fx.en39, Fx.en42, Fx.en43, hde, hv, hm, List.cons_append, List.nil_append]
        repeat (refine And.intro (by first | omega | (rw [ded_len]; omega) | (simp only [List.length_drop, List.length_cons, ded_len]; omega)) ?_)
        refine useE2w (R := []) q hB LQ.w0 LQ.wz (fun _ => rfl) (tup2_ren _ _ rfl rfl) ?_
        intro z1 nx1 n1 q1
        simp (config := { maxSteps := 1000000, implicitDefEqProofs := false }) only [-List.reduceReplicate, Nat.reduceBEq, renA, renL, renM, renO, evx, evs, evp, Eng.look, cst, cst1, putd, dstOk, params, loadx, partx, loI, hiI, bltx, mmI, boxx, srcx, calx, nilx, upd, del, resv, fillA, setMany, Nat.reduceLT, Nat.reduceLeDiff, Nat.reduceEqDiff, Nat.reduceAdd, Nat.reduceMul, Nat.reduceSub, reduceIte, reduceCtorEq, if_true, if_false, ite_true, ite_false, eq_self, forall_const, implies_true, Int.reduceLT, Int.reduceLE, Int.reduceToNat, Int.reduceAdd, Int.reduceSub, Int.reduceNeg, ne_eq, Int.reduceEq, Int.reduceNe, Int.reduceBEq, Int.reduceBNe, beq_self_eq_true, bne_self_eq_false, BitVec.reduceBEq, BitVec.reduceBNe, BitVec.reduceOfInt, BitVec.reduceSetWidth, wrD, engS0, engS1, engS2, engS3, engS4, engS5, engS6, engS7, engS8, engS9, engT0, engT1, engT2, Fx.t1, Fx.t2, Fx.t3, Fx.t4, Fx.t5, Fx.t22, Fx.t23, Fx.t25, Fx.t45, Fx.t46, Fx.t52, Fx.t53, Fx.t54, Fx.t55, Fx.t65, Fx.t89, Fx.t118, Fx.t119, Fx.t123, Fx.t124, Fx.en25, Fx.en26, Fx.en30, Fx.en33, Fx.en34, Fx.en36, Fx.en39, Fx.en42, Fx.en43, hde, hv, hm, List.cons_append, List.nil_append, hx, tk1]
        refine ⟨.inr trivial, ?_⟩
        refine appk_nils (y := [wantD d]) (by decide) (by simp) (fun e => by cases e) fun _ cap' sp' d1 d2 => ?_
        obtain ⟨k1, k2, k3⟩ := q1.next (a := nx1 + 1) (nx2 := nx1 + 1 + 1) (by omega) (by omega) (wR (wW L (i + 1)) sp')
        rw [← hW] at d1
        simp (config := { maxSteps := 1000000, implicitDefEqProofs := false }) only [-List.reduceReplicate, Nat.reduceBEq, renA, renL, renM, renO, evx, evs, evp, Eng.look, cst, cst1, putd, dstOk, params, loadx, partx, loI, hiI, bltx, mmI, boxx, srcx, calx, nilx, upd, del, resv, fillA, setMany, Nat.reduceLT, Nat.reduceLeDiff, Nat.reduceEqDiff, Nat.reduceAdd, Nat.reduceMul, Nat.reduceSub, reduceIte, reduceCtorEq, if_true, if_false, ite_true, ite_false, eq_self, forall_const, implies_true, Int.reduceLT, Int.reduceLE, Int.reduceToNat, Int.reduceAdd, Int.reduceSub, Int.reduceNeg, ne_eq, Int.reduceEq, Int.reduceNe, Int.reduceBEq, Int.reduceBNe, beq_self_eq_true, bne_self_eq_false, BitVec.reduceBEq, BitVec.reduceBNe, BitVec.reduceOfInt, BitVec.reduceSetWidth, wrD, engS0, engS1, engS2, engS3, engS4, engS5, engS6, engS7, engS8, engS9, engT0, engT1, engT2, Fx.t1, Fx.t2, Fx.t3, Fx.t4, Fx.t5, Fx.t22, Fx.t23, Fx.t25, Fx.t45, Fx.t46, Fx.t52, Fx.t53, Fx.t54, Fx.t55, Fx.t65, Fx.t89, Fx.t118, Fx.t119, Fx.t123, Fx.t124, Fx.en25, Fx.en26, Fx.en30, Fx.en33, Fx.en34, Fx.en36, Fx.en39, Fx.en42, Fx.en43, wi]
        refine UpX_normal h (z1, some (nx1 + 1, cap', sp'), nx1 + 1 + 1) ⟨k1, d1, d2⟩ ?_
        refine Le.sameT (Nat.zero_le _) ⟨rfl, ?_, rfl, rfl, rfl, trivial⟩ (k3 _ ?_ ?_) k2
        · rw [hW]; rfl
        · rw [look_cons, if_pos rfl, hW]; rfl
        · intro k hk hk0
          rw [look_cons, if_neg (by omega), look_cons, if_neg (by omega)]; rfl
      · have e3 : (d.1 == 0) = false := by simpa using h0
        have hn1 : (rcE L (i + 1)).1 = plE (rcE L i).1 d.2.2.2.1 (nB d.2.2.2.2.1) (nB d.2.2.2.2.1) := by rw [hnext, rcS, if_neg h0]
        have hx : plO d.2.2.2.1 (nB d.2.2.2.2.1) (nB d.2.2.2.2.1) = wantD d := by rw [wantD, if_neg h0]
        have hB := plEOk (rcE L i).1 (by omega) hR.2 d.2.2.2.1 d.2.2.2.2.1
        rw [← hn1, hx] at hB
        simp (config := { maxSteps := 1000000, implicitDefEqProofs := false }) only [-List.reduceReplicate, Nat.reduceBEq, renA, renL, renM, renO, evx, evs, evp, Eng.look, cst, cst1, putd, dstOk, params, loadx, partx, loI, hiI, bltx, mmI, boxx, srcx, calx, nilx, upd, del, resv, fillA, setMany, Nat.reduceLT, Nat.reduceLeDiff, Nat.reduceEqDiff, Nat.reduceAdd, Nat.reduceMul, Nat.reduceSub, reduceIte, reduceCtorEq, if_true, if_false, ite_true, ite_false, eq_self, forall_const, implies_true, Int.reduceLT, Int.reduceLE, Int.reduceToNat, Int.reduceAdd, Int.reduceSub, Int.reduceNeg, ne_eq, Int.reduceEq, Int.reduceNe, Int.reduceBEq, Int.reduceBNe, beq_self_eq_true, bne_self_eq_false, BitVec.reduceBEq, BitVec.reduceBNe, BitVec.reduceOfInt, BitVec.reduceSetWidth, wrD, engS0, engS1, engS2, engS3, engS4, engS5, engS6, engS7, engS8, engS9, engT0, engT1, engT2, Fx.t1, Fx.t2, Fx.t3, Fx.t4, Fx.t5, Fx.t22, Fx.t23, Fx.t25, Fx.t45, Fx.t46, Fx.t52, Fx.t53, Fx.t54, Fx.t55, Fx.t65, Fx.t89, Fx.t118, Fx.t119, Fx.t123, Fx.t124, Fx.en25, Fx.en26, Fx.en30, Fx.en33, Fx.en34, Fx.en36, Fx.en39, Fx.en42, Fx.en43, g1, hde, e3, hv, hm, List.cons_append, List.nil_append]
        repeat (refine And.intro (by first | omega | (rw [ded_len]; omega) | (simp only [List.length_drop, List.length_cons, ded_len]; omega)) ?_)
        refine ⟨Fx.mixed, .inl ⟨[(0, false), (1, false), (2, false), (3, false), (4, false), (5, false), (6, false), (7, false), (8, false), (9, false), (10, false), (11, false), (12, true), (13, true), (14, true), (15, false)], zMods z, by kernel_rfl, (fun n hn => ⟨rfl, q.mods n hn⟩), ?_⟩⟩
        simp (config := { maxSteps := 1000000, implicitDefEqProofs := false }) only [-List.reduceReplicate, Nat.reduceBEq, renA, renL, renM, renO, evx, evs, evp, Eng.look, cst, cst1, putd, dstOk, params, loadx, partx, loI, hiI, bltx, mmI, boxx, srcx, calx, nilx, upd, del, resv, fillA, setMany, Nat.reduceLT, Nat.reduceLeDiff, Nat.reduceEqDiff, Nat.reduceAdd, Nat.reduceMul, Nat.reduceSub, reduceIte, reduceCtorEq, if_true, if_false, ite_true, ite_false, eq_self, forall_const, implies_true, Int.reduceLT, Int.reduceLE, Int.reduceToNat, Int.reduceAdd, Int.reduceSub, Int.reduceNeg, ne_eq, Int.reduceEq, Int.reduceNe, Int.reduceBEq, Int.reduceBNe, beq_self_eq_true, bne_self_eq_false, BitVec.reduceBEq, BitVec.reduceBNe, BitVec.reduceOfInt, BitVec.reduceSetWidth, wrD, engS0, engS1, engS2, engS3, engS4, engS5, engS6, engS7, engS8, engS9, engT0, engT1, engT2, Fx.t1, Fx.t2, Fx.t3, Fx.t4, Fx.t5, Fx.t22, Fx.t23, Fx.t25, Fx.t45, Fx.t46, Fx.t52, Fx.t53, Fx.t54, Fx.t55, Fx.t65, Fx.t89, Fx.t118, Fx.t119, Fx.t123, Fx.t124, Fx.en25, Fx.en26, Fx.en30, Fx.en33, Fx.en34, Fx.en36, Fx.en39, Fx.en42, Fx.en43, hde, hv, hm, List.cons_append, List.nil_append]
        repeat (refine And.intro (by first | omega | (rw [ded_len]; omega) | (simp only [List.length_drop, List.length_cons, ded_len]; omega)) ?_)
        refine useE2w (R := []) q hB (wr_mem (zMods0 z)) (fun k hk => wr_mem (zModsz k hk)) (fun _ => rfl) (fun _ => rfl) ?_
        intro z1 nx1 n1 q1
        simp (config := { maxSteps := 1000000, implicitDefEqProofs := false }) only [-List.reduceReplicate, Nat.reduceBEq, renA, renL, renM, renO, evx, evs, evp, Eng.look, cst, cst1, putd, dstOk, params, loadx, partx, loI, hiI, bltx, mmI, boxx, srcx, calx, nilx, upd, del, resv, fillA, setMany, Nat.reduceLT, Nat.reduceLeDiff, Nat.reduceEqDiff, Nat.reduceAdd, Nat.reduceMul, Nat.reduceSub, reduceIte, reduceCtorEq, if_true, if_false, ite_true, ite_false, eq_self, forall_const, implies_true, Int.reduceLT, Int.reduceLE, Int.reduceToNat, Int.reduceAdd, Int.reduceSub, Int.reduceNeg, ne_eq, Int.reduceEq, Int.reduceNe, Int.reduceBEq, Int.reduceBNe, beq_self_eq_true, bne_self_eq_false, BitVec.reduceBEq, BitVec.reduceBNe, BitVec.reduceOfInt, BitVec.reduceSetWidth, wrD, engS0, engS1, engS2, engS3, engS4, engS5, engS6, engS7, engS8, engS9, engT0, engT1, engT2, Fx.t1, Fx.t2, Fx.t3, Fx.t4, Fx.t5, Fx.t22, Fx.t23, Fx.t25, Fx.t45, Fx.t46, Fx.t52, Fx.t53, Fx.t54, Fx.t55, Fx.t65, Fx.t89, Fx.t118, Fx.t119, Fx.t123, Fx.t124, Fx.en25, Fx.en26, Fx.en30, Fx.en33, Fx.en34, Fx.en36, Fx.en39, Fx.en42, Fx.en43, hde, hv, hm, List.cons_append, List.nil_append, tk1]
        refine ⟨.inr trivial, ?_⟩
        refine appk_nils (y := [wantD d]) (by decide) (by simp) (fun e => by cases e) fun _ cap' sp' d1 d2 => ?_
        obtain ⟨k1, k2, k3⟩ := q1.next (a := nx1 + 1) (nx2 := nx1 + 1 + 1) (by omega) (by omega) (wR (wW L (i + 1)) sp')
        rw [← hW] at d1
        simp (config := { maxSteps := 1000000, implicitDefEqProofs := false }) only [-List.reduceReplicate, Nat.reduceBEq, renA, renL, renM, renO, evx, evs, evp, Eng.look, cst, cst1, putd, dstOk, params, loadx, partx, loI, hiI, bltx, mmI, boxx, srcx, calx, nilx, upd, del, resv, fillA, setMany, Nat.reduceLT, Nat.reduceLeDiff, Nat.reduceEqDiff, Nat.reduceAdd, Nat.reduceMul, Nat.reduceSub, reduceIte, reduceCtorEq, if_true, if_false, ite_true, ite_false, eq_self, forall_const, implies_true, Int.reduceLT, Int.reduceLE, Int.reduceToNat, Int.reduceAdd, Int.reduceSub, Int.reduceNeg, ne_eq, Int.reduceEq, Int.reduceNe, Int.reduceBEq, Int.reduceBNe, beq_self_eq_true, bne_self_eq_false, BitVec.reduceBEq, BitVec.reduceBNe, BitVec.reduceOfInt, BitVec.reduceSetWidth, wrD, engS0, engS1, engS2, engS3, engS4, engS5, engS6, engS7, engS8, engS9, engT0, engT1, engT2, Fx.t1, Fx.t2, Fx.t3, Fx.t4, Fx.t5, Fx.t22, Fx.t23, Fx.t25, Fx.t45, Fx.t46, Fx.t52, Fx.t53, Fx.t54, Fx.t55, Fx.t65, Fx.t89, Fx.t118, Fx.t119, Fx.t123, Fx.t124, Fx.en25, Fx.en26, Fx.en30, Fx.en33, Fx.en34, Fx.en36, Fx.en39, Fx.en42, Fx.en43, wi]
        refine UpX_normal h (z1, some (nx1 + 1, cap', sp'), nx1 + 1 + 1) ⟨k1, d1, d2⟩ ?_
        refine Le.sameT (Nat.zero_le _) ⟨rfl, ?_, rfl, rfl, rfl, trivial⟩ (k3 _ ?_ ?_) k2
        · rw [hW]; rfl
        · rw [look_cons, if_pos rfl, hW]; rfl
        · intro k hk hk0
          rw [look_cons, if_neg (by omega), look_cons, if_neg (by omega)]; rfl
    · have hv : wV (wW L i) (some (n, cap, sp)) = .sl n 0 (wW L i).length cap := rfl
      have hm : wM (wW L i) (some (n, cap, sp)) = [(n, wR (wW L i) sp)] := rfl
      obtain ⟨c1, c2⟩ := hy
      have hns : ∀ k, (k = 0 ∨ zNm z k) → ¬ n = k := fun k hk e => by have := q.r k (by rcases hk with h | h; exact .inl h; exact .inr (.inr h)); rw [hm, look_cons, if_pos e] at this; cases this
      rcases Decidable.em (d.1 = 0) with h0 | h0
      · have e3 : (d.1 == 0) = true := by simpa using h0
        have hn1 : (rcE L (i + 1)).1 = bitE (rcE L i).1 (fairV d.2.1) (d.2.2.1 != 0) := by rw [hnext, rcS, if_pos h0]
        have hx : BitVec.ofInt 32 (bitI (d.2.2.1 != 0)) = wantD d := by rw [wantD, if_pos h0]; cases (d.2.2.1 != 0) <;> rfl
        have hB := bitEOk (rcE L i).1 (by omega) hR.2 d.2.1 d.2.2.1
        rw [← hn1] at hB
        simp (config := { maxSteps := 1000000, implicitDefEqProofs := false }) only [-List.reduceReplicate, Nat.reduceBEq, renA, renL, renM, renO, evx, evs, evp, Eng.look, cst, cst1, putd, dstOk, params, loadx, partx, loI, hiI, bltx, mmI, boxx, srcx, calx, nilx, upd, del, resv, fillA, setMany, Nat.reduceLT, Nat.reduceLeDiff, Nat.reduceEqDiff, Nat.reduceAdd, Nat.reduceMul, Nat.reduceSub, reduceIte, reduceCtorEq, if_true, if_false, ite_true, ite_false, eq_self, forall_const, implies_true, Int.reduceLT, Int.reduceLE, Int.reduceToNat, Int.reduceAdd, Int.reduceSub, Int.reduceNeg, ne_eq, Int.reduceEq, Int.reduceNe, Int.reduceBEq, Int.reduceBNe, beq_self_eq_true, bne_self_eq_false, BitVec.reduceBEq, BitVec.reduceBNe, BitVec.reduceOfInt, BitVec.reduceSetWidth, wrD, engS0, engS1, engS2, engS3, engS4, engS5, engS6, engS7, engS8, engS9, engT0, engT1, engT2, Fx.t1, Fx.t2, Fx.t3, Fx.t4, Fx.t5, Fx.t22, Fx.t23, Fx.t25, Fx.t45, Fx.t46, Fx.t52, Fx.t53, Fx.t54, Fx.t55, Fx.t65, Fx.t89, Fx.t118, Fx.t119, Fx.t123, Fx.t124, Fx.en25, Fx.en26, Fx.en30, Fx.en33, Fx.en34, Fx.en36, Fx.en39, Fx.en42, Fx.en43, g1, hde, e3, hv, hm, List.cons_append, List.nil_append]
        repeat (refine And.intro (by first | omega | (rw [ded_len]; omega) | (simp only [List.length_drop, List.length_cons, ded_len]; omega)) ?_)
        refine ⟨Fx.mixed, .inl ⟨[(0, false), (1, false), (2, false), (3, false), (4, false), (5, false), (6, false), (7, false), (8, false), (9, false), (10, false), (11, true), (12, false), (13, false), (14, false), (15, false), (16, false)], zMods z, by kernel_rfl, (fun n hn => ⟨rfl, q.mods n hn⟩), ?_⟩⟩
        simp (config := { maxSteps := 1000000, implicitDefEqProofs := false }) only [-List.reduceReplicate, Nat.reduceBEq, renA, renL, renM, renO, evx, evs, evp, Eng.look, cst, cst1, putd, dstOk, params, loadx, partx, loI, hiI, bltx, mmI, boxx, srcx, calx, nilx, upd, del, resv, fillA, setMany, Nat.reduceLT, Nat.reduceLeDiff, Nat.reduceEqDiff, Nat.reduceAdd, Nat.reduceMul, Nat.reduceSub, reduceIte, reduceCtorEq, if_true, if_false, ite_true, ite_false, eq_self, forall_const, implies_true, Int.reduceLT, Int.reduceLE, Int.reduceToNat, Int.reduceAdd, Int.reduceSub, Int.reduceNeg, ne_eq, Int.reduceEq, Int.reduceNe, Int.reduceBEq, Int.reduceBNe, beq_self_eq_true, bne_self_eq_false, BitVec.reduceBEq, BitVec.reduceBNe, BitVec.reduceOfInt, BitVec.reduceSetWidth, wrD, engS0, engS1, engS2, engS3, engS4, engS5, engS6, engS7, engS8, engS9, engT0, engT1, engT2, Fx.t1, Fx.t2, Fx.t3, Fx.t4, Fx.t5, Fx.t22, Fx.t23, Fx.t25, Fx.t45, Fx.t46, Fx.t52, Fx.t53, Fx.t54, Fx.t55, Fx.t65, Fx.t89, Fx.t118, Fx.t119, Fx.t123, Fx.t124, Fx.en25, Fx.en26, Fx.en30, Fx.en33, Fx.en34, Fx.en36, Fx.en39, Fx.en42, Fx.en43, hde, hv, hm, List.cons_append, List.nil_append]
        repeat (refine And.intro (by first | omega | (rw [ded_len]; omega) | (simp only [List.length_drop, List.length_cons, ded_len]; omega)) ?_)
        refine useE2w (R := [(n, wR (wW L i) sp)]) q hB LQ.w0 LQ.wz (fun _ => rfl) (tup2_ren _ _ rfl rfl) ?_
        intro z1 nx1 n1 q1
        simp (config := { maxSteps := 1000000, implicitDefEqProofs := false }) only [-List.reduceReplicate, Nat.reduceBEq, renA, renL, renM, renO, evx, evs, evp, Eng.look, cst, cst1, putd, dstOk, params, loadx, partx, loI, hiI, bltx, mmI, boxx, srcx, calx, nilx, upd, del, resv, fillA, setMany, Nat.reduceLT, Nat.reduceLeDiff, Nat.reduceEqDiff, Nat.reduceAdd, Nat.reduceMul, Nat.reduceSub, reduceIte, reduceCtorEq, if_true, if_false, ite_true, ite_false, eq_self, forall_const, implies_true, Int.reduceLT, Int.reduceLE, Int.reduceToNat, Int.reduceAdd, Int.reduceSub, Int.reduceNeg, ne_eq, Int.reduceEq, Int.reduceNe, Int.reduceBEq, Int.reduceBNe, beq_self_eq_true, bne_self_eq_false, BitVec.reduceBEq, BitVec.reduceBNe, BitVec.reduceOfInt, BitVec.reduceSetWidth, wrD, engS0, engS1, engS2, engS3, engS4, engS5, engS6, engS7, engS8, engS9, engT0, engT1, engT2, Fx.t1, Fx.t2, Fx.t3, Fx.t4, Fx.t5, Fx.t22, Fx.t23, Fx.t25, Fx.t45, Fx.t46, Fx.t52, Fx.t53, Fx.t54, Fx.t55, Fx.t65, Fx.t89, Fx.t118, Fx.t119, Fx.t123, Fx.t124, Fx.en25, Fx.en26, Fx.en30, Fx.en33, Fx.en34, Fx.en36, Fx.en39, Fx.en42, Fx.en43, hde, hv, hm, List.cons_append, List.nil_append, hx, tk1]
        refine ⟨.inr trivial, ?_⟩
        have hnn : ¬ nx1 = n := fun e => by have := q1.r n (.inr (.inl (by omega))); rw [look_cons, if_pos rfl] at this; cases this
        have hns1 : ∀ k, (k = 0 ∨ zNm z1 k) → ¬ n = k := fun k hk e => by have := q1.r k (by rcases hk with h | h; exact .inl h; exact .inr (.inr h)); rw [look_cons, if_pos e] at this; cases this
        refine appk_bvs (k := .u32) (x := wW L i) (y := [wantD d]) (sp := sp) (by rw [look_cons, if_neg hnn, look_cons, if_pos rfl]; rfl) rfl c1 c2 (by decide) (by rw [List.length_singleton, hWl]; omega) fun cap' sp' d1 d2 => ?_
        obtain ⟨k1, k2, k3⟩ := q1.next (a := nx1 + 1) (nx2 := nx1 + 1 + 1) (by omega) (by omega) (wR (wW L (i + 1)) sp')
        rw [← hW] at d1
        simp (config := { maxSteps := 1000000, implicitDefEqProofs := false }) only [-List.reduceReplicate, Nat.reduceBEq, renA, renL, renM, renO, evx, evs, evp, Eng.look, cst, cst1, putd, dstOk, params, loadx, partx, loI, hiI, bltx, mmI, boxx, srcx, calx, nilx, upd, del, resv, fillA, setMany, Nat.reduceLT, Nat.reduceLeDiff, Nat.reduceEqDiff, Nat.reduceAdd, Nat.reduceMul, Nat.reduceSub, reduceIte, reduceCtorEq, if_true, if_false, ite_true, ite_false, eq_self, forall_const, implies_true, Int.reduceLT, Int.reduceLE, Int.reduceToNat, Int.reduceAdd, Int.reduceSub, Int.reduceNeg, ne_eq, Int.reduceEq, Int.reduceNe, Int.reduceBEq, Int.reduceBNe, beq_self_eq_true, bne_self_eq_false, BitVec.reduceBEq, BitVec.reduceBNe, BitVec.reduceOfInt, BitVec.reduceSetWidth, wrD, engS0, engS1, engS2, engS3, engS4, engS5, engS6, engS7, engS8, engS9, engT0, engT1, engT2, Fx.t1, Fx.t2, Fx.t3, Fx.t4, Fx.t5, Fx.t22, Fx.t23, Fx.t25, Fx.t45, Fx.t46, Fx.t52, Fx.t53, Fx.t54, Fx.t55, Fx.t65, Fx.t89, Fx.t118, Fx.t119, Fx.t123, Fx.t124, Fx.en25, Fx.en26, Fx.en30, Fx.en33, Fx.en34, Fx.en36, Fx.en39, Fx.en42, Fx.en43, wi]
        refine UpX_normal h (z1, some (nx1 + 1, cap', sp'), nx1 + 1 + 1) ⟨k1, d1, d2⟩ ?_
        refine Le.sameT (Nat.zero_le _) ⟨rfl, ?_, rfl, rfl, rfl, trivial⟩ (k3 _ ?_ ?_) k2
        · rw [hW, wV, List.length_append, List.length_singleton]; rfl
        · rw [look_cons, if_pos rfl, hW]; rfl
        · intro k hk hk0
          rw [if_neg hnn, look_cons, if_neg (by omega), look_cons, if_neg (by omega), look_del_other (hns1 k hk0), List.cons_append, look_cons, if_neg (hns1 k hk0)]; rfl
      · have e3 : (d.1 == 0) = false := by simpa using h0
        have hn1 : (rcE L (i + 1)).1 = plE (rcE L i).1 d.2.2.2.1 (nB d.2.2.2.2.1) (nB d.2.2.2.2.1) := by rw [hnext, rcS, if_neg h0]
        have hx : plO d.2.2.2.1 (nB d.2.2.2.2.1) (nB d.2.2.2.2.1) = wantD d := by rw [wantD, if_neg h0]
        have hB := plEOk (rcE L i).1 (by omega) hR.2 d.2.2.2.1 d.2.2.2.2.1
        rw [← hn1, hx] at hB
        simp (config := { maxSteps := 1000000, implicitDefEqProofs := false }) only [-List.reduceReplicate, Nat.reduceBEq, renA, renL, renM, renO, evx, evs, evp, Eng.look, cst, cst1, putd, dstOk, params, loadx, partx, loI, hiI, bltx, mmI, boxx, srcx, calx, nilx, upd, del, resv, fillA, setMany, Nat.reduceLT, Nat.reduceLeDiff, Nat.reduceEqDiff, Nat.reduceAdd, Nat.reduceMul, Nat.reduceSub, reduceIte, reduceCtorEq, if_true, if_false, ite_true, ite_false, eq_self, forall_const, implies_true, Int.reduceLT, Int.reduceLE, Int.reduceToNat, Int.reduceAdd, Int.reduceSub, Int.reduceNeg, ne_eq, Int.reduceEq, Int.reduceNe, Int.reduceBEq, Int.reduceBNe, beq_self_eq_true, bne_self_eq_false, BitVec.reduceBEq, BitVec.reduceBNe, BitVec.reduceOfInt, BitVec.reduceSetWidth, wrD, engS0, engS1, engS2, engS3, engS4, engS5, engS6, engS7, engS8, engS9, engT0, engT1, engT2, Fx.t1, Fx.t2, Fx.t3, Fx.t4, Fx.t5, Fx.t22, Fx.t23, Fx.t25, Fx.t45, Fx.t46, Fx.t52, Fx.t53, Fx.t54, Fx.t55, Fx.t65, Fx.t89, Fx.t118, Fx.t119, Fx.t123, Fx.t124, Fx.en25, Fx.en26, Fx.en30, Fx.en33, Fx.en34, Fx.en36, Fx.en39, Fx.en42, Fx.en43, g1, hde, e3, hv, hm, List.cons_append, List.nil_append]
        repeat (refine And.intro (by first | omega | (rw [ded_len]; omega) | (simp only [List.length_drop, List.length_cons, ded_len]; omega)) ?_)
        refine ⟨Fx.mixed, .inl ⟨[(0, false), (1, false), (2, false), (3, false), (4, false), (5, false), (6, false), (7, false), (8, false), (9, false), (10, false), (11, false), (12, true), (13, true), (14, true), (15, false)], (n :: zMods z), by kernel_rfl, (fun k hk => ⟨rfl, by rcases List.mem_cons.1 hk with rfl | hk; (rw [look_cons, if_pos rfl]; rfl); exact q.mods k hk⟩), ?_⟩⟩
        simp (config := { maxSteps := 1000000, implicitDefEqProofs := false }) only [-List.reduceReplicate, Nat.reduceBEq, renA, renL, renM, renO, evx, evs, evp, Eng.look, cst, cst1, putd, dstOk, params, loadx, partx, loI, hiI, bltx, mmI, boxx, srcx, calx, nilx, upd, del, resv, fillA, setMany, Nat.reduceLT, Nat.reduceLeDiff, Nat.reduceEqDiff, Nat.reduceAdd, Nat.reduceMul, Nat.reduceSub, reduceIte, reduceCtorEq, if_true, if_false, ite_true, ite_false, eq_self, forall_const, implies_true, Int.reduceLT, Int.reduceLE, Int.reduceToNat, Int.reduceAdd, Int.reduceSub, Int.reduceNeg, ne_eq, Int.reduceEq, Int.reduceNe, Int.reduceBEq, Int.reduceBNe, beq_self_eq_true, bne_self_eq_false, BitVec.reduceBEq, BitVec.reduceBNe, BitVec.reduceOfInt, BitVec.reduceSetWidth, wrD, engS0, engS1, engS2, engS3, engS4, engS5, engS6, engS7, engS8, engS9, engT0, engT1, engT2, Fx.t1, Fx.t2, Fx.t3, Fx.t4, Fx.t5, Fx.t22, Fx.t23, Fx.t25, Fx.t45, Fx.t46, Fx.t52, Fx.t53, Fx.t54, Fx.t55, Fx.t65, Fx.t89, Fx.t118, Fx.t119, Fx.t123, Fx.t124, Fx.en25, Fx.en26, Fx.en30, Fx.en33, Fx.en34, Fx.en36, Fx.en39, Fx.en42, Fx.en43, hde, hv, hm, List.cons_append, List.nil_append]
        repeat (refine And.intro (by first | omega | (rw [ded_len]; omega) | (simp only [List.length_drop, List.length_cons, ded_len]; omega)) ?_)
        refine useE2w (R := [(n, wR (wW L i) sp)]) q hB (wr_mem (List.mem_cons_of_mem _ (zMods0 z))) (fun k hk => wr_mem (List.mem_cons_of_mem _ (zModsz k hk))) (fun _ => rfl) (fun _ => rfl) ?_
        intro z1 nx1 n1 q1
        simp (config := { maxSteps := 1000000, implicitDefEqProofs := false }) only [-List.reduceReplicate, Nat.reduceBEq, renA, renL, renM, renO, evx, evs, evp, Eng.look, cst, cst1, putd, dstOk, params, loadx, partx, loI, hiI, bltx, mmI, boxx, srcx, calx, nilx, upd, del, resv, fillA, setMany, Nat.reduceLT, Nat.reduceLeDiff, Nat.reduceEqDiff, Nat.reduceAdd, Nat.reduceMul, Nat.reduceSub, reduceIte, reduceCtorEq, if_true, if_false, ite_true, ite_false, eq_self, forall_const, implies_true, Int.reduceLT, Int.reduceLE, Int.reduceToNat, Int.reduceAdd, Int.reduceSub, Int.reduceNeg, ne_eq, Int.reduceEq, Int.reduceNe, Int.reduceBEq, Int.reduceBNe, beq_self_eq_true, bne_self_eq_false, BitVec.reduceBEq, BitVec.reduceBNe, BitVec.reduceOfInt, BitVec.reduceSetWidth, wrD, engS0, engS1, engS2, engS3, engS4, engS5, engS6, engS7, engS8, engS9, engT0, engT1, engT2, Fx.t1, Fx.t2, Fx.t3, Fx.t4, Fx.t5, Fx.t22, Fx.t23, Fx.t25, Fx.t45, Fx.t46, Fx.t52, Fx.t53, Fx.t54, Fx.t55, Fx.t65, Fx.t89, Fx.t118, Fx.t119, Fx.t123, Fx.t124, Fx.en25, Fx.en26, Fx.en30, Fx.en33, Fx.en34, Fx.en36, Fx.en39, Fx.en42, Fx.en43, hde, hv, hm, List.cons_append, List.nil_append, tk1]
        refine ⟨.inr trivial, ?_⟩
        have hnn : ¬ nx1 = n := fun e => by have := q1.r n (.inr (.inl (by omega))); rw [look_cons, if_pos rfl] at this; cases this
        have hns1 : ∀ k, (k = 0 ∨ zNm z1 k) → ¬ n = k := fun k hk e => by have := q1.r k (by rcases hk with h | h; exact .inl h; exact .inr (.inr h)); rw [look_cons, if_pos e] at this; cases this
        refine appk_bvs (k := .u32) (x := wW L i) (y := [wantD d]) (sp := sp) (by rw [look_cons, if_neg hnn, look_cons, if_pos rfl]; rfl) (wr_mem (List.mem_cons_self ..)) c1 c2 (by decide) (by rw [List.length_singleton, hWl]; omega) fun cap' sp' d1 d2 => ?_
        obtain ⟨k1, k2, k3⟩ := q1.next (a := nx1 + 1) (nx2 := nx1 + 1 + 1) (by omega) (by omega) (wR (wW L (i + 1)) sp')
        rw [← hW] at d1
        simp (config := { maxSteps := 1000000, implicitDefEqProofs := false }) only [-List.reduceReplicate, Nat.reduceBEq, renA, renL, renM, renO, evx, evs, evp, Eng.look, cst, cst1, putd, dstOk, params, loadx, partx, loI, hiI, bltx, mmI, boxx, srcx, calx, nilx, upd, del, resv, fillA, setMany, Nat.reduceLT, Nat.reduceLeDiff, Nat.reduceEqDiff, Nat.reduceAdd, Nat.reduceMul, Nat.reduceSub, reduceIte, reduceCtorEq, if_true, if_false, ite_true, ite_false, eq_self, forall_const, implies_true, Int.reduceLT, Int.reduceLE, Int.reduceToNat, Int.reduceAdd, Int.reduceSub, Int.reduceNeg, ne_eq, Int.reduceEq, Int.reduceNe, Int.reduceBEq, Int.reduceBNe, beq_self_eq_true, bne_self_eq_false, BitVec.reduceBEq, BitVec.reduceBNe, BitVec.reduceOfInt, BitVec.reduceSetWidth, wrD, engS0, engS1, engS2, engS3, engS4, engS5, engS6, engS7, engS8, engS9, engT0, engT1, engT2, Fx.t1, Fx.t2, Fx.t3, Fx.t4, Fx.t5, Fx.t22, Fx.t23, Fx.t25, Fx.t45, Fx.t46, Fx.t52, Fx.t53, Fx.t54, Fx.t55, Fx.t65, Fx.t89, Fx.t118, Fx.t119, Fx.t123, Fx.t124, Fx.en25, Fx.en26, Fx.en30, Fx.en33, Fx.en34, Fx.en36, Fx.en39, Fx.en42, Fx.en43, wi]
        refine UpX_normal h (z1, some (nx1 + 1, cap', sp'), nx1 + 1 + 1) ⟨k1, d1, d2⟩ ?_
        refine Le.sameT (Nat.zero_le _) ⟨rfl, ?_, rfl, rfl, rfl, trivial⟩ (k3 _ ?_ ?_) k2
        · rw [hW, wV, List.length_append, List.length_singleton]; rfl
        · rw [look_cons, if_pos rfl, hW]; rfl
        · intro k hk hk0
          rw [if_neg hnn, look_cons, if_neg (by omega), look_cons, if_neg (by omega), look_del_other (hns1 k hk0), List.cons_append, look_cons, if_neg (hns1 k hk0)]; rfl
  · have hi' : i = L.length := by omega
    have g1 : decide ((i : Int) < (L.length : Int)) = false := by simp; omega
    rw [hi'] at hR hlen hy q
    simp (config := { maxSteps := 1000000, implicitDefEqProofs := false }) only [-List.reduceReplicate, Nat.reduceBEq, renA, renL, renM, renO, evx, evs, evp, Eng.look, cst, cst1, putd, dstOk, params, loadx, partx, loI, hiI, bltx, mmI, boxx, srcx, calx, nilx, upd, del, resv, fillA, setMany, Nat.reduceLT, Nat.reduceLeDiff, Nat.reduceEqDiff, Nat.reduceAdd, Nat.reduceMul, Nat.reduceSub, reduceIte, reduceCtorEq, if_true, if_false, ite_true, ite_false, eq_self, forall_const, implies_true, Int.reduceLT, Int.reduceLE, Int.reduceToNat, Int.reduceAdd, Int.reduceSub, Int.reduceNeg, ne_eq, Int.reduceEq, Int.reduceNe, Int.reduceBEq, Int.reduceBNe, beq_self_eq_true, bne_self_eq_false, BitVec.reduceBEq, BitVec.reduceBNe, BitVec.reduceOfInt, BitVec.reduceSetWidth, wrD, engS0, engS1, engS2, engS3, engS4, engS5, engS6, engS7, engS8, engS9, engT0, engT1, engT2, Fx.t1, Fx.t2, Fx.t3, Fx.t4, Fx.t5, Fx.t22, Fx.t23, Fx.t25, Fx.t45, Fx.t46, Fx.t52, Fx.t53, Fx.t54, Fx.t55, Fx.t65, Fx.t89, Fx.t118, Fx.t119, Fx.t123, Fx.t124, Fx.en25, Fx.en26, Fx.en30, Fx.en33, Fx.en34, Fx.en36, Fx.en39, Fx.en42, Fx.en43, g1]
    obtain ⟨X, hX⟩ : ∃ X, 0#8 :: (rcE L L.length).2.low = X := ⟨_, rfl⟩
    have hX2 : bytE (rcE L L.length).1 = X := by rw [← hX]; exact bytE_eq hR.1 (by have := hR.2; omega)
    have hlX : X.length = (rcE L L.length).2.low.length + 1 := by rw [← hX, List.length_cons]
    have hlow := hR.1.len
    have e5 : decide ((X.length : Int) < 5) = false := by simp; omega
    rw [hi']
    refine useEB2 (R := wM (wW L L.length) y) q (by omega) (fun _ _ => rfl) hX2 ?_
    intro cap sp
    simp (config := { maxSteps := 1000000, implicitDefEqProofs := false }) only [-List.reduceReplicate, Nat.reduceBEq, renA, renL, renM, renO, evx, evs, evp, Eng.look, cst, cst1, putd, dstOk, params, loadx, partx, loI, hiI, bltx, mmI, boxx, srcx, calx, nilx, upd, del, resv, fillA, setMany, Nat.reduceLT, Nat.reduceLeDiff, Nat.reduceEqDiff, Nat.reduceAdd, Nat.reduceMul, Nat.reduceSub, reduceIte, reduceCtorEq, if_true, if_false, ite_true, ite_false, eq_self, forall_const, implies_true, Int.reduceLT, Int.reduceLE, Int.reduceToNat, Int.reduceAdd, Int.reduceSub, Int.reduceNeg, ne_eq, Int.reduceEq, Int.reduceNe, Int.reduceBEq, Int.reduceBNe, beq_self_eq_true, bne_self_eq_false, BitVec.reduceBEq, BitVec.reduceBNe, BitVec.reduceOfInt, BitVec.reduceSetWidth, wrD, engS0, engS1, engS2, engS3, engS4, engS5, engS6, engS7, engS8, engS9, engT0, engT1, engT2, Fx.t1, Fx.t2, Fx.t3, Fx.t4, Fx.t5, Fx.t22, Fx.t23, Fx.t25, Fx.t45, Fx.t46, Fx.t52, Fx.t53, Fx.t54, Fx.t55, Fx.t65, Fx.t89, Fx.t118, Fx.t119, Fx.t123, Fx.t124, Fx.en25, Fx.en26, Fx.en30, Fx.en33, Fx.en34, Fx.en36, Fx.en39, Fx.en42, Fx.en43, e5]
    refine LoopOk.upF 3 (fun k => ([(11, .int .i64 k), (10, .sl 0 0 X.length cap), (6, .ro (wW L L.length).length (bvs .u32 (wW L L.length))), (1, .int .u8 (more.toNat : Int)), (0, .ro L.length (L.flatMap dedC))], [(0, rowO X sp)], 1)) ?_ ?_
    · have hq0 : ∀ k, (nx ≤ k) → Eng.look (wM (wW L L.length) y) k = none := fun k hk => q.r k (.inr (.inl hk))
      have f0 : rf [(0, nx)] (nx + 1) 1 0 = nx := by simp [rf, Eng.look]
      rcases y with _ | ⟨n, capw, spw⟩
      · have hy : wW L L.length = [] := hy
        rw [hy]
        refine .inr ⟨none, (fun n l e => by cases e), [(0, nx)], ⟨rfl, Nat.zero_le _, ⟨rfl, ?_, rfl, rfl, ?_, trivial⟩, ⟨?_, rfl, trivial⟩, by simp [injOn], (fun n e => by cases e), fun _ _ => rfl⟩⟩
        · show _ = some (AV.sl (rf [(0, nx)] (nx + 1) 1 0) 0 X.length cap)
          rw [f0]; rfl
        · rw [fzS_look]
          simp only [Eng.look, Nat.reduceEqDiff, reduceIte, if_true, if_false, Option.map_some, fzA, renA, ded_ren]
        · show Eng.look _ (rf [(0, nx)] (nx + 1) 1 0) = _
          rw [f0, rowO_ren]
          show Eng.look ((nx, rowO X sp) :: _) nx = _
          rw [look_cons, if_pos rfl]
      · have hne : ¬ nx = n := fun e => by have := hq0 nx (Nat.le_refl _); rw [wM, look_cons, if_pos e.symm] at this; cases this
        refine .inr ⟨some (n, bvs .u32 (wW L L.length) ++ spw.map AV.val), (fun n l e => by cases e; exact ⟨rfl, 53, by rw [look_cons, if_neg hne, wM, List.cons_append, look_cons, if_pos rfl]; rfl⟩), [(0, nx)], ⟨rfl, Nat.zero_le _, ⟨rfl, ?_, ?_, rfl, ?_, trivial⟩, ⟨?_, rfl, trivial⟩, by simp [injOn], (fun n e => by cases e), fun _ _ => rfl⟩⟩
        · show _ = some (AV.sl (rf [(0, nx)] (nx + 1) 1 0) 0 X.length cap)
          rw [f0, fzS_look]
          simp only [Eng.look, Nat.reduceEqDiff, reduceIte, if_true, if_false, Option.map_some, fzA, if_neg hne]
        · rw [fzS_look]
          simp only [Eng.look, Nat.reduceEqDiff, reduceIte, if_true, if_false, Option.map_some, fzA, wV, renA, bvs_ren, List.drop_zero]
          rw [List.take_append_of_le_length (by rw [bvs_length]; exact Nat.le_refl _), bvs_take, List.take_length]
        · rw [fzS_look]
          simp only [Eng.look, Nat.reduceEqDiff, reduceIte, if_true, if_false, Option.map_some, fzA, renA, ded_ren]
        · show Eng.look _ (rf [(0, nx)] (nx + 1) 1 0) = _
          rw [f0, rowO_ren]
          show Eng.look (del ((nx, rowO X sp) :: _) n) nx = _
          rw [look_del_other (fun e => hne e.symm), look_cons, if_pos rfl]
    intro k hk
    have hb1 : (0#8 :: (rcE L L.length).2.low).length ≤ 1000000 := by rw [List.length_cons]; omega
    rcases Nat.lt_or_ge k 3 with h3 | h3
    · have g3 : decide ((k : Int) < 3) = true := by simp; omega
      have wk : IntKind.i64.wrap ((k : Int) + 1) = ((k + 1 : Nat) : Int) := by rw [wrap_i64] <;> omega
      simp (config := { maxSteps := 1000000, implicitDefEqProofs := false }) only [-List.reduceReplicate, Nat.reduceBEq, renA, renL, renM, renO, evx, evs, evp, Eng.look, cst, cst1, putd, dstOk, params, loadx, partx, loI, hiI, bltx, mmI, boxx, srcx, calx, nilx, upd, del, resv, fillA, setMany, Nat.reduceLT, Nat.reduceLeDiff, Nat.reduceEqDiff, Nat.reduceAdd, Nat.reduceMul, Nat.reduceSub, reduceIte, reduceCtorEq, if_true, if_false, ite_true, ite_false, eq_self, forall_const, implies_true, Int.reduceLT, Int.reduceLE, Int.reduceToNat, Int.reduceAdd, Int.reduceSub, Int.reduceNeg, ne_eq, Int.reduceEq, Int.reduceNe, Int.reduceBEq, Int.reduceBNe, beq_self_eq_true, bne_self_eq_false, BitVec.reduceBEq, BitVec.reduceBNe, BitVec.reduceOfInt, BitVec.reduceSetWidth, wrD, engS0, engS1, engS2, engS3, engS4, engS5, engS6, engS7, engS8, engS9, engT0, engT1, engT2, Fx.t1, Fx.t2, Fx.t3, Fx.t4, Fx.t5, Fx.t22, Fx.t23, Fx.t25, Fx.t45, Fx.t46, Fx.t52, Fx.t53, Fx.t54, Fx.t55, Fx.t65, Fx.t89, Fx.t118, Fx.t119, Fx.t123, Fx.t124, Fx.en25, Fx.en26, Fx.en30, Fx.en33, Fx.en34, Fx.en36, Fx.en39, Fx.en42, Fx.en43, g3, rowO]
      refine ⟨.inl trivial, by rw [takeA', bvs_length], by rw [takeA']; exact one1_bvs _ _, ?_⟩
      rw [takeA']
      refine appk_bvs (k := .u8) (x := ([] : List (BitVec 8))) (y := X) (sp := []) rfl rfl rfl (by decide) (by decide) (by simp; omega) ?_
      rw [List.nil_append]
      intro cap1 sp1 d1 d2
      obtain rfl | rfl | rfl : k = 0 ∨ k = 1 ∨ k = 2 := by omega
      · obtain ⟨b, hb⟩ : ∃ b, b = X := ⟨_, rfl⟩
        have hbl : b.length = X.length := by rw [hb]
        have hE : newE b = 0 := by rw [newE, if_neg (by omega), if_neg (by rw [hb, ← hX]; exact fun h => h rfl)]
        have hD : (b.drop 5).length ≤ maxLen := by rw [List.length_drop, hbl]; have : 2000000 ≤ maxLen := by decide
                                                   omega
        have hF : doneS (b.drop 5) (runD (b.drop 5) (start b) L L.length) = true ∧ (∀ j, j < L.length → gotD (b.drop 5) (runD (b.drop 5) (start b) L j) (L.getD j dedD) = wantD (L.getD j dedD)) := by rw [hb, ← hX]; exact done_same L L.length rfl (by omega)
        obtain ⟨hdone, hgot⟩ := hF
        simp (config := { maxSteps := 1000000, implicitDefEqProofs := false }) only [-List.reduceReplicate, Nat.reduceBEq, renA, renL, renM, renO, evx, evs, evp, Eng.look, cst, cst1, putd, dstOk, params, loadx, partx, loI, hiI, bltx, mmI, boxx, srcx, calx, nilx, upd, del, resv, fillA, setMany, Nat.reduceLT, Nat.reduceLeDiff, Nat.reduceEqDiff, Nat.reduceAdd, Nat.reduceMul, Nat.reduceSub, reduceIte, reduceCtorEq, if_true, if_false, ite_true, ite_false, eq_self, forall_const, implies_true, Int.reduceLT, Int.reduceLE, Int.reduceToNat, Int.reduceAdd, Int.reduceSub, Int.reduceNeg, ne_eq, Int.reduceEq, Int.reduceNe, Int.reduceBEq, Int.reduceBNe, beq_self_eq_true, bne_self_eq_false, BitVec.reduceBEq, BitVec.reduceBNe, BitVec.reduceOfInt, BitVec.reduceSetWidth, wrD, engS0, engS1, engS2, engS3, engS4, engS5, engS6, engS7, engS8, engS9, engT0, engT1, engT2, Fx.t1, Fx.t2, Fx.t3, Fx.t4, Fx.t5, Fx.t22, Fx.t23, Fx.t25, Fx.t45, Fx.t46, Fx.t52, Fx.t53, Fx.t54, Fx.t55, Fx.t65, Fx.t89, Fx.t118, Fx.t119, Fx.t123, Fx.t124, Fx.en25, Fx.en26, Fx.en30, Fx.en33, Fx.en34, Fx.en36, Fx.en39, Fx.en42, Fx.en43, g3]
        refine (newOk b (by omega)).more ⟨argB rfl (Nat.le_refl _) (by rw [hb, List.take_length]), trivial⟩ ?_
        intro v m' nx' hN
        rw [NewK, if_pos hE] at hN
        obtain ⟨dcap, dsp, hcap, rfl, rfl, rfl⟩ := hN
        refine ⟨rfl, by simp only [dM, noRoM, noRoO, noRoL_vals', noRoL, noRo, Bool.and_self], ?_⟩
        simp (config := { maxSteps := 1000000, implicitDefEqProofs := false }) only [-List.reduceReplicate, Nat.reduceBEq, renA, renL, renM, renO, evx, evs, evp, Eng.look, cst, cst1, putd, dstOk, params, loadx, partx, loI, hiI, bltx, mmI, boxx, srcx, calx, nilx, upd, del, resv, fillA, setMany, Nat.reduceLT, Nat.reduceLeDiff, Nat.reduceEqDiff, Nat.reduceAdd, Nat.reduceMul, Nat.reduceSub, reduceIte, reduceCtorEq, if_true, if_false, ite_true, ite_false, eq_self, forall_const, implies_true, Int.reduceLT, Int.reduceLE, Int.reduceToNat, Int.reduceAdd, Int.reduceSub, Int.reduceNeg, ne_eq, Int.reduceEq, Int.reduceNe, Int.reduceBEq, Int.reduceBNe, beq_self_eq_true, bne_self_eq_false, BitVec.reduceBEq, BitVec.reduceBNe, BitVec.reduceOfInt, BitVec.reduceSetWidth, wrD, engS0, engS1, engS2, engS3, engS4, engS5, engS6, engS7, engS8, engS9, engT0, engT1, engT2, Fx.t1, Fx.t2, Fx.t3, Fx.t4, Fx.t5, Fx.t22, Fx.t23, Fx.t25, Fx.t45, Fx.t46, Fx.t52, Fx.t53, Fx.t54, Fx.t55, Fx.t65, Fx.t89, Fx.t118, Fx.t119, Fx.t123, Fx.t124, Fx.en25, Fx.en26, Fx.en30, Fx.en33, Fx.en34, Fx.en36, Fx.en39, Fx.en42, Fx.en43, dM, renL_vals', e5]
        refine LoopOk.up L.length (fun i => ([(16, .int .i64 i), (15, (.bool true)), (13, .ptr 3 0), (11, .int .i64 0), (10, .sl 0 0 X.length cap), (6, .ro (wW L L.length).length (bvs .u32 (wW L L.length))), (1, .int .u8 (more.toNat : Int)), (0, .ro L.length (L.flatMap dedC))], [(3, dO 4 (b.drop 5) dcap (runD (b.drop 5) (start b) L i)), (4, .cells (bvs .u8 (b.drop 5) ++ dsp.map AV.val) 5), (0, rowO X sp)], 5)) ?_ ?_
        · exact (Le.sameT (Nat.zero_le _) ⟨rfl, rfl, rfl, rfl, rfl, rfl, rfl, rfl, trivial⟩ ⟨rfl, rfl, rfl, trivial⟩ (by simp))
        intro i hi
        have hok := runD_ok (b.drop 5) (start b) L (start_ok b) i
        rcases Nat.lt_or_ge i L.length with h | h
        · have wi : IntKind.i64.wrap ((i : Int) + 1) = ((i + 1 : Nat) : Int) := by rw [wrap_i64] <;> omega
          have g1 : decide ((i : Int) < (L.length : Int)) = true := by simp; omega
          have hde := ded_at h
          have hnext : runD (b.drop 5) (start b) L (i + 1) = stepD (b.drop 5) (runD (b.drop 5) (start b) L i) (L.getD i dedD) := rfl
          have hwa := wW_at (Nat.le_refl L.length) h
          have hwl := wW_len (Nat.le_refl L.length)
          obtain ⟨d, hdd⟩ : ∃ d, L.getD i dedD = d := ⟨_, rfl⟩
          rw [hdd] at hde hnext hwa
          rcases Decidable.em (d.1 = 0) with h0 | h0
          · have e3 : (d.1 == 0) = true := by simpa using h0
            have hgx : BitVec.ofInt 32 (bitI (bitS (b.drop 5) (runD (b.drop 5) (start b) L i) (fairV d.2.1)).1) = gotD (b.drop 5) (runD (b.drop 5) (start b) L i) d := by rw [gotD, if_pos h0]; cases (bitS (b.drop 5) (runD (b.drop 5) (start b) L i) (fairV d.2.1)).1 <;> rfl
            have hns : runD (b.drop 5) (start b) L (i + 1) = (bitS (b.drop 5) (runD (b.drop 5) (start b) L i) (fairV d.2.1)).2 := by rw [hnext, stepD, if_pos h0]
            simp (config := { maxSteps := 1000000, implicitDefEqProofs := false }) only [-List.reduceReplicate, Nat.reduceBEq, renA, renL, renM, renO, evx, evs, evp, Eng.look, cst, cst1, putd, dstOk, params, loadx, partx, loI, hiI, bltx, mmI, boxx, srcx, calx, nilx, upd, del, resv, fillA, setMany, Nat.reduceLT, Nat.reduceLeDiff, Nat.reduceEqDiff, Nat.reduceAdd, Nat.reduceMul, Nat.reduceSub, reduceIte, reduceCtorEq, if_true, if_false, ite_true, ite_false, eq_self, forall_const, implies_true, Int.reduceLT, Int.reduceLE, Int.reduceToNat, Int.reduceAdd, Int.reduceSub, Int.reduceNeg, ne_eq, Int.reduceEq, Int.reduceNe, Int.reduceBEq, Int.reduceBNe, beq_self_eq_true, bne_self_eq_false, BitVec.reduceBEq, BitVec.reduceBNe, BitVec.reduceOfInt, BitVec.reduceSetWidth, wrD, engS0, engS1, engS2, engS3, engS4, engS5, engS6, engS7, engS8, engS9, engT0, engT1, engT2, Fx.t1, Fx.t2, Fx.t3, Fx.t4, Fx.t5, Fx.t22, Fx.t23, Fx.t25, Fx.t45, Fx.t46, Fx.t52, Fx.t53, Fx.t54, Fx.t55, Fx.t65, Fx.t89, Fx.t118, Fx.t119, Fx.t123, Fx.t124, Fx.en25, Fx.en26, Fx.en30, Fx.en33, Fx.en34, Fx.en36, Fx.en39, Fx.en42, Fx.en43, g1, hde, e3]
            repeat (refine And.intro (by first | omega | (rw [ded_len]; omega) | (simp only [List.length_drop, List.length_cons, ded_len]; omega)) ?_)
            refine ⟨Fx.en28, ?_⟩
            refine useD (a := 3) (b := 4) (by decide) (bitOk (b.drop 5) hD dsp dcap hcap (runD (b.drop 5) (start b) L i) hok d.2.1 0) (tup2_ren _ _ rfl rfl) rfl rfl rfl (fun _ _ => rfl) (fun _ => rfl) (fun _ => rfl) ?_
            have hgw := hgot i h
            rw [hdd] at hgw
            simp (config := { maxSteps := 1000000, implicitDefEqProofs := false }) only [-List.reduceReplicate, Nat.reduceBEq, renA, renL, renM, renO, evx, evs, evp, Eng.look, cst, cst1, putd, dstOk, params, loadx, partx, loI, hiI, bltx, mmI, boxx, srcx, calx, nilx, upd, del, resv, fillA, setMany, Nat.reduceLT, Nat.reduceLeDiff, Nat.reduceEqDiff, Nat.reduceAdd, Nat.reduceMul, Nat.reduceSub, reduceIte, reduceCtorEq, if_true, if_false, ite_true, ite_false, eq_self, forall_const, implies_true, Int.reduceLT, Int.reduceLE, Int.reduceToNat, Int.reduceAdd, Int.reduceSub, Int.reduceNeg, ne_eq, Int.reduceEq, Int.reduceNe, Int.reduceBEq, Int.reduceBNe, beq_self_eq_true, bne_self_eq_false, BitVec.reduceBEq, BitVec.reduceBNe, BitVec.reduceOfInt, BitVec.reduceSetWidth, wrD, engS0, engS1, engS2, engS3, engS4, engS5, engS6, engS7, engS8, engS9, engT0, engT1, engT2, Fx.t1, Fx.t2, Fx.t3, Fx.t4, Fx.t5, Fx.t22, Fx.t23, Fx.t25, Fx.t45, Fx.t46, Fx.t52, Fx.t53, Fx.t54, Fx.t55, Fx.t65, Fx.t89, Fx.t118, Fx.t119, Fx.t123, Fx.t124, Fx.en25, Fx.en26, Fx.en30, Fx.en33, Fx.en34, Fx.en36, Fx.en39, Fx.en42, Fx.en43, hgx, hgw, hwa, hwl, beq_self_eq_true, wi]
            repeat (refine And.intro (by first | omega | (rw [bvs_length]; omega) | (rw [List.length_drop, hwl]; omega)) ?_)
            refine UpK_normal h ?_
            rw [hns]
            exact (Le.sameT (Nat.zero_le _) ⟨rfl, rfl, rfl, rfl, rfl, rfl, rfl, rfl, trivial⟩ ⟨rfl, rfl, rfl, trivial⟩ (by simp))
          · have e3 : (d.1 == 0) = false := by simpa using h0
            have hgx : plnV (pln (b.drop 5) (runD (b.drop 5) (start b) L i) (nB d.2.2.2.2.1)) = gotD (b.drop 5) (runD (b.drop 5) (start b) L i) d := by rw [gotD, if_neg h0]
            have hns : runD (b.drop 5) (start b) L (i + 1) = (pln (b.drop 5) (runD (b.drop 5) (start b) L i) (nB d.2.2.2.2.1)).1 := by rw [hnext, stepD, if_neg h0]
            simp (config := { maxSteps := 1000000, implicitDefEqProofs := false }) only [-List.reduceReplicate, Nat.reduceBEq, renA, renL, renM, renO, evx, evs, evp, Eng.look, cst, cst1, putd, dstOk, params, loadx, partx, loI, hiI, bltx, mmI, boxx, srcx, calx, nilx, upd, del, resv, fillA, setMany, Nat.reduceLT, Nat.reduceLeDiff, Nat.reduceEqDiff, Nat.reduceAdd, Nat.reduceMul, Nat.reduceSub, reduceIte, reduceCtorEq, if_true, if_false, ite_true, ite_false, eq_self, forall_const, implies_true, Int.reduceLT, Int.reduceLE, Int.reduceToNat, Int.reduceAdd, Int.reduceSub, Int.reduceNeg, ne_eq, Int.reduceEq, Int.reduceNe, Int.reduceBEq, Int.reduceBNe, beq_self_eq_true, bne_self_eq_false, BitVec.reduceBEq, BitVec.reduceBNe, BitVec.reduceOfInt, BitVec.reduceSetWidth, wrD, engS0, engS1, engS2, engS3, engS4, engS5, engS6, engS7, engS8, engS9, engT0, engT1, engT2, Fx.t1, Fx.t2, Fx.t3, Fx.t4, Fx.t5, Fx.t22, Fx.t23, Fx.t25, Fx.t45, Fx.t46, Fx.t52, Fx.t53, Fx.t54, Fx.t55, Fx.t65, Fx.t89, Fx.t118, Fx.t119, Fx.t123, Fx.t124, Fx.en25, Fx.en26, Fx.en30, Fx.en33, Fx.en34, Fx.en36, Fx.en39, Fx.en42, Fx.en43, g1, hde, e3]
            repeat (refine And.intro (by first | omega | (rw [ded_len]; omega) | (simp only [List.length_drop, List.length_cons, ded_len]; omega)) ?_)
            refine useD (a := 3) (b := 4) (by decide) (plainOk (b.drop 5) hD dsp dcap hcap (runD (b.drop 5) (start b) L i) hok 0#32 d.2.2.2.2.1) (fun _ => rfl) rfl rfl rfl (fun _ _ => rfl) (fun _ => rfl) (fun _ => rfl) ?_
            have hgw := hgot i h
            rw [hdd] at hgw
            simp (config := { maxSteps := 1000000, implicitDefEqProofs := false }) only [-List.reduceReplicate, Nat.reduceBEq, renA, renL, renM, renO, evx, evs, evp, Eng.look, cst, cst1, putd, dstOk, params, loadx, partx, loI, hiI, bltx, mmI, boxx, srcx, calx, nilx, upd, del, resv, fillA, setMany, Nat.reduceLT, Nat.reduceLeDiff, Nat.reduceEqDiff, Nat.reduceAdd, Nat.reduceMul, Nat.reduceSub, reduceIte, reduceCtorEq, if_true, if_false, ite_true, ite_false, eq_self, forall_const, implies_true, Int.reduceLT, Int.reduceLE, Int.reduceToNat, Int.reduceAdd, Int.reduceSub, Int.reduceNeg, ne_eq, Int.reduceEq, Int.reduceNe, Int.reduceBEq, Int.reduceBNe, beq_self_eq_true, bne_self_eq_false, BitVec.reduceBEq, BitVec.reduceBNe, BitVec.reduceOfInt, BitVec.reduceSetWidth, wrD, engS0, engS1, engS2, engS3, engS4, engS5, engS6, engS7, engS8, engS9, engT0, engT1, engT2, Fx.t1, Fx.t2, Fx.t3, Fx.t4, Fx.t5, Fx.t22, Fx.t23, Fx.t25, Fx.t45, Fx.t46, Fx.t52, Fx.t53, Fx.t54, Fx.t55, Fx.t65, Fx.t89, Fx.t118, Fx.t119, Fx.t123, Fx.t124, Fx.en25, Fx.en26, Fx.en30, Fx.en33, Fx.en34, Fx.en36, Fx.en39, Fx.en42, Fx.en43, hgx, hgw, hwa, hwl, beq_self_eq_true, wi]
            repeat (refine And.intro (by first | omega | (rw [bvs_length]; omega) | (rw [List.length_drop, hwl]; omega)) ?_)
            refine UpK_normal h ?_
            rw [hns]
            exact (Le.sameT (Nat.zero_le _) ⟨rfl, rfl, rfl, rfl, rfl, rfl, rfl, rfl, trivial⟩ ⟨rfl, rfl, rfl, trivial⟩ (by simp))
        have hi' : i = L.length := by omega
        have g1 : decide ((i : Int) < (L.length : Int)) = false := by simp; omega
        rw [← hi'] at hdone
        simp (config := { maxSteps := 1000000, implicitDefEqProofs := false }) only [-List.reduceReplicate, Nat.reduceBEq, renA, renL, renM, renO, evx, evs, evp, Eng.look, cst, cst1, putd, dstOk, params, loadx, partx, loI, hiI, bltx, mmI, boxx, srcx, calx, nilx, upd, del, resv, fillA, setMany, Nat.reduceLT, Nat.reduceLeDiff, Nat.reduceEqDiff, Nat.reduceAdd, Nat.reduceMul, Nat.reduceSub, reduceIte, reduceCtorEq, if_true, if_false, ite_true, ite_false, eq_self, forall_const, implies_true, Int.reduceLT, Int.reduceLE, Int.reduceToNat, Int.reduceAdd, Int.reduceSub, Int.reduceNeg, ne_eq, Int.reduceEq, Int.reduceNe, Int.reduceBEq, Int.reduceBNe, beq_self_eq_true, bne_self_eq_false, BitVec.reduceBEq, BitVec.reduceBNe, BitVec.reduceOfInt, BitVec.reduceSetWidth, wrD, engS0, engS1, engS2, engS3, engS4, engS5, engS6, engS7, engS8, engS9, engT0, engT1, engT2, Fx.t1, Fx.t2, Fx.t3, Fx.t4, Fx.t5, Fx.t22, Fx.t23, Fx.t25, Fx.t45, Fx.t46, Fx.t52, Fx.t53, Fx.t54, Fx.t55, Fx.t65, Fx.t89, Fx.t118, Fx.t119, Fx.t123, Fx.t124, Fx.en25, Fx.en26, Fx.en30, Fx.en33, Fx.en34, Fx.en36, Fx.en39, Fx.en42, Fx.en43, g1]
        refine useD (a := 3) (b := 4) (by decide) (doneOk (b.drop 5) dsp dcap (runD (b.drop 5) (start b) L i) hok.1 (wr := fun _ => true) (fun _ _ => rfl)) (fun _ => rfl) rfl rfl rfl (fun _ _ => rfl) (fun _ => rfl) (fun _ => rfl) ?_
        rw [hdone]
        simp (config := { maxSteps := 1000000, implicitDefEqProofs := false }) only [-List.reduceReplicate, Nat.reduceBEq, renA, renL, renM, renO, evx, evs, evp, Eng.look, cst, cst1, putd, dstOk, params, loadx, partx, loI, hiI, bltx, mmI, boxx, srcx, calx, nilx, upd, del, resv, fillA, setMany, Nat.reduceLT, Nat.reduceLeDiff, Nat.reduceEqDiff, Nat.reduceAdd, Nat.reduceMul, Nat.reduceSub, reduceIte, reduceCtorEq, if_true, if_false, ite_true, ite_false, eq_self, forall_const, implies_true, Int.reduceLT, Int.reduceLE, Int.reduceToNat, Int.reduceAdd, Int.reduceSub, Int.reduceNeg, ne_eq, Int.reduceEq, Int.reduceNe, Int.reduceBEq, Int.reduceBNe, beq_self_eq_true, bne_self_eq_false, BitVec.reduceBEq, BitVec.reduceBNe, BitVec.reduceOfInt, BitVec.reduceSetWidth, wrD, engS0, engS1, engS2, engS3, engS4, engS5, engS6, engS7, engS8, engS9, engT0, engT1, engT2, Fx.t1, Fx.t2, Fx.t3, Fx.t4, Fx.t5, Fx.t22, Fx.t23, Fx.t25, Fx.t45, Fx.t46, Fx.t52, Fx.t53, Fx.t54, Fx.t55, Fx.t65, Fx.t89, Fx.t118, Fx.t119, Fx.t123, Fx.t124, Fx.en25, Fx.en26, Fx.en30, Fx.en33, Fx.en34, Fx.en36, Fx.en39, Fx.en42, Fx.en43, wk]
        refine UpK_normal h3 ?_
        exact ⟨[], rfl, Nat.zero_le _, ⟨rfl, rfl, by show _ = some (renA _ _); simp only [renA, bvs_ren]; rfl, rfl, by show _ = some (renA _ _); simp only [renA, ded_ren]; rfl, trivial⟩, ⟨by simp only [renO, renL_vals']; rfl, rfl, trivial⟩, by simp [injOn], (fun n e => by cases e), fun _ _ => rfl⟩
      · obtain ⟨b, hb⟩ : ∃ b, b = X ++ [more] := ⟨_, rfl⟩
        have hbl : b.length = X.length + 1 := by rw [hb]; simp
        have hE : newE b = 0 := by rw [newE, if_neg (by omega), if_neg (by rw [hb, ← hX]; exact fun h => h rfl)]
        have hD : (b.drop 5).length ≤ maxLen := by rw [List.length_drop, hbl]; have : 2000000 ≤ maxLen := by decide
                                                   omega
        obtain ⟨hdone, hout, hgot⟩ := done_more L L.length rfl (by omega) more b (by rw [hb, ← hX])
        simp (config := { maxSteps := 1000000, implicitDefEqProofs := false }) only [-List.reduceReplicate, Nat.reduceBEq, renA, renL, renM, renO, evx, evs, evp, Eng.look, cst, cst1, putd, dstOk, params, loadx, partx, loI, hiI, bltx, mmI, boxx, srcx, calx, nilx, upd, del, resv, fillA, setMany, Nat.reduceLT, Nat.reduceLeDiff, Nat.reduceEqDiff, Nat.reduceAdd, Nat.reduceMul, Nat.reduceSub, reduceIte, reduceCtorEq, if_true, if_false, ite_true, ite_false, eq_self, forall_const, implies_true, Int.reduceLT, Int.reduceLE, Int.reduceToNat, Int.reduceAdd, Int.reduceSub, Int.reduceNeg, ne_eq, Int.reduceEq, Int.reduceNe, Int.reduceBEq, Int.reduceBNe, beq_self_eq_true, bne_self_eq_false, BitVec.reduceBEq, BitVec.reduceBNe, BitVec.reduceOfInt, BitVec.reduceSetWidth, wrD, engS0, engS1, engS2, engS3, engS4, engS5, engS6, engS7, engS8, engS9, engT0, engT1, engT2, Fx.t1, Fx.t2, Fx.t3, Fx.t4, Fx.t5, Fx.t22, Fx.t23, Fx.t25, Fx.t45, Fx.t46, Fx.t52, Fx.t53, Fx.t54, Fx.t55, Fx.t65, Fx.t89, Fx.t118, Fx.t119, Fx.t123, Fx.t124, Fx.en25, Fx.en26, Fx.en30, Fx.en33, Fx.en34, Fx.en36, Fx.en39, Fx.en42, Fx.en43, g3, show ((1 : Nat) : Int) = 1 from rfl, tk8]
        refine ⟨.inr trivial, ?_⟩
        refine appk_bvs (k := .u8) (x := X) (y := [more]) (sp := sp1) rfl rfl d1 d2 (by decide) (by rw [List.length_singleton]; omega) ?_
        intro cap2 sp2 f1 f2
        have e6 : decide (((X.length + 1 : Nat) : Int) < 5) = false := by simp; omega
        simp (config := { maxSteps := 1000000, implicitDefEqProofs := false }) only [-List.reduceReplicate, Nat.reduceBEq, renA, renL, renM, renO, evx, evs, evp, Eng.look, cst, cst1, putd, dstOk, params, loadx, partx, loI, hiI, bltx, mmI, boxx, srcx, calx, nilx, upd, del, resv, fillA, setMany, Nat.reduceLT, Nat.reduceLeDiff, Nat.reduceEqDiff, Nat.reduceAdd, Nat.reduceMul, Nat.reduceSub, reduceIte, reduceCtorEq, if_true, if_false, ite_true, ite_false, eq_self, forall_const, implies_true, Int.reduceLT, Int.reduceLE, Int.reduceToNat, Int.reduceAdd, Int.reduceSub, Int.reduceNeg, ne_eq, Int.reduceEq, Int.reduceNe, Int.reduceBEq, Int.reduceBNe, beq_self_eq_true, bne_self_eq_false, BitVec.reduceBEq, BitVec.reduceBNe, BitVec.reduceOfInt, BitVec.reduceSetWidth, wrD, engS0, engS1, engS2, engS3, engS4, engS5, engS6, engS7, engS8, engS9, engT0, engT1, engT2, Fx.t1, Fx.t2, Fx.t3, Fx.t4, Fx.t5, Fx.t22, Fx.t23, Fx.t25, Fx.t45, Fx.t46, Fx.t52, Fx.t53, Fx.t54, Fx.t55, Fx.t65, Fx.t89, Fx.t118, Fx.t119, Fx.t123, Fx.t124, Fx.en25, Fx.en26, Fx.en30, Fx.en33, Fx.en34, Fx.en36, Fx.en39, Fx.en42, Fx.en43]
        refine (newOk b (by omega)).more ⟨argB (Y := X ++ [more]) (sp := sp2) rfl (by simp) (by rw [hb, List.take_of_length_le (by simp)]), trivial⟩ ?_
        intro v m' nx' hN
        rw [NewK, if_pos hE] at hN
        obtain ⟨dcap, dsp, hcap, rfl, rfl, rfl⟩ := hN
        refine ⟨rfl, by simp only [dM, noRoM, noRoO, noRoL_vals', noRoL, noRo, Bool.and_self], ?_⟩
        simp (config := { maxSteps := 1000000, implicitDefEqProofs := false }) only [-List.reduceReplicate, Nat.reduceBEq, renA, renL, renM, renO, evx, evs, evp, Eng.look, cst, cst1, putd, dstOk, params, loadx, partx, loI, hiI, bltx, mmI, boxx, srcx, calx, nilx, upd, del, resv, fillA, setMany, Nat.reduceLT, Nat.reduceLeDiff, Nat.reduceEqDiff, Nat.reduceAdd, Nat.reduceMul, Nat.reduceSub, reduceIte, reduceCtorEq, if_true, if_false, ite_true, ite_false, eq_self, forall_const, implies_true, Int.reduceLT, Int.reduceLE, Int.reduceToNat, Int.reduceAdd, Int.reduceSub, Int.reduceNeg, ne_eq, Int.reduceEq, Int.reduceNe, Int.reduceBEq, Int.reduceBNe, beq_self_eq_true, bne_self_eq_false, BitVec.reduceBEq, BitVec.reduceBNe, BitVec.reduceOfInt, BitVec.reduceSetWidth, wrD, engS0, engS1, engS2, engS3, engS4, engS5, engS6, engS7, engS8, engS9, engT0, engT1, engT2, Fx.t1, Fx.t2, Fx.t3, Fx.t4, Fx.t5, Fx.t22, Fx.t23, Fx.t25, Fx.t45, Fx.t46, Fx.t52, Fx.t53, Fx.t54, Fx.t55, Fx.t65, Fx.t89, Fx.t118, Fx.t119, Fx.t123, Fx.t124, Fx.en25, Fx.en26, Fx.en30, Fx.en33, Fx.en34, Fx.en36, Fx.en39, Fx.en42, Fx.en43, dM, renL_vals', e6]
        refine LoopOk.up L.length (fun i => ([(16, .int .i64 i), (15, (.bool true)), (13, .ptr 5 0), (11, .int .i64 1), (10, .sl 0 0 X.length cap), (6, .ro (wW L L.length).length (bvs .u32 (wW L L.length))), (1, .int .u8 (more.toNat : Int)), (0, .ro L.length (L.flatMap dedC))], [(5, dO 6 (b.drop 5) dcap (runD (b.drop 5) (start b) L i)), (6, .cells (bvs .u8 (b.drop 5) ++ dsp.map AV.val) 5), (0, rowO X sp)], 7)) ?_ ?_
        · exact (Le.sameT (Nat.zero_le _) ⟨rfl, rfl, rfl, rfl, rfl, rfl, rfl, rfl, trivial⟩ ⟨rfl, rfl, rfl, trivial⟩ (by simp))
        intro i hi
        have hok := runD_ok (b.drop 5) (start b) L (start_ok b) i
        rcases Nat.lt_or_ge i L.length with h | h
        · have wi : IntKind.i64.wrap ((i : Int) + 1) = ((i + 1 : Nat) : Int) := by rw [wrap_i64] <;> omega
          have g1 : decide ((i : Int) < (L.length : Int)) = true := by simp; omega
          have hde := ded_at h
          have hnext : runD (b.drop 5) (start b) L (i + 1) = stepD (b.drop 5) (runD (b.drop 5) (start b) L i) (L.getD i dedD) := rfl
          have hwa := wW_at (Nat.le_refl L.length) h
          have hwl := wW_len (Nat.le_refl L.length)
          obtain ⟨d, hdd⟩ : ∃ d, L.getD i dedD = d := ⟨_, rfl⟩
          rw [hdd] at hde hnext hwa
          rcases Decidable.em (d.1 = 0) with h0 | h0
          · have e3 : (d.1 == 0) = true := by simpa using h0
            have hgx : BitVec.ofInt 32 (bitI (bitS (b.drop 5) (runD (b.drop 5) (start b) L i) (fairV d.2.1)).1) = gotD (b.drop 5) (runD (b.drop 5) (start b) L i) d := by rw [gotD, if_pos h0]; cases (bitS (b.drop 5) (runD (b.drop 5) (start b) L i) (fairV d.2.1)).1 <;> rfl
            have hns : runD (b.drop 5) (start b) L (i + 1) = (bitS (b.drop 5) (runD (b.drop 5) (start b) L i) (fairV d.2.1)).2 := by rw [hnext, stepD, if_pos h0]
            simp (config := { maxSteps := 1000000, implicitDefEqProofs := false }) only [-List.reduceReplicate, Nat.reduceBEq, renA, renL, renM, renO, evx, evs, evp, Eng.look, cst, cst1, putd, dstOk, params, loadx, partx, loI, hiI, bltx, mmI, boxx, srcx, calx, nilx, upd, del, resv, fillA, setMany, Nat.reduceLT, Nat.reduceLeDiff, Nat.reduceEqDiff, Nat.reduceAdd, Nat.reduceMul, Nat.reduceSub, reduceIte, reduceCtorEq, if_true, if_false, ite_true, ite_false, eq_self, forall_const, implies_true, Int.reduceLT, Int.reduceLE, Int.reduceToNat, Int.reduceAdd, Int.reduceSub, Int.reduceNeg, ne_eq, Int.reduceEq, Int.reduceNe, Int.reduceBEq, Int.reduceBNe, beq_self_eq_true, bne_self_eq_false, BitVec.reduceBEq, BitVec.reduceBNe, BitVec.reduceOfInt, BitVec.reduceSetWidth, wrD, engS0, engS1, engS2, engS3, engS4, engS5, engS6, engS7, engS8, engS9, engT0, engT1, engT2, Fx.t1, Fx.t2, Fx.t3, Fx.t4, Fx.t5, Fx.t22, Fx.t23, Fx.t25, Fx.t45, Fx.t46, Fx.t52, Fx.t53, Fx.t54, Fx.t55, Fx.t65, Fx.t89, Fx.t118, Fx.t119, Fx.t123, Fx.t124, Fx.en25, Fx.en26, Fx.en30, Fx.en33, Fx.en34, Fx.en36, Fx.en39, Fx.en42, Fx.en43, g1, hde, e3]
            repeat (refine And.intro (by first | omega | (rw [ded_len]; omega) | (simp only [List.length_drop, List.length_cons, ded_len]; omega)) ?_)
            refine ⟨Fx.en28, ?_⟩
            refine useD (a := 5) (b := 6) (by decide) (bitOk (b.drop 5) hD dsp dcap hcap (runD (b.drop 5) (start b) L i) hok d.2.1 0) (tup2_ren _ _ rfl rfl) rfl rfl rfl (fun _ _ => rfl) (fun _ => rfl) (fun _ => rfl) ?_
            have hgw := hgot i h
            rw [hdd] at hgw
            simp (config := { maxSteps := 1000000, implicitDefEqProofs := false }) only [-List.reduceReplicate, Nat.reduceBEq, renA, renL, renM, renO, evx, evs, evp, Eng.look, cst, cst1, putd, dstOk, params, loadx, partx, loI, hiI, bltx, mmI, boxx, srcx, calx, nilx, upd, del, resv, fillA, setMany, Nat.reduceLT, Nat.reduceLeDiff, Nat.reduceEqDiff, Nat.reduceAdd, Nat.reduceMul, Nat.reduceSub, reduceIte, reduceCtorEq, if_true, if_false, ite_true, ite_false, eq_self, forall_const, implies_true, Int.reduceLT, Int.reduceLE, Int.reduceToNat, Int.reduceAdd, Int.reduceSub, Int.reduceNeg, ne_eq, Int.reduceEq, Int.reduceNe, Int.reduceBEq, Int.reduceBNe, beq_self_eq_true, bne_self_eq_false, BitVec.reduceBEq, BitVec.reduceBNe, BitVec.reduceOfInt, BitVec.reduceSetWidth, wrD, engS0, engS1, engS2, engS3, engS4, engS5, engS6, engS7, engS8, engS9, engT0, engT1, engT2, Fx.t1, Fx.t2, Fx.t3, Fx.t4, Fx.t5, Fx.t22, Fx.t23, Fx.t25, Fx.t45, Fx.t46, Fx.t52, Fx.t53, Fx.t54, Fx.t55, Fx.t65, Fx.t89, Fx.t118, Fx.t119, Fx.t123, Fx.t124, Fx.en25, Fx.en26, Fx.en30, Fx.en33, Fx.en34, Fx.en36, Fx.en39, Fx.en42, Fx.en43, hgx, hgw, hwa, hwl, beq_self_eq_true, wi]
            repeat (refine And.intro (by first | omega | (rw [bvs_length]; omega) | (rw [List.length_drop, hwl]; omega)) ?_)
            refine UpK_normal h ?_
            rw [hns]
            exact (Le.sameT (Nat.zero_le _) ⟨rfl, rfl, rfl, rfl, rfl, rfl, rfl, rfl, trivial⟩ ⟨rfl, rfl, rfl, trivial⟩ (by simp))
          · have e3 : (d.1 == 0) = false := by simpa using h0
            have hgx : plnV (pln (b.drop 5) (runD (b.drop 5) (start b) L i) (nB d.2.2.2.2.1)) = gotD (b.drop 5) (runD (b.drop 5) (start b) L i) d := by rw [gotD, if_neg h0]
            have hns : runD (b.drop 5) (start b) L (i + 1) = (pln (b.drop 5) (runD (b.drop 5) (start b) L i) (nB d.2.2.2.2.1)).1 := by rw [hnext, stepD, if_neg h0]
            simp (config := { maxSteps := 1000000, implicitDefEqProofs := false }) only [-List.reduceReplicate, Nat.reduceBEq, renA, renL, renM, renO, evx, evs, evp, Eng.look, cst, cst1, putd, dstOk, params, loadx, partx, loI, hiI, bltx, mmI, boxx, srcx, calx, nilx, upd, del, resv, fillA, setMany, Nat.reduceLT, Nat.reduceLeDiff, Nat.reduceEqDiff, Nat.reduceAdd, Nat.reduceMul, Nat.reduceSub, reduceIte, reduceCtorEq, if_true, if_false, ite_true, ite_false, eq_self, forall_const, implies_true, Int.reduceLT, Int.reduceLE, Int.reduceToNat, Int.reduceAdd, Int.reduceSub, Int.reduceNeg, ne_eq, Int.reduceEq, Int.reduceNe, Int.reduceBEq, Int.reduceBNe, beq_self_eq_true, bne_self_eq_false, BitVec.reduceBEq, BitVec.reduceBNe, BitVec.reduceOfInt, BitVec.reduceSetWidth, wrD, engS0, engS1, engS2, engS3, engS4, engS5, engS6, engS7, engS8, engS9, engT0, engT1, engT2, Fx.t1, Fx.t2, Fx.t3, Fx.t4, Fx.t5, Fx.t22, Fx.t23, Fx.t25, Fx.t45, Fx.t46, Fx.t52, Fx.t53, Fx.t54, Fx.t55, Fx.t65, Fx.t89, Fx.t118, Fx.t119, Fx.t123, Fx.t124, Fx.en25, Fx.en26, Fx.en30, Fx.en33, Fx.en34, Fx.en36, Fx.en39, Fx.en42, Fx.en43, g1, hde, e3]
            repeat (refine And.intro (by first | omega | (rw [ded_len]; omega) | (simp only [List.length_drop, List.length_cons, ded_len]; omega)) ?_)
            refine useD (a := 5) (b := 6) (by decide) (plainOk (b.drop 5) hD dsp dcap hcap (runD (b.drop 5) (start b) L i) hok 0#32 d.2.2.2.2.1) (fun _ => rfl) rfl rfl rfl (fun _ _ => rfl) (fun _ => rfl) (fun _ => rfl) ?_
            have hgw := hgot i h
            rw [hdd] at hgw
            simp (config := { maxSteps := 1000000, implicitDefEqProofs := false }) only [-List.reduceReplicate, Nat.reduceBEq, renA, renL, renM, renO, evx, evs, evp, Eng.look, cst, cst1, putd, dstOk, params, loadx, partx, loI, hiI, bltx, mmI, boxx, srcx, calx, nilx, upd, del, resv, fillA, setMany, Nat.reduceLT, Nat.reduceLeDiff, Nat.reduceEqDiff, Nat.reduceAdd, Nat.reduceMul, Nat.reduceSub, reduceIte, reduceCtorEq, if_true, if_false, ite_true, ite_false, eq_self, forall_const, implies_true, Int.reduceLT, Int.reduceLE, Int.reduceToNat, Int.reduceAdd, Int.reduceSub, Int.reduceNeg, ne_eq, Int.reduceEq, Int.reduceNe, Int.reduceBEq, Int.reduceBNe, beq_self_eq_true, bne_self_eq_false, BitVec.reduceBEq, BitVec.reduceBNe, BitVec.reduceOfInt, BitVec.reduceSetWidth, wrD, engS0, engS1, engS2, engS3, engS4, engS5, engS6, engS7, engS8, engS9, engT0, engT1, engT2, Fx.t1, Fx.t2, Fx.t3, Fx.t4, Fx.t5, Fx.t22, Fx.t23, Fx.t25, Fx.t45, Fx.t46, Fx.t52, Fx.t53, Fx.t54, Fx.t55, Fx.t65, Fx.t89, Fx.t118, Fx.t119, Fx.t123, Fx.t124, Fx.en25, Fx.en26, Fx.en30, Fx.en33, Fx.en34, Fx.en36, Fx.en39, Fx.en42, Fx.en43, hgx, hgw, hwa, hwl, beq_self_eq_true, wi]
            repeat (refine And.intro (by first | omega | (rw [bvs_length]; omega) | (rw [List.length_drop, hwl]; omega)) ?_)
            refine UpK_normal h ?_
            rw [hns]
            exact (Le.sameT (Nat.zero_le _) ⟨rfl, rfl, rfl, rfl, rfl, rfl, rfl, rfl, trivial⟩ ⟨rfl, rfl, rfl, trivial⟩ (by simp))
        have hi' : i = L.length := by omega
        have g1 : decide ((i : Int) < (L.length : Int)) = false := by simp; omega
        rw [← hi'] at hdone hout
        simp (config := { maxSteps := 1000000, implicitDefEqProofs := false }) only [-List.reduceReplicate, Nat.reduceBEq, renA, renL, renM, renO, evx, evs, evp, Eng.look, cst, cst1, putd, dstOk, params, loadx, partx, loI, hiI, bltx, mmI, boxx, srcx, calx, nilx, upd, del, resv, fillA, setMany, Nat.reduceLT, Nat.reduceLeDiff, Nat.reduceEqDiff, Nat.reduceAdd, Nat.reduceMul, Nat.reduceSub, reduceIte, reduceCtorEq, if_true, if_false, ite_true, ite_false, eq_self, forall_const, implies_true, Int.reduceLT, Int.reduceLE, Int.reduceToNat, Int.reduceAdd, Int.reduceSub, Int.reduceNeg, ne_eq, Int.reduceEq, Int.reduceNe, Int.reduceBEq, Int.reduceBNe, beq_self_eq_true, bne_self_eq_false, BitVec.reduceBEq, BitVec.reduceBNe, BitVec.reduceOfInt, BitVec.reduceSetWidth, wrD, engS0, engS1, engS2, engS3, engS4, engS5, engS6, engS7, engS8, engS9, engT0, engT1, engT2, Fx.t1, Fx.t2, Fx.t3, Fx.t4, Fx.t5, Fx.t22, Fx.t23, Fx.t25, Fx.t45, Fx.t46, Fx.t52, Fx.t53, Fx.t54, Fx.t55, Fx.t65, Fx.t89, Fx.t118, Fx.t119, Fx.t123, Fx.t124, Fx.en25, Fx.en26, Fx.en30, Fx.en33, Fx.en34, Fx.en36, Fx.en39, Fx.en42, Fx.en43, g1]
        refine useD (a := 5) (b := 6) (by decide) (doneOk (b.drop 5) dsp dcap (runD (b.drop 5) (start b) L i) hok.1 (wr := fun _ => true) (fun _ _ => rfl)) (fun _ => rfl) rfl rfl rfl (fun _ _ => rfl) (fun _ => rfl) (fun _ => rfl) ?_
        rw [hdone]
        simp (config := { maxSteps := 1000000, implicitDefEqProofs := false }) only [-List.reduceReplicate, Nat.reduceBEq, renA, renL, renM, renO, evx, evs, evp, Eng.look, cst, cst1, putd, dstOk, params, loadx, partx, loI, hiI, bltx, mmI, boxx, srcx, calx, nilx, upd, del, resv, fillA, setMany, Nat.reduceLT, Nat.reduceLeDiff, Nat.reduceEqDiff, Nat.reduceAdd, Nat.reduceMul, Nat.reduceSub, reduceIte, reduceCtorEq, if_true, if_false, ite_true, ite_false, eq_self, forall_const, implies_true, Int.reduceLT, Int.reduceLE, Int.reduceToNat, Int.reduceAdd, Int.reduceSub, Int.reduceNeg, ne_eq, Int.reduceEq, Int.reduceNe, Int.reduceBEq, Int.reduceBNe, beq_self_eq_true, bne_self_eq_false, BitVec.reduceBEq, BitVec.reduceBNe, BitVec.reduceOfInt, BitVec.reduceSetWidth, wrD, engS0, engS1, engS2, engS3, engS4, engS5, engS6, engS7, engS8, engS9, engT0, engT1, engT2, Fx.t1, Fx.t2, Fx.t3, Fx.t4, Fx.t5, Fx.t22, Fx.t23, Fx.t25, Fx.t45, Fx.t46, Fx.t52, Fx.t53, Fx.t54, Fx.t55, Fx.t65, Fx.t89, Fx.t118, Fx.t119, Fx.t123, Fx.t124, Fx.en25, Fx.en26, Fx.en30, Fx.en33, Fx.en34, Fx.en36, Fx.en39, Fx.en42, Fx.en43]
        refine useD (a := 5) (b := 6) (by decide) (outOk (b.drop 5) dsp dcap (runD (b.drop 5) (start b) L i) (wr := fun _ => true) (fun _ _ => rfl)) (fun _ => rfl) rfl rfl rfl (fun _ _ => rfl) (fun _ => rfl) (fun _ => rfl) ?_
        rw [hout]
        simp (config := { maxSteps := 1000000, implicitDefEqProofs := false }) only [-List.reduceReplicate, Nat.reduceBEq, renA, renL, renM, renO, evx, evs, evp, Eng.look, cst, cst1, putd, dstOk, params, loadx, partx, loI, hiI, bltx, mmI, boxx, srcx, calx, nilx, upd, del, resv, fillA, setMany, Nat.reduceLT, Nat.reduceLeDiff, Nat.reduceEqDiff, Nat.reduceAdd, Nat.reduceMul, Nat.reduceSub, reduceIte, reduceCtorEq, if_true, if_false, ite_true, ite_false, eq_self, forall_const, implies_true, Int.reduceLT, Int.reduceLE, Int.reduceToNat, Int.reduceAdd, Int.reduceSub, Int.reduceNeg, ne_eq, Int.reduceEq, Int.reduceNe, Int.reduceBEq, Int.reduceBNe, beq_self_eq_true, bne_self_eq_false, BitVec.reduceBEq, BitVec.reduceBNe, BitVec.reduceOfInt, BitVec.reduceSetWidth, wrD, engS0, engS1, engS2, engS3, engS4, engS5, engS6, engS7, engS8, engS9, engT0, engT1, engT2, Fx.t1, Fx.t2, Fx.t3, Fx.t4, Fx.t5, Fx.t22, Fx.t23, Fx.t25, Fx.t45, Fx.t46, Fx.t52, Fx.t53, Fx.t54, Fx.t55, Fx.t65, Fx.t89, Fx.t118, Fx.t119, Fx.t123, Fx.t124, Fx.en25, Fx.en26, Fx.en30, Fx.en33, Fx.en34, Fx.en36, Fx.en39, Fx.en42, Fx.en43, wk]
        refine UpK_normal h3 ?_
        exact ⟨[], rfl, Nat.zero_le _, ⟨rfl, rfl, by show _ = some (renA _ _); simp only [renA, bvs_ren]; rfl, rfl, by show _ = some (renA _ _); simp only [renA, ded_ren]; rfl, trivial⟩, ⟨by simp only [renO, renL_vals']; rfl, rfl, trivial⟩, by simp [injOn], (fun n e => by cases e), fun _ _ => rfl⟩
      · obtain ⟨b, hb⟩ : ∃ b, b = X.take (X.length - 1) := ⟨_, rfl⟩
        have hbl : b.length = X.length - 1 := by rw [hb]; simp
        have hD : (b.drop 5).length ≤ maxLen := by rw [List.length_drop, hbl]; have : 2000000 ≤ maxLen := by decide
                                                   omega
        skip
        have wl : IntKind.i64.wrap ((X.length : Int) - 1) = ((X.length - 1 : Nat) : Int) := by rw [wrap_i64] <;> omega
        simp (config := { maxSteps := 1000000, implicitDefEqProofs := false }) only [-List.reduceReplicate, Nat.reduceBEq, renA, renL, renM, renO, evx, evs, evp, Eng.look, cst, cst1, putd, dstOk, params, loadx, partx, loI, hiI, bltx, mmI, boxx, srcx, calx, nilx, upd, del, resv, fillA, setMany, Nat.reduceLT, Nat.reduceLeDiff, Nat.reduceEqDiff, Nat.reduceAdd, Nat.reduceMul, Nat.reduceSub, reduceIte, reduceCtorEq, if_true, if_false, ite_true, ite_false, eq_self, forall_const, implies_true, Int.reduceLT, Int.reduceLE, Int.reduceToNat, Int.reduceAdd, Int.reduceSub, Int.reduceNeg, ne_eq, Int.reduceEq, Int.reduceNe, Int.reduceBEq, Int.reduceBNe, beq_self_eq_true, bne_self_eq_false, BitVec.reduceBEq, BitVec.reduceBNe, BitVec.reduceOfInt, BitVec.reduceSetWidth, wrD, engS0, engS1, engS2, engS3, engS4, engS5, engS6, engS7, engS8, engS9, engT0, engT1, engT2, Fx.t1, Fx.t2, Fx.t3, Fx.t4, Fx.t5, Fx.t22, Fx.t23, Fx.t25, Fx.t45, Fx.t46, Fx.t52, Fx.t53, Fx.t54, Fx.t55, Fx.t65, Fx.t89, Fx.t118, Fx.t119, Fx.t123, Fx.t124, Fx.en25, Fx.en26, Fx.en30, Fx.en33, Fx.en34, Fx.en36, Fx.en39, Fx.en42, Fx.en43, g3, show ((2 : Nat) : Int) = 2 from rfl, wl, Nat.sub_zero]
        refine ⟨by omega, ?_⟩
        rcases Nat.lt_or_ge (rcE L L.length).2.low.length 5 with h5 | h5
        · have hE : newE b = 2 := by rw [newE, if_pos (by omega)]
          have e6 : decide (((X.length - 1 : Nat) : Int) < 5) = true := by simp; omega
          refine (newOk b (by omega)).more ⟨argB (Y := X) (sp := sp1) rfl (by omega) hb, trivial⟩ ?_
          intro v m' nx' hN
          rw [NewK, if_neg (by rw [hE]; decide)] at hN
          obtain ⟨rfl, rfl, rfl⟩ := hN
          refine ⟨rfl, rfl, ?_⟩
          rw [hE]
          simp (config := { maxSteps := 1000000, implicitDefEqProofs := false }) only [-List.reduceReplicate, Nat.reduceBEq, renA, renL, renM, renO, evx, evs, evp, Eng.look, cst, cst1, putd, dstOk, params, loadx, partx, loI, hiI, bltx, mmI, boxx, srcx, calx, nilx, upd, del, resv, fillA, setMany, Nat.reduceLT, Nat.reduceLeDiff, Nat.reduceEqDiff, Nat.reduceAdd, Nat.reduceMul, Nat.reduceSub, reduceIte, reduceCtorEq, if_true, if_false, ite_true, ite_false, eq_self, forall_const, implies_true, Int.reduceLT, Int.reduceLE, Int.reduceToNat, Int.reduceAdd, Int.reduceSub, Int.reduceNeg, ne_eq, Int.reduceEq, Int.reduceNe, Int.reduceBEq, Int.reduceBNe, beq_self_eq_true, bne_self_eq_false, BitVec.reduceBEq, BitVec.reduceBNe, BitVec.reduceOfInt, BitVec.reduceSetWidth, wrD, engS0, engS1, engS2, engS3, engS4, engS5, engS6, engS7, engS8, engS9, engT0, engT1, engT2, Fx.t1, Fx.t2, Fx.t3, Fx.t4, Fx.t5, Fx.t22, Fx.t23, Fx.t25, Fx.t45, Fx.t46, Fx.t52, Fx.t53, Fx.t54, Fx.t55, Fx.t65, Fx.t89, Fx.t118, Fx.t119, Fx.t123, Fx.t124, Fx.en25, Fx.en26, Fx.en30, Fx.en33, Fx.en34, Fx.en36, Fx.en39, Fx.en42, Fx.en43, e6, wk]
          refine UpK_normal h3 ?_
          exact ⟨[], rfl, Nat.zero_le _, ⟨rfl, rfl, by show _ = some (renA _ _); simp only [renA, bvs_ren]; rfl, rfl, by show _ = some (renA _ _); simp only [renA, ded_ren]; rfl, trivial⟩, ⟨by simp only [renO, renL_vals']; rfl, rfl, trivial⟩, by simp [injOn], (fun n e => by cases e), fun _ _ => rfl⟩
        have e6 : decide (((X.length - 1 : Nat) : Int) < 5) = false := by simp; omega
        have hdone := done_less L L.length rfl h5 b (by rw [hb, ← hX, List.length_cons, Nat.add_sub_cancel])
        have hE : newE b = 0 := by rw [newE, if_neg (by omega), if_neg (by rw [hb, ← hX, List.length_cons, Nat.add_sub_cancel]; obtain ⟨m, hm⟩ : ∃ m, (rcE L L.length).2.low.length = m + 1 := ⟨(rcE L L.length).2.low.length - 1, by omega⟩; rw [hm, List.take_succ_cons]; exact fun h => h rfl)]
        refine (newOk b (by omega)).more ⟨argB (Y := X) (sp := sp1) rfl (by omega) hb, trivial⟩ ?_
        intro v m' nx' hN
        rw [NewK, if_pos hE] at hN
        obtain ⟨dcap, dsp, hcap, rfl, rfl, rfl⟩ := hN
        refine ⟨rfl, by simp only [dM, noRoM, noRoO, noRoL_vals', noRoL, noRo, Bool.and_self], ?_⟩
        simp (config := { maxSteps := 1000000, implicitDefEqProofs := false }) only [-List.reduceReplicate, Nat.reduceBEq, renA, renL, renM, renO, evx, evs, evp, Eng.look, cst, cst1, putd, dstOk, params, loadx, partx, loI, hiI, bltx, mmI, boxx, srcx, calx, nilx, upd, del, resv, fillA, setMany, Nat.reduceLT, Nat.reduceLeDiff, Nat.reduceEqDiff, Nat.reduceAdd, Nat.reduceMul, Nat.reduceSub, reduceIte, reduceCtorEq, if_true, if_false, ite_true, ite_false, eq_self, forall_const, implies_true, Int.reduceLT, Int.reduceLE, Int.reduceToNat, Int.reduceAdd, Int.reduceSub, Int.reduceNeg, ne_eq, Int.reduceEq, Int.reduceNe, Int.reduceBEq, Int.reduceBNe, beq_self_eq_true, bne_self_eq_false, BitVec.reduceBEq, BitVec.reduceBNe, BitVec.reduceOfInt, BitVec.reduceSetWidth, wrD, engS0, engS1, engS2, engS3, engS4, engS5, engS6, engS7, engS8, engS9, engT0, engT1, engT2, Fx.t1, Fx.t2, Fx.t3, Fx.t4, Fx.t5, Fx.t22, Fx.t23, Fx.t25, Fx.t45, Fx.t46, Fx.t52, Fx.t53, Fx.t54, Fx.t55, Fx.t65, Fx.t89, Fx.t118, Fx.t119, Fx.t123, Fx.t124, Fx.en25, Fx.en26, Fx.en30, Fx.en33, Fx.en34, Fx.en36, Fx.en39, Fx.en42, Fx.en43, dM, renL_vals', e6]
        refine LoopOk.upX (fun _ _ => True) L.length (fun i (y : Bool) => ([(16, .int .i64 i), (15, (.bool y)), (13, .ptr 3 0), (11, .int .i64 2), (10, .sl 0 0 X.length cap), (6, .ro (wW L L.length).length (bvs .u32 (wW L L.length))), (1, .int .u8 (more.toNat : Int)), (0, .ro L.length (L.flatMap dedC))], [(3, dO 4 (b.drop 5) dcap (runD (b.drop 5) (start b) L i)), (4, .cells (bvs .u8 (b.drop 5) ++ dsp.map AV.val) 5), (0, rowO X sp)], 5)) true trivial ?_ ?_
        · exact (Le.sameT (Nat.zero_le _) ⟨rfl, rfl, rfl, rfl, rfl, rfl, rfl, rfl, trivial⟩ ⟨rfl, rfl, rfl, trivial⟩ (by simp))
        rintro i y ⟨hi, _⟩
        have hok := runD_ok (b.drop 5) (start b) L (start_ok b) i
        rcases Nat.lt_or_ge i L.length with h | h
        · have wi : IntKind.i64.wrap ((i : Int) + 1) = ((i + 1 : Nat) : Int) := by rw [wrap_i64] <;> omega
          have g1 : decide ((i : Int) < (L.length : Int)) = true := by simp; omega
          have hde := ded_at h
          have hnext : runD (b.drop 5) (start b) L (i + 1) = stepD (b.drop 5) (runD (b.drop 5) (start b) L i) (L.getD i dedD) := rfl
          have hwa := wW_at (Nat.le_refl L.length) h
          have hwl := wW_len (Nat.le_refl L.length)
          obtain ⟨d, hdd⟩ : ∃ d, L.getD i dedD = d := ⟨_, rfl⟩
          rw [hdd] at hde hnext hwa
          rcases Decidable.em (d.1 = 0) with h0 | h0
          · have e3 : (d.1 == 0) = true := by simpa using h0
            have hgx : BitVec.ofInt 32 (bitI (bitS (b.drop 5) (runD (b.drop 5) (start b) L i) (fairV d.2.1)).1) = gotD (b.drop 5) (runD (b.drop 5) (start b) L i) d := by rw [gotD, if_pos h0]; cases (bitS (b.drop 5) (runD (b.drop 5) (start b) L i) (fairV d.2.1)).1 <;> rfl
            have hns : runD (b.drop 5) (start b) L (i + 1) = (bitS (b.drop 5) (runD (b.drop 5) (start b) L i) (fairV d.2.1)).2 := by rw [hnext, stepD, if_pos h0]
            simp (config := { maxSteps := 1000000, implicitDefEqProofs := false }) only [-List.reduceReplicate, Nat.reduceBEq, renA, renL, renM, renO, evx, evs, evp, Eng.look, cst, cst1, putd, dstOk, params, loadx, partx, loI, hiI, bltx, mmI, boxx, srcx, calx, nilx, upd, del, resv, fillA, setMany, Nat.reduceLT, Nat.reduceLeDiff, Nat.reduceEqDiff, Nat.reduceAdd, Nat.reduceMul, Nat.reduceSub, reduceIte, reduceCtorEq, if_true, if_false, ite_true, ite_false, eq_self, forall_const, implies_true, Int.reduceLT, Int.reduceLE, Int.reduceToNat, Int.reduceAdd, Int.reduceSub, Int.reduceNeg, ne_eq, Int.reduceEq, Int.reduceNe, Int.reduceBEq, Int.reduceBNe, beq_self_eq_true, bne_self_eq_false, BitVec.reduceBEq, BitVec.reduceBNe, BitVec.reduceOfInt, BitVec.reduceSetWidth, wrD, engS0, engS1, engS2, engS3, engS4, engS5, engS6, engS7, engS8, engS9, engT0, engT1, engT2, Fx.t1, Fx.t2, Fx.t3, Fx.t4, Fx.t5, Fx.t22, Fx.t23, Fx.t25, Fx.t45, Fx.t46, Fx.t52, Fx.t53, Fx.t54, Fx.t55, Fx.t65, Fx.t89, Fx.t118, Fx.t119, Fx.t123, Fx.t124, Fx.en25, Fx.en26, Fx.en30, Fx.en33, Fx.en34, Fx.en36, Fx.en39, Fx.en42, Fx.en43, g1, hde, e3]
            repeat (refine And.intro (by first | omega | (rw [ded_len]; omega) | (simp only [List.length_drop, List.length_cons, ded_len]; omega)) ?_)
            refine ⟨Fx.en28, ?_⟩
            refine useD (a := 3) (b := 4) (by decide) (bitOk (b.drop 5) hD dsp dcap hcap (runD (b.drop 5) (start b) L i) hok d.2.1 0) (tup2_ren _ _ rfl rfl) rfl rfl rfl (fun _ _ => rfl) (fun _ => rfl) (fun _ => rfl) ?_
            cases y with
            | true =>
              simp (config := { maxSteps := 1000000, implicitDefEqProofs := false }) only [-List.reduceReplicate, Nat.reduceBEq, renA, renL, renM, renO, evx, evs, evp, Eng.look, cst, cst1, putd, dstOk, params, loadx, partx, loI, hiI, bltx, mmI, boxx, srcx, calx, nilx, upd, del, resv, fillA, setMany, Nat.reduceLT, Nat.reduceLeDiff, Nat.reduceEqDiff, Nat.reduceAdd, Nat.reduceMul, Nat.reduceSub, reduceIte, reduceCtorEq, if_true, if_false, ite_true, ite_false, eq_self, forall_const, implies_true, Int.reduceLT, Int.reduceLE, Int.reduceToNat, Int.reduceAdd, Int.reduceSub, Int.reduceNeg, ne_eq, Int.reduceEq, Int.reduceNe, Int.reduceBEq, Int.reduceBNe, beq_self_eq_true, bne_self_eq_false, BitVec.reduceBEq, BitVec.reduceBNe, BitVec.reduceOfInt, BitVec.reduceSetWidth, wrD, engS0, engS1, engS2, engS3, engS4, engS5, engS6, engS7, engS8, engS9, engT0, engT1, engT2, Fx.t1, Fx.t2, Fx.t3, Fx.t4, Fx.t5, Fx.t22, Fx.t23, Fx.t25, Fx.t45, Fx.t46, Fx.t52, Fx.t53, Fx.t54, Fx.t55, Fx.t65, Fx.t89, Fx.t118, Fx.t119, Fx.t123, Fx.t124, Fx.en25, Fx.en26, Fx.en30, Fx.en33, Fx.en34, Fx.en36, Fx.en39, Fx.en42, Fx.en43, hgx, hwa, hwl, wi]
              repeat (refine And.intro (by first | omega | (rw [bvs_length]; omega) | (rw [List.length_drop, hwl]; omega)) ?_)
              refine UpX_normal h (gotD (b.drop 5) (runD (b.drop 5) (start b) L i) d == wantD d) trivial ?_
              rw [hns]
              exact (Le.sameT (Nat.zero_le _) ⟨rfl, rfl, rfl, rfl, rfl, rfl, rfl, rfl, trivial⟩ ⟨rfl, rfl, rfl, trivial⟩ (by simp))
            | false =>
              simp (config := { maxSteps := 1000000, implicitDefEqProofs := false }) only [-List.reduceReplicate, Nat.reduceBEq, renA, renL, renM, renO, evx, evs, evp, Eng.look, cst, cst1, putd, dstOk, params, loadx, partx, loI, hiI, bltx, mmI, boxx, srcx, calx, nilx, upd, del, resv, fillA, setMany, Nat.reduceLT, Nat.reduceLeDiff, Nat.reduceEqDiff, Nat.reduceAdd, Nat.reduceMul, Nat.reduceSub, reduceIte, reduceCtorEq, if_true, if_false, ite_true, ite_false, eq_self, forall_const, implies_true, Int.reduceLT, Int.reduceLE, Int.reduceToNat, Int.reduceAdd, Int.reduceSub, Int.reduceNeg, ne_eq, Int.reduceEq, Int.reduceNe, Int.reduceBEq, Int.reduceBNe, beq_self_eq_true, bne_self_eq_false, BitVec.reduceBEq, BitVec.reduceBNe, BitVec.reduceOfInt, BitVec.reduceSetWidth, wrD, engS0, engS1, engS2, engS3, engS4, engS5, engS6, engS7, engS8, engS9, engT0, engT1, engT2, Fx.t1, Fx.t2, Fx.t3, Fx.t4, Fx.t5, Fx.t22, Fx.t23, Fx.t25, Fx.t45, Fx.t46, Fx.t52, Fx.t53, Fx.t54, Fx.t55, Fx.t65, Fx.t89, Fx.t118, Fx.t119, Fx.t123, Fx.t124, Fx.en25, Fx.en26, Fx.en30, Fx.en33, Fx.en34, Fx.en36, Fx.en39, Fx.en42, Fx.en43, wi]
              refine UpX_normal h false trivial ?_
              rw [hns]
              exact (Le.sameT (Nat.zero_le _) ⟨rfl, rfl, rfl, rfl, rfl, rfl, rfl, rfl, trivial⟩ ⟨rfl, rfl, rfl, trivial⟩ (by simp))
          · have e3 : (d.1 == 0) = false := by simpa using h0
            have hgx : plnV (pln (b.drop 5) (runD (b.drop 5) (start b) L i) (nB d.2.2.2.2.1)) = gotD (b.drop 5) (runD (b.drop 5) (start b) L i) d := by rw [gotD, if_neg h0]
            have hns : runD (b.drop 5) (start b) L (i + 1) = (pln (b.drop 5) (runD (b.drop 5) (start b) L i) (nB d.2.2.2.2.1)).1 := by rw [hnext, stepD, if_neg h0]
            simp (config := { maxSteps := 1000000, implicitDefEqProofs := false }) only [-List.reduceReplicate, Nat.reduceBEq, renA, renL, renM, renO, evx, evs, evp, Eng.look, cst, cst1, putd, dstOk, params, loadx, partx, loI, hiI, bltx, mmI, boxx, srcx, calx, nilx, upd, del, resv, fillA, setMany, Nat.reduceLT, Nat.reduceLeDiff, Nat.reduceEqDiff, Nat.reduceAdd, Nat.reduceMul, Nat.reduceSub, reduceIte, reduceCtorEq, if_true, if_false, ite_true, ite_false, eq_self, forall_const, implies_true, Int.reduceLT, Int.reduceLE, Int.reduceToNat, Int.reduceAdd, Int.reduceSub, Int.reduceNeg, ne_eq, Int.reduceEq, Int.reduceNe, Int.reduceBEq, Int.reduceBNe, beq_self_eq_true, bne_self_eq_false, BitVec.reduceBEq, BitVec.reduceBNe, BitVec.reduceOfInt, BitVec.reduceSetWidth, wrD, engS0, engS1, engS2, engS3, engS4, engS5, engS6, engS7, engS8, engS9, engT0, engT1, engT2, Fx.t1, Fx.t2, Fx.t3, Fx.t4, Fx.t5, Fx.t22, Fx.t23, Fx.t25, Fx.t45, Fx.t46, Fx.t52, Fx.t53, Fx.t54, Fx.t55, Fx.t65, Fx.t89, Fx.t118, Fx.t119, Fx.t123, Fx.t124, Fx.en25, Fx.en26, Fx.en30, Fx.en33, Fx.en34, Fx.en36, Fx.en39, Fx.en42, Fx.en43, g1, hde, e3]
            repeat (refine And.intro (by first | omega | (rw [ded_len]; omega) | (simp only [List.length_drop, List.length_cons, ded_len]; omega)) ?_)
            refine useD (a := 3) (b := 4) (by decide) (plainOk (b.drop 5) hD dsp dcap hcap (runD (b.drop 5) (start b) L i) hok 0#32 d.2.2.2.2.1) (fun _ => rfl) rfl rfl rfl (fun _ _ => rfl) (fun _ => rfl) (fun _ => rfl) ?_
            cases y with
            | true =>
              simp (config := { maxSteps := 1000000, implicitDefEqProofs := false }) only [-List.reduceReplicate, Nat.reduceBEq, renA, renL, renM, renO, evx, evs, evp, Eng.look, cst, cst1, putd, dstOk, params, loadx, partx, loI, hiI, bltx, mmI, boxx, srcx, calx, nilx, upd, del, resv, fillA, setMany, Nat.reduceLT, Nat.reduceLeDiff, Nat.reduceEqDiff, Nat.reduceAdd, Nat.reduceMul, Nat.reduceSub, reduceIte, reduceCtorEq, if_true, if_false, ite_true, ite_false, eq_self, forall_const, implies_true, Int.reduceLT, Int.reduceLE, Int.reduceToNat, Int.reduceAdd, Int.reduceSub, Int.reduceNeg, ne_eq, Int.reduceEq, Int.reduceNe, Int.reduceBEq, Int.reduceBNe, beq_self_eq_true, bne_self_eq_false, BitVec.reduceBEq, BitVec.reduceBNe, BitVec.reduceOfInt, BitVec.reduceSetWidth, wrD, engS0, engS1, engS2, engS3, engS4, engS5, engS6, engS7, engS8, engS9, engT0, engT1, engT2, Fx.t1, Fx.t2, Fx.t3, Fx.t4, Fx.t5, Fx.t22, Fx.t23, Fx.t25, Fx.t45, Fx.t46, Fx.t52, Fx.t53, Fx.t54, Fx.t55, Fx.t65, Fx.t89, Fx.t118, Fx.t119, Fx.t123, Fx.t124, Fx.en25, Fx.en26, Fx.en30, Fx.en33, Fx.en34, Fx.en36, Fx.en39, Fx.en42, Fx.en43, hgx, hwa, hwl, wi]
              repeat (refine And.intro (by first | omega | (rw [bvs_length]; omega) | (rw [List.length_drop, hwl]; omega)) ?_)
              refine UpX_normal h (gotD (b.drop 5) (runD (b.drop 5) (start b) L i) d == wantD d) trivial ?_
              rw [hns]
              exact (Le.sameT (Nat.zero_le _) ⟨rfl, rfl, rfl, rfl, rfl, rfl, rfl, rfl, trivial⟩ ⟨rfl, rfl, rfl, trivial⟩ (by simp))
            | false =>
              simp (config := { maxSteps := 1000000, implicitDefEqProofs := false }) only [-List.reduceReplicate, Nat.reduceBEq, renA, renL, renM, renO, evx, evs, evp, Eng.look, cst, cst1, putd, dstOk, params, loadx, partx, loI, hiI, bltx, mmI, boxx, srcx, calx, nilx, upd, del, resv, fillA, setMany, Nat.reduceLT, Nat.reduceLeDiff, Nat.reduceEqDiff, Nat.reduceAdd, Nat.reduceMul, Nat.reduceSub, reduceIte, reduceCtorEq, if_true, if_false, ite_true, ite_false, eq_self, forall_const, implies_true, Int.reduceLT, Int.reduceLE, Int.reduceToNat, Int.reduceAdd, Int.reduceSub, Int.reduceNeg, ne_eq, Int.reduceEq, Int.reduceNe, Int.reduceBEq, Int.reduceBNe, beq_self_eq_true, bne_self_eq_false, BitVec.reduceBEq, BitVec.reduceBNe, BitVec.reduceOfInt, BitVec.reduceSetWidth, wrD, engS0, engS1, engS2, engS3, engS4, engS5, engS6, engS7, engS8, engS9, engT0, engT1, engT2, Fx.t1, Fx.t2, Fx.t3, Fx.t4, Fx.t5, Fx.t22, Fx.t23, Fx.t25, Fx.t45, Fx.t46, Fx.t52, Fx.t53, Fx.t54, Fx.t55, Fx.t65, Fx.t89, Fx.t118, Fx.t119, Fx.t123, Fx.t124, Fx.en25, Fx.en26, Fx.en30, Fx.en33, Fx.en34, Fx.en36, Fx.en39, Fx.en42, Fx.en43, wi]
              refine UpX_normal h false trivial ?_
              rw [hns]
              exact (Le.sameT (Nat.zero_le _) ⟨rfl, rfl, rfl, rfl, rfl, rfl, rfl, rfl, trivial⟩ ⟨rfl, rfl, rfl, trivial⟩ (by simp))
        have hi' : i = L.length := by omega
        have g1 : decide ((i : Int) < (L.length : Int)) = false := by simp; omega
        rw [← hi'] at hdone
        simp (config := { maxSteps := 1000000, implicitDefEqProofs := false }) only [-List.reduceReplicate, Nat.reduceBEq, renA, renL, renM, renO, evx, evs, evp, Eng.look, cst, cst1, putd, dstOk, params, loadx, partx, loI, hiI, bltx, mmI, boxx, srcx, calx, nilx, upd, del, resv, fillA, setMany, Nat.reduceLT, Nat.reduceLeDiff, Nat.reduceEqDiff, Nat.reduceAdd, Nat.reduceMul, Nat.reduceSub, reduceIte, reduceCtorEq, if_true, if_false, ite_true, ite_false, eq_self, forall_const, implies_true, Int.reduceLT, Int.reduceLE, Int.reduceToNat, Int.reduceAdd, Int.reduceSub, Int.reduceNeg, ne_eq, Int.reduceEq, Int.reduceNe, Int.reduceBEq, Int.reduceBNe, beq_self_eq_true, bne_self_eq_false, BitVec.reduceBEq, BitVec.reduceBNe, BitVec.reduceOfInt, BitVec.reduceSetWidth, wrD, engS0, engS1, engS2, engS3, engS4, engS5, engS6, engS7, engS8, engS9, engT0, engT1, engT2, Fx.t1, Fx.t2, Fx.t3, Fx.t4, Fx.t5, Fx.t22, Fx.t23, Fx.t25, Fx.t45, Fx.t46, Fx.t52, Fx.t53, Fx.t54, Fx.t55, Fx.t65, Fx.t89, Fx.t118, Fx.t119, Fx.t123, Fx.t124, Fx.en25, Fx.en26, Fx.en30, Fx.en33, Fx.en34, Fx.en36, Fx.en39, Fx.en42, Fx.en43, g1]
        refine useD (a := 3) (b := 4) (by decide) (doneOk (b.drop 5) dsp dcap (runD (b.drop 5) (start b) L i) hok.1 (wr := fun _ => true) (fun _ _ => rfl)) (fun _ => rfl) rfl rfl rfl (fun _ _ => rfl) (fun _ => rfl) (fun _ => rfl) ?_
        rw [hdone]
        simp (config := { maxSteps := 1000000, implicitDefEqProofs := false }) only [-List.reduceReplicate, Nat.reduceBEq, renA, renL, renM, renO, evx, evs, evp, Eng.look, cst, cst1, putd, dstOk, params, loadx, partx, loI, hiI, bltx, mmI, boxx, srcx, calx, nilx, upd, del, resv, fillA, setMany, Nat.reduceLT, Nat.reduceLeDiff, Nat.reduceEqDiff, Nat.reduceAdd, Nat.reduceMul, Nat.reduceSub, reduceIte, reduceCtorEq, if_true, if_false, ite_true, ite_false, eq_self, forall_const, implies_true, Int.reduceLT, Int.reduceLE, Int.reduceToNat, Int.reduceAdd, Int.reduceSub, Int.reduceNeg, ne_eq, Int.reduceEq, Int.reduceNe, Int.reduceBEq, Int.reduceBNe, beq_self_eq_true, bne_self_eq_false, BitVec.reduceBEq, BitVec.reduceBNe, BitVec.reduceOfInt, BitVec.reduceSetWidth, wrD, engS0, engS1, engS2, engS3, engS4, engS5, engS6, engS7, engS8, engS9, engT0, engT1, engT2, Fx.t1, Fx.t2, Fx.t3, Fx.t4, Fx.t5, Fx.t22, Fx.t23, Fx.t25, Fx.t45, Fx.t46, Fx.t52, Fx.t53, Fx.t54, Fx.t55, Fx.t65, Fx.t89, Fx.t118, Fx.t119, Fx.t123, Fx.t124, Fx.en25, Fx.en26, Fx.en30, Fx.en33, Fx.en34, Fx.en36, Fx.en39, Fx.en42, Fx.en43, wk]
        refine UpK_normal h3 ?_
        exact ⟨[], rfl, Nat.zero_le _, ⟨rfl, rfl, by show _ = some (renA _ _); simp only [renA, bvs_ren]; rfl, rfl, by show _ = some (renA _ _); simp only [renA, ded_ren]; rfl, trivial⟩, ⟨by simp only [renO, renL_vals']; rfl, rfl, trivial⟩, by simp [injOn], (fun n e => by cases e), fun _ _ => rfl⟩
    · have g3 : decide ((k : Int) < 3) = false := by simp; omega
      simp (config := { maxSteps := 1000000, implicitDefEqProofs := false }) only [-List.reduceReplicate, Nat.reduceBEq, renA, renL, renM, renO, evx, evs, evp, Eng.look, cst, cst1, putd, dstOk, params, loadx, partx, loI, hiI, bltx, mmI, boxx, srcx, calx, nilx, upd, del, resv, fillA, setMany, Nat.reduceLT, Nat.reduceLeDiff, Nat.reduceEqDiff, Nat.reduceAdd, Nat.reduceMul, Nat.reduceSub, reduceIte, reduceCtorEq, if_true, if_false, ite_true, ite_false, eq_self, forall_const, implies_true, Int.reduceLT, Int.reduceLE, Int.reduceToNat, Int.reduceAdd, Int.reduceSub, Int.reduceNeg, ne_eq, Int.reduceEq, Int.reduceNe, Int.reduceBEq, Int.reduceBNe, beq_self_eq_true, bne_self_eq_false, BitVec.reduceBEq, BitVec.reduceBNe, BitVec.reduceOfInt, BitVec.reduceSetWidth, wrD, engS0, engS1, engS2, engS3, engS4, engS5, engS6, engS7, engS8, engS9, engT0, engT1, engT2, Fx.t1, Fx.t2, Fx.t3, Fx.t4, Fx.t5, Fx.t22, Fx.t23, Fx.t25, Fx.t45, Fx.t46, Fx.t52, Fx.t53, Fx.t54, Fx.t55, Fx.t65, Fx.t89, Fx.t118, Fx.t119, Fx.t123, Fx.t124, Fx.en25, Fx.en26, Fx.en30, Fx.en33, Fx.en34, Fx.en36, Fx.en39, Fx.en42, Fx.en43, g3]
      refine kn06 ?_
      simp (config := { maxSteps := 1000000, implicitDefEqProofs := false }) only [-List.reduceReplicate, Nat.reduceBEq, renA, renL, renM, renO, evx, evs, evp, Eng.look, cst, cst1, putd, dstOk, params, loadx, partx, loI, hiI, bltx, mmI, boxx, srcx, calx, nilx, upd, del, resv, fillA, setMany, Nat.reduceLT, Nat.reduceLeDiff, Nat.reduceEqDiff, Nat.reduceAdd, Nat.reduceMul, Nat.reduceSub, reduceIte, reduceCtorEq, if_true, if_false, ite_true, ite_false, eq_self, forall_const, implies_true, Int.reduceLT, Int.reduceLE, Int.reduceToNat, Int.reduceAdd, Int.reduceSub, Int.reduceNeg, ne_eq, Int.reduceEq, Int.reduceNe, Int.reduceBEq, Int.reduceBNe, beq_self_eq_true, bne_self_eq_false, BitVec.reduceBEq, BitVec.reduceBNe, BitVec.reduceOfInt, BitVec.reduceSetWidth, wrD, engS0, engS1, engS2, engS3, engS4, engS5, engS6, engS7, engS8, engS9, engT0, engT1, engT2, Fx.t1, Fx.t2, Fx.t3, Fx.t4, Fx.t5, Fx.t22, Fx.t23, Fx.t25, Fx.t45, Fx.t46, Fx.t52, Fx.t53, Fx.t54, Fx.t55, Fx.t65, Fx.t89, Fx.t118, Fx.t119, Fx.t123, Fx.t124, Fx.en25, Fx.en26, Fx.en30, Fx.en33, Fx.en34, Fx.en36, Fx.en39, Fx.en42, Fx.en43]
      exact fin
end Go.Proofs.Ytmnbbpckglppjaa
