/- Coding bits: the document's coder is made, its bytes; both coders in one memory. -/
import Derived.Test.YtmnbbpckglppjaaEng19
import Derived.Test.YtmnbbpckglppjaaEng26
import Derived.Test.YtmnbbpckglppjaaRre
set_option linter.unusedVariables false
set_option linter.unusedSimpArgs false
set_option maxRecDepth 100000
namespace Go.Eng
open Go
theorem CallG.congrK {fz : Bool} {P : Program} {g : FuncId} {args : List AV} {wr : Nat → Bool} {m : Mem} {nx : Nat} {K : Kv} (h : CallG fz P g args wr m nx fun v m' nx' => ∃ m0, (∀ k, look m0 k = look m' k) ∧ K v m0 nx') : CallG fz P g args wr m nx K := by
  intro w0 FP H B w vs hi hd
  refine (h w0 FP H B w vs hi hd).mono fun e w' he => ?_
  obtain ⟨v, av, m', nx', B', H', h1, h2, h3, h4, h5, m0, h6, h7⟩ := he
  exact ⟨v, av, m0, nx', B', H', h1, h2, h3.congr h6, h4, h5, h7⟩
theorem look_app {α : Type} (a b : List (Nat × α)) (k : Nat) : look (a ++ b) k = (look a k).or (look b k) := by
  induction a with
  | nil => rfl
  | cons p r ih =>
    obtain ⟨n, x⟩ := p
    rw [List.cons_append, look_cons, look_cons, ih]
    split <;> rfl
end Go.Eng
namespace Go.Proofs.Ytmnbbpckglppjaa
open Go Go.Eng

theorem newROk : CallG false Try.prog 38 [] (fun _ => true) [] 0 fun v m nx => v = .ptr 0 0 ∧ m = [(0, rEO (.sl 1 0 4 4) newR), (1, rowO newR.low [])] ∧ nx = 2 := by
  refine fn_okG Try.func38 rfl (Nat.zero_le _) ?_
  simp (config := { maxSteps := 1000000, implicitDefEqProofs := false }) only [-List.reduceReplicate, Nat.reduceBEq, renA, renL, renM, renO, evx, evs, evp, Eng.look, cst, cst1, putd, dstOk, params, loadx, partx, loI, hiI, bltx, mmI, boxx, srcx, calx, nilx, upd, del, resv, fillA, setMany, Nat.reduceLT, Nat.reduceLeDiff, Nat.reduceEqDiff, Nat.reduceAdd, Nat.reduceMul, Nat.reduceSub, reduceIte, reduceCtorEq, if_true, if_false, ite_true, ite_false, eq_self, forall_const, implies_true, Int.reduceLT, Int.reduceLE, Int.reduceToNat, Int.reduceAdd, Int.reduceSub, Int.reduceNeg, ne_eq, Int.reduceEq, Int.reduceNe, Int.reduceBEq, Int.reduceBNe, beq_self_eq_true, bne_self_eq_false, BitVec.reduceBEq, BitVec.reduceBNe, BitVec.reduceOfInt, BitVec.reduceSetWidth, wrD, engS0, engS1, engS2, engS3, engS4, engS5, engS6, engS7, engS8, engS9, engT0, engT1, engT2, Fx.t5, Fx.t22, Fx.t23, Fx.t67, Fx.t125, Fx.t126, Try.results38, Try.ntmps38]
  exact ⟨[(0, 1), (1, 0)], .ptr 0 0, [(0, rEO (.sl 1 0 4 4) newR), (1, rowO newR.low [])], 2, ⟨rfl, by decide⟩, rfl, ⟨rfl, rfl, rfl, rfl, trivial⟩, by simp [injOn, rf, Eng.look], (fun n e => by cases e), rfl, rfl, rfl⟩
/-- the bytes that are answered: a new row -/
def RBytK (s : RS) (cap : Nat) (sp : List Value) : Kv := fun v m nx => ∃ (cap' : Nat) (sp' : List Value), v = .sl 2 0 (0#8 :: s.low).length cap' ∧ m = (0, rEO (.sl 1 0 s.low.length cap) s) :: (2, rowO (0#8 :: s.low) sp') :: [(1, rowO s.low sp)] ∧ nx = 3
set_option maxHeartbeats 1000000 in
theorem rbytEOk (s : RS) (hl : s.low.length ≤ 1000000) (cap : Nat) (sp : List Value) : CallG false Try.prog 44 [.ptr 0 0] (fun n => decide (2 ≤ n)) [(0, rEO (.sl 1 0 s.low.length cap) s), (1, rowO s.low sp)] 2 (RBytK s cap sp) := by
  refine fn_okG Try.func44 rfl (by show 1 ≤ _; decide) ?_
  have t0 : List.take 1 ((bvs .u8 (List.replicate 1 (0 : BitVec 8))).set 0 (AV.int .u8 0)) = bvs .u8 [0#8] := rfl
  simp (config := { maxSteps := 1000000, implicitDefEqProofs := false }) only [-List.reduceReplicate, Nat.reduceBEq, renA, renL, renM, renO, evx, evs, evp, Eng.look, cst, cst1, putd, dstOk, params, loadx, partx, loI, hiI, bltx, mmI, boxx, srcx, calx, nilx, upd, del, resv, fillA, setMany, Nat.reduceLT, Nat.reduceLeDiff, Nat.reduceEqDiff, Nat.reduceAdd, Nat.reduceMul, Nat.reduceSub, reduceIte, reduceCtorEq, if_true, if_false, ite_true, ite_false, eq_self, forall_const, implies_true, Int.reduceLT, Int.reduceLE, Int.reduceToNat, Int.reduceAdd, Int.reduceSub, Int.reduceNeg, ne_eq, Int.reduceEq, Int.reduceNe, Int.reduceBEq, Int.reduceBNe, beq_self_eq_true, bne_self_eq_false, BitVec.reduceBEq, BitVec.reduceBNe, BitVec.reduceOfInt, BitVec.reduceSetWidth, wrD, engS0, engS1, engS2, engS3, engS4, engS5, engS6, engS7, engS8, engS9, engT0, engT1, engT2, Fx.t5, Fx.t22, Fx.t23, Fx.t67, Fx.t125, Fx.t126, Try.results44, Try.ntmps44, rEO, rowO]
  refine ⟨.inr trivial, by rw [takeA', bvs_length], by rw [takeA']; exact one1_bvs _ _, ?_⟩
  rw [takeA']
  refine appk_bvs (k := .u8) (x := [0#8]) (y := s.low) (sp := []) rfl rfl rfl (by decide) (by decide) (by rw [List.length_singleton]; omega) ?_
  intro cap1 sp1 d1 d2
  simp (config := { maxSteps := 1000000, implicitDefEqProofs := false }) only [-List.reduceReplicate, Nat.reduceBEq, renA, renL, renM, renO, evx, evs, evp, Eng.look, cst, cst1, putd, dstOk, params, loadx, partx, loI, hiI, bltx, mmI, boxx, srcx, calx, nilx, upd, del, resv, fillA, setMany, Nat.reduceLT, Nat.reduceLeDiff, Nat.reduceEqDiff, Nat.reduceAdd, Nat.reduceMul, Nat.reduceSub, reduceIte, reduceCtorEq, if_true, if_false, ite_true, ite_false, eq_self, forall_const, implies_true, Int.reduceLT, Int.reduceLE, Int.reduceToNat, Int.reduceAdd, Int.reduceSub, Int.reduceNeg, ne_eq, Int.reduceEq, Int.reduceNe, Int.reduceBEq, Int.reduceBNe, beq_self_eq_true, bne_self_eq_false, BitVec.reduceBEq, BitVec.reduceBNe, BitVec.reduceOfInt, BitVec.reduceSetWidth, wrD, engS0, engS1, engS2, engS3, engS4, engS5, engS6, engS7, engS8, engS9, engT0, engT1, engT2, Fx.t5, Fx.t22, Fx.t23, Fx.t67, Fx.t125, Fx.t126]
  exact ⟨[(2, 3)], .sl 2 0 (0#8 :: s.low).length cap1, (0, rEO (.sl 1 0 s.low.length cap) s) :: (2, rowO (0#8 :: s.low) sp1) :: [(1, rowO s.low sp)], 3, ⟨rfl, by decide⟩, rfl, ⟨rfl, rfl, by rw [rowO_ren]; rfl, rfl, by rw [rowO_ren]; rfl, rfl, trivial⟩, by simp [injOn, rf, Eng.look], kp3, cap1, sp1, rfl, rfl, rfl⟩

/-! both coders in one memory -/
def eR (X : List (BitVec 8)) : Option (Nat × Nat × List Value) → AV
  | none => .nils
  | some (n, cap, _) => .sl n 0 X.length cap
def eM (X : List (BitVec 8)) : Option (Nat × Nat × List Value) → Mem
  | none => []
  | some (n, _, sp) => [(n, rowO X sp)]
def LM (e : ES) (z : Option (Nat × Nat × List Value)) (s : RS) (w : Nat × Nat × List Value) : Mem :=
  (0, encO (eR e.out z) e) :: (1, rEO (.sl w.1 0 s.low.length w.2.1) s) :: (w.1, rowO s.low w.2.2) :: eM e.out z
def zNm (z : Option (Nat × Nat × List Value)) (k : Nat) : Prop := match z with | none => False | some (n, _, _) => k = n
def zOk (nx : Nat) (e : ES) (w : Nat × Nat × List Value) (z : Option (Nat × Nat × List Value)) : Prop := match z with | none => e.out = [] | some (n, cap, sp) => 2 ≤ n ∧ n < nx ∧ n ≠ w.1 ∧ e.out.length + sp.length = cap ∧ cap ≤ maxI
structure LQ (R : Mem) (nx : Nat) (e : ES) (z : Option (Nat × Nat × List Value)) (s : RS) (w : Nat × Nat × List Value) : Prop where
  r : ∀ k, (k < 2 ∨ nx ≤ k ∨ zNm z k ∨ k = w.1) → Eng.look R k = none
  zq : zOk nx e w z
  w2 : 2 ≤ w.1
  wn : w.1 < nx
  wl : s.low.length + w.2.2.length = w.2.1
  wc : w.2.1 ≤ maxI
def zL (R : Mem) (X : List (BitVec 8)) (k : Nat) : Option (Nat × Nat × List Value) → Option AObj
  | none => Eng.look R k
  | some (n, _, sp) => if k = n then some (rowO X sp) else Eng.look R k
def LF (R : Mem) (e : ES) (z : Option (Nat × Nat × List Value)) (s : RS) (w : Nat × Nat × List Value) (k : Nat) : Option AObj :=
  if k = 0 then some (encO (eR e.out z) e) else if k = 1 then some (rEO (.sl w.1 0 s.low.length w.2.1) s) else if k = w.1 then some (rowO s.low w.2.2) else zL R e.out k z
theorem LQ.look {R : Mem} {nx : Nat} {e : ES} {z : Option (Nat × Nat × List Value)} {s : RS} {w : Nat × Nat × List Value} (h : LQ R nx e z s w) (k : Nat) : Eng.look (R ++ LM e z s w) k = LF R e z s w k := by
  rw [look_app, LF, LM, look_cons, look_cons, look_cons]
  have hw2 := h.w2
  rcases Nat.eq_zero_or_pos k with h0 | h0
  · subst h0
    rw [h.r 0 (.inl (by decide)), if_pos rfl, if_pos rfl]; rfl
  have g0 : ¬ k = 0 := by omega
  have g0' : ¬ 0 = k := by omega
  rw [if_neg g0, if_neg g0']
  by_cases h1 : k = 1
  · subst h1
    rw [h.r 1 (.inl (by decide)), if_pos rfl, if_pos rfl]; rfl
  have g1' : ¬ 1 = k := by omega
  rw [if_neg h1, if_neg g1']
  by_cases hw : k = w.1
  · rw [h.r k (.inr (.inr (.inr hw))), if_pos hw, if_pos hw.symm]; rfl
  rw [if_neg hw, if_neg (fun e => hw e.symm)]
  rcases z with _ | ⟨n, cap, sp⟩
  · show (Eng.look R k).or none = _
    rw [Option.or_none]; rfl
  · show (Eng.look R k).or (if n = k then some (rowO e.out sp) else none) = if k = n then some (rowO e.out sp) else Eng.look R k
    by_cases hn : k = n
    · rw [h.r k (.inr (.inr (.inl hn))), if_pos hn, if_pos hn.symm]; rfl
    · rw [if_neg hn, if_neg (fun e => hn e.symm), Option.or_none]
/-- a call of the coder -/
theorem useE1w {fz : Bool} {wr : Nat → Bool} {g : FuncId} {args0 : List AV} {V : AV} {R : Mem} {nx : Nat} {e e' : ES} {z : Option (Nat × Nat × List Value)} {s : RS} {w : Nat × Nat × List Value} {K : Kv} (q : LQ R nx e z s w)
    (h : encT.Ok Try.prog g args0 V e e') (hw0 : wr 0 = true) (hwz : ∀ n, zNm z n → wr n = true) (hf : ∀ f, renL f args0 = args0) (hV : ∀ f, renA f V = V)
    (hK : ∀ z' nx', nx ≤ nx' → LQ R nx' e' z' s w → K V (R ++ LM e' z' s w) nx') : CallG fz Try.prog g (.ptr 0 0 :: args0) wr (R ++ LM e z s w) nx K := by
  have hw2 := q.w2
  have hwn := q.wn
  refine CallG.congrK ?_
  rcases z with _ | ⟨n, cap, sp⟩
  · have ho : e.out = [] := q.zq
    refine SlT.useN (T := encT) (a := 0) h hf hV (by rw [q.look]; rfl) hw0 ho ?_ ?_
    · intro c0
      have q' : LQ R nx e' none s w := ⟨q.r, c0, q.w2, q.wn, q.wl, q.wc⟩
      refine ⟨R ++ LM e' none s w, fun k => ?_, hK none nx (Nat.le_refl _) q'⟩
      rw [q'.look, look_cons]
      by_cases hk : k = 0
      · subst hk; rw [if_pos rfl]; rfl
      · rw [if_neg (fun e => hk e.symm), look_del_other (fun e => hk e.symm), q.look]
        simp only [LF, zL, if_neg hk]
    · intro cap sp c1 c2
      have q' : LQ R (nx + 1) e' (some (nx, cap, sp)) s w := ⟨fun k hk => q.r k (by rcases hk with hk | hk | hk | hk; exact .inl hk; exact .inr (.inl (by omega)); exact .inr (.inl (Nat.le_of_eq (show k = nx from hk).symm)); exact .inr (.inr (.inr hk))), ⟨by omega, by omega, by omega, c1, c2⟩, q.w2, by omega, q.wl, q.wc⟩
      refine ⟨R ++ LM e' (some (nx, cap, sp)) s w, fun k => ?_, hK _ (nx + 1) (Nat.le_succ _) q'⟩
      rw [q'.look, look_cons, look_cons]
      by_cases hk : k = 0
      · subst hk; rw [if_pos rfl]; rfl
      · rw [if_neg (fun e => hk e.symm)]
        by_cases hk2 : k = nx
        · rw [if_pos hk2.symm]
          have g1 : ¬ k = 1 := by omega
          have g2 : ¬ k = w.1 := by omega
          simp only [LF, zL, if_neg hk, if_neg g1, if_neg g2, if_pos hk2]; rfl
        · rw [if_neg (fun e => hk2 e.symm), look_del_other (fun e => hk e.symm), q.look]
          simp only [LF, zL, if_neg hk, if_neg hk2]
  · obtain ⟨z1, z2, z3, z4, z5⟩ : 2 ≤ n ∧ n < nx ∧ n ≠ w.1 ∧ e.out.length + sp.length = cap ∧ cap ≤ maxI := q.zq
    have hn0 : ¬ n = 0 := by omega
    have hn1 : ¬ n = 1 := by omega
    refine SlT.useS (T := encT) (a := 0) (n := n) (cap := cap) (sp := sp) h hf hV (by omega) (by rw [q.look]; rfl) (by rw [q.look]; simp only [LF, zL, if_neg hn0, if_neg hn1, if_neg z3, if_true]; rfl) z4 z5 hw0 (hwz n rfl) ?_ ?_
    · intro c0
      have c0 : e'.out = e.out := c0
      have q' : LQ R nx e' (some (n, cap, sp)) s w := ⟨q.r, ⟨z1, z2, z3, by rw [c0]; exact z4, z5⟩, q.w2, q.wn, q.wl, q.wc⟩
      refine ⟨R ++ LM e' (some (n, cap, sp)) s w, fun k => ?_, hK _ nx (Nat.le_refl _) q'⟩
      rw [q'.look, look_cons, look_cons]
      by_cases hk : k = 0
      · subst hk; rw [if_pos rfl]; simp only [LF, zL, if_true, eR, c0]; rfl
      · rw [if_neg (fun e => hk e.symm)]
        by_cases hk2 : k = n
        · rw [if_pos hk2.symm]
          have g1 : ¬ k = 1 := by omega
          have g2 : ¬ k = w.1 := by rw [hk2]; exact z3
          simp only [LF, zL, if_neg hk, if_neg g1, if_neg g2, if_pos hk2, c0]; rfl
        · rw [if_neg (fun e => hk2 e.symm), look_del_other (fun e => hk2 e.symm), look_del_other (fun e => hk e.symm), q.look]
          simp only [LF, zL, if_neg hk, if_neg hk2]
    · intro cap2 sp2 c1 c2
      have q' : LQ R (nx + 1) e' (some (nx, cap2, sp2)) s w := ⟨fun k hk => q.r k (by rcases hk with hk | hk | hk | hk; exact .inl hk; exact .inr (.inl (by omega)); exact .inr (.inl (Nat.le_of_eq (show k = nx from hk).symm)); exact .inr (.inr (.inr hk))), ⟨by omega, by omega, by omega, c1, c2⟩, q.w2, by omega, q.wl, q.wc⟩
      refine ⟨R ++ LM e' (some (nx, cap2, sp2)) s w, fun k => ?_, hK _ (nx + 1) (Nat.le_succ _) q'⟩
      rw [q'.look, look_cons, look_cons]
      by_cases hk : k = 0
      · subst hk; rw [if_pos rfl]; rfl
      · rw [if_neg (fun e => hk e.symm)]
        by_cases hk2 : k = nx
        · rw [if_pos hk2.symm]
          have g1 : ¬ k = 1 := by omega
          have g2 : ¬ k = w.1 := by omega
          simp only [LF, zL, if_neg hk, if_neg g1, if_neg g2, if_pos hk2]; rfl
        · rw [if_neg (fun e => hk2 e.symm)]
          by_cases hk3 : k = n
          · have g1 : ¬ k = 1 := by omega
            have g2 : ¬ k = w.1 := by rw [hk3]; exact z3
            simp only [LF, zL, if_neg hk, if_neg g1, if_neg g2, if_neg hk2]
            rw [q.r k (.inr (.inr (.inl hk3))), hk3, look_del_same]
          · rw [look_del_other (fun e => hk3 e.symm), look_del_other (fun e => hk e.symm), q.look]
            simp only [LF, zL, if_neg hk, if_neg hk2, if_neg hk3]
theorem useE1 {fz : Bool} {g : FuncId} {args0 : List AV} {V : AV} {R : Mem} {nx : Nat} {e e' : ES} {z : Option (Nat × Nat × List Value)} {s : RS} {w : Nat × Nat × List Value} {K : Kv} (q : LQ R nx e z s w)
    (h : encT.Ok Try.prog g args0 V e e') (hf : ∀ f, renL f args0 = args0) (hV : ∀ f, renA f V = V)
    (hK : ∀ z' nx', nx ≤ nx' → LQ R nx' e' z' s w → K V (R ++ LM e' z' s w) nx') : CallG fz Try.prog g (.ptr 0 0 :: args0) (fun _ => true) (R ++ LM e z s w) nx K := useE1w q h rfl (fun _ _ => rfl) hf hV hK
/-- a call of the document's coder -/
theorem useR1 {fz : Bool} {g : FuncId} {args0 : List AV} {V : AV} {R : Mem} {nx : Nat} {e : ES} {z : Option (Nat × Nat × List Value)} {s s' : RS} {w : Nat × Nat × List Value} {K : Kv} (q : LQ R nx e z s w)
    (h : rET.Ok Try.prog g args0 V s s') (hf : ∀ f, renL f args0 = args0) (hV : ∀ f, renA f V = V)
    (hK : ∀ w' nx', nx ≤ nx' → LQ R nx' e z s' w' → K V (R ++ LM e z s' w') nx') : CallG fz Try.prog g (.ptr 1 0 :: args0) (fun _ => true) (R ++ LM e z s w) nx K := by
  have hw2 := q.w2
  have hwn := q.wn
  obtain ⟨wi, wcap, wsp⟩ := w
  have hw2 : 2 ≤ wi := hw2
  have hwn : wi < nx := hwn
  have hw0 : ¬ wi = 0 := by omega
  have hw1 : ¬ wi = 1 := by omega
  refine CallG.congrK ?_
  refine SlT.useS (T := rET) (a := 1) (n := wi) (cap := wcap) (sp := wsp) h hf hV (by omega) (by rw [q.look]; rfl) (by rw [q.look]; simp only [LF, zL, if_neg hw0, if_neg hw1, if_true]; rfl) q.wl q.wc rfl rfl ?_ ?_
  · intro c0
    have c0 : s'.low = s.low := c0
    have q' : LQ R nx e z s' (wi, wcap, wsp) := ⟨q.r, q.zq, q.w2, q.wn, by rw [c0]; exact q.wl, q.wc⟩
    refine ⟨R ++ LM e z s' (wi, wcap, wsp), fun k => ?_, hK _ nx (Nat.le_refl _) q'⟩
    rw [q'.look, look_cons, look_cons]
    by_cases hk : k = 1
    · subst hk; rw [if_pos rfl]; simp only [LF, zL, if_true, c0]; rfl
    · rw [if_neg (fun e => hk e.symm)]
      by_cases hk2 : k = wi
      · rw [if_pos hk2.symm]
        have g1 : ¬ k = 0 := by omega
        simp only [LF, zL, if_neg hk, if_neg g1, if_pos hk2, c0]; rfl
      · rw [if_neg (fun e => hk2 e.symm), look_del_other (fun e => hk2 e.symm), look_del_other (fun e => hk e.symm), q.look]
        simp only [LF, zL, if_neg hk, if_neg hk2]
  · intro cap2 sp2 c1 c2
    have hzq : zOk nx e (wi, wcap, wsp) z := q.zq
    have q' : LQ R (nx + 1) e z s' (nx, cap2, sp2) := by
      refine ⟨fun k hk => q.r k (by rcases hk with hk | hk | hk | hk; exact .inl hk; exact .inr (.inl (by omega)); exact .inr (.inr (.inl hk)); exact .inr (.inl (Nat.le_of_eq (show k = nx from hk).symm))), ?_, by show 2 ≤ nx; omega, Nat.lt_succ_self _, c1, c2⟩
      rcases z with _ | ⟨n, cap, sp⟩
      · exact hzq
      · obtain ⟨z1, z2, z3, z4, z5⟩ := hzq
        exact ⟨z1, by omega, by show n ≠ nx; omega, z4, z5⟩
    refine ⟨R ++ LM e z s' (nx, cap2, sp2), fun k => ?_, hK _ (nx + 1) (Nat.le_succ _) q'⟩
    rw [q'.look, look_cons, look_cons]
    by_cases hk : k = 1
    · subst hk; rw [if_pos rfl]; rfl
    · rw [if_neg (fun e => hk e.symm)]
      by_cases hk2 : k = nx
      · rw [if_pos hk2.symm]
        have g1 : ¬ k = 0 := by omega
        simp only [LF, zL, if_neg hk, if_neg g1, if_pos hk2]; rfl
      · rw [if_neg (fun e => hk2 e.symm)]
        by_cases hk3 : k = wi
        · have g1 : ¬ k = 0 := by omega
          rw [hk3, look_del_same, ← hk3]
          simp only [LF, zL, if_neg hk, if_neg g1, if_neg hk2]
          have hr := q.r k (.inr (.inr (.inr hk3)))
          rcases z with _ | ⟨n, cap, sp⟩
          · exact hr
          · obtain ⟨z1, z2, z3, z4, z5⟩ := hzq
            have : ¬ k = n := by rw [hk3]; exact fun e => z3 e.symm
            simp only [if_neg this]
            exact hr
        · rw [look_del_other (fun e => hk3 e.symm), look_del_other (fun e => hk e.symm), q.look]
          simp only [LF, zL, if_neg hk, if_neg hk2, if_neg hk3]
end Go.Proofs.Ytmnbbpckglppjaa
