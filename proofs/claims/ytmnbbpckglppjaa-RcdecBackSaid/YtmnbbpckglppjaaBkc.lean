/- Coding bits: the coder among other objects. -/
import Derived.Test.YtmnbbpckglppjaaEng26
import Derived.Test.YtmnbbpckglppjaaBkb
set_option linter.unusedVariables false
set_option linter.unusedSimpArgs false
set_option maxRecDepth 100000
namespace Go.Proofs.Ytmnbbpckglppjaa
open Go Go.Eng

def EM (e : ES) (z : Option (Nat × Nat × List Value)) : Mem := (0, encO (eR e.out z) e) :: eM e.out z
def zOk2 (nx : Nat) (e : ES) (z : Option (Nat × Nat × List Value)) : Prop := match z with | none => e.out = [] | some (n, cap, sp) => 1 ≤ n ∧ n < nx ∧ e.out.length + sp.length = cap ∧ cap ≤ maxI
structure EQ (R : Mem) (nx : Nat) (e : ES) (z : Option (Nat × Nat × List Value)) : Prop where
  r : ∀ k, (k = 0 ∨ nx ≤ k ∨ zNm z k) → Eng.look R k = none
  zq : zOk2 nx e z
  p : 0 < nx
def EF (R : Mem) (e : ES) (z : Option (Nat × Nat × List Value)) (k : Nat) : Option AObj := if k = 0 then some (encO (eR e.out z) e) else zL R e.out k z
theorem EQ.look {R : Mem} {nx : Nat} {e : ES} {z : Option (Nat × Nat × List Value)} (h : EQ R nx e z) (k : Nat) : Eng.look (R ++ EM e z) k = EF R e z k := by
  rw [look_app, EF, EM, look_cons]
  by_cases h0 : k = 0
  · subst h0
    rw [h.r 0 (.inl rfl), if_pos rfl, if_pos rfl]; rfl
  have g0' : ¬ 0 = k := by omega
  rw [if_neg h0, if_neg g0']
  rcases z with _ | ⟨n, cap, sp⟩
  · show (Eng.look R k).or none = _
    rw [Option.or_none]; rfl
  · show (Eng.look R k).or (if n = k then some (rowO e.out sp) else none) = if k = n then some (rowO e.out sp) else Eng.look R k
    by_cases hn : k = n
    · rw [h.r k (.inr (.inr hn)), if_pos hn, if_pos hn.symm]; rfl
    · rw [if_neg hn, if_neg (fun e => hn e.symm), Option.or_none]
theorem useE2w {fz : Bool} {wr : Nat → Bool} {g : FuncId} {args0 : List AV} {V : AV} {R : Mem} {nx : Nat} {e e' : ES} {z : Option (Nat × Nat × List Value)} {K : Kv} (q : EQ R nx e z)
    (h : encT.Ok Try.prog g args0 V e e') (hw0 : wr 0 = true) (hwz : ∀ n, zNm z n → wr n = true) (hf : ∀ f, renL f args0 = args0) (hV : ∀ f, renA f V = V)
    (hK : ∀ z' nx', nx ≤ nx' → EQ R nx' e' z' → K V (R ++ EM e' z') nx') : CallG fz Try.prog g (.ptr 0 0 :: args0) wr (R ++ EM e z) nx K := by
  have hp := q.p
  refine CallG.congrK ?_
  rcases z with _ | ⟨n, cap, sp⟩
  · have ho : e.out = [] := q.zq
    refine SlT.useN (T := encT) (a := 0) h hf hV (by rw [q.look]; rfl) hw0 ho ?_ ?_
    · intro c0
      have q' : EQ R nx e' none := ⟨q.r, c0, q.p⟩
      refine ⟨R ++ EM e' none, fun k => ?_, hK none nx (Nat.le_refl _) q'⟩
      rw [q'.look, look_cons]
      by_cases hk : k = 0
      · subst hk; rw [if_pos rfl]; rfl
      · rw [if_neg (fun e => hk e.symm), look_del_other (fun e => hk e.symm), q.look]
        simp only [EF, zL, if_neg hk]
    · intro cap sp c1 c2
      have q' : EQ R (nx + 1) e' (some (nx, cap, sp)) := ⟨fun k hk => q.r k (by rcases hk with hk | hk | hk; exact .inl hk; exact .inr (.inl (by omega)); exact .inr (.inl (Nat.le_of_eq (show k = nx from hk).symm))), ⟨by omega, by omega, c1, c2⟩, by omega⟩
      refine ⟨R ++ EM e' (some (nx, cap, sp)), fun k => ?_, hK _ (nx + 1) (Nat.le_succ _) q'⟩
      rw [q'.look, look_cons, look_cons]
      by_cases hk : k = 0
      · subst hk; rw [if_pos rfl]; rfl
      · rw [if_neg (fun e => hk e.symm)]
        by_cases hk2 : k = nx
        · rw [if_pos hk2.symm]
          simp only [EF, zL, if_neg hk, if_pos hk2]; rfl
        · rw [if_neg (fun e => hk2 e.symm), look_del_other (fun e => hk e.symm), q.look]
          simp only [EF, zL, if_neg hk, if_neg hk2]
  · obtain ⟨z1, z2, z4, z5⟩ : 1 ≤ n ∧ n < nx ∧ e.out.length + sp.length = cap ∧ cap ≤ maxI := q.zq
    have hn0 : ¬ n = 0 := by omega
    refine SlT.useS (T := encT) (a := 0) (n := n) (cap := cap) (sp := sp) h hf hV (by omega) (by rw [q.look]; rfl) (by rw [q.look]; simp only [EF, zL, if_neg hn0, if_true]; rfl) z4 z5 hw0 (hwz n rfl) ?_ ?_
    · intro c0
      have c0 : e'.out = e.out := c0
      have q' : EQ R nx e' (some (n, cap, sp)) := ⟨q.r, ⟨z1, z2, by rw [c0]; exact z4, z5⟩, q.p⟩
      refine ⟨R ++ EM e' (some (n, cap, sp)), fun k => ?_, hK _ nx (Nat.le_refl _) q'⟩
      rw [q'.look, look_cons, look_cons]
      by_cases hk : k = 0
      · subst hk; rw [if_pos rfl]; simp only [EF, zL, if_true, eR, c0]; rfl
      · rw [if_neg (fun e => hk e.symm)]
        by_cases hk2 : k = n
        · rw [if_pos hk2.symm]
          simp only [EF, zL, if_neg hk, if_pos hk2, c0]; rfl
        · rw [if_neg (fun e => hk2 e.symm), look_del_other (fun e => hk2 e.symm), look_del_other (fun e => hk e.symm), q.look]
          simp only [EF, zL, if_neg hk, if_neg hk2]
    · intro cap2 sp2 c1 c2
      have q' : EQ R (nx + 1) e' (some (nx, cap2, sp2)) := ⟨fun k hk => q.r k (by rcases hk with hk | hk | hk; exact .inl hk; exact .inr (.inl (by omega)); exact .inr (.inl (Nat.le_of_eq (show k = nx from hk).symm))), ⟨by omega, by omega, c1, c2⟩, by omega⟩
      refine ⟨R ++ EM e' (some (nx, cap2, sp2)), fun k => ?_, hK _ (nx + 1) (Nat.le_succ _) q'⟩
      rw [q'.look, look_cons, look_cons]
      by_cases hk : k = 0
      · subst hk; rw [if_pos rfl]; rfl
      · rw [if_neg (fun e => hk e.symm)]
        by_cases hk2 : k = nx
        · rw [if_pos hk2.symm]
          simp only [EF, zL, if_neg hk, if_pos hk2]; rfl
        · rw [if_neg (fun e => hk2 e.symm)]
          by_cases hk3 : k = n
          · simp only [EF, zL, if_neg hk, if_neg hk2]
            rw [q.r k (.inr (.inr hk3)), hk3, look_del_same]
          · rw [look_del_other (fun e => hk3 e.symm), look_del_other (fun e => hk e.symm), q.look]
            simp only [EF, zL, if_neg hk, if_neg hk2, if_neg hk3]
theorem useEB2 {fz : Bool} {R : Mem} {nx : Nat} {e : ES} {z : Option (Nat × Nat × List Value)} {wr : Nat → Bool} {K : Kv} (q : EQ R nx e z) (hb : e.out.length + e.full + 5 ≤ 1000000) (hw : ∀ n, nx ≤ n → wr n = true) {X : List (BitVec 8)} (hX : bytE e = X)
    (hK : ∀ cap sp, K (.sl nx 0 X.length cap) ((nx, rowO X sp) :: (R ++ EM e z)) (nx + 1)) : CallG fz Try.prog 43 [.ptr 0 0] wr (R ++ EM e z) nx K := by
  subst hX
  have hp := q.p
  rcases z with _ | ⟨n, cap, sp⟩
  · exact bytN hb q.zq (by omega) (by rw [q.look]; rfl) hw hK
  · obtain ⟨z1, z2, z4, z5⟩ : 1 ≤ n ∧ n < nx ∧ e.out.length + sp.length = cap ∧ cap ≤ maxI := q.zq
    have hn0 : ¬ n = 0 := by omega
    exact bytS (n := n) (cap := cap) (sp := sp) hb (by omega) z2 (by omega) (by rw [q.look]; rfl) (by rw [q.look]; simp only [EF, zL, if_neg hn0, if_true]) z4 z5 hw hK
theorem EQ.mods {R : Mem} {nx : Nat} {e : ES} {z : Option (Nat × Nat × List Value)} (q : EQ R nx e z) : ∀ n ∈ zMods z, (Eng.look (R ++ EM e z) n).isSome = true := by
  intro k hk
  rw [q.look]
  rcases z with _ | ⟨n, cap, sp⟩
  · have : k = 0 := by simpa [zMods] using hk
    subst this; rfl
  · obtain ⟨z1, z2, z3⟩ : 1 ≤ n ∧ n < nx ∧ e.out.length + sp.length = cap ∧ cap ≤ maxI := q.zq
    have : k = 0 ∨ k = n := by simpa [zMods] using hk
    rcases this with rfl | rfl
    · rfl
    · have hn0 : ¬ k = 0 := by omega
      simp only [EF, zL, if_neg hn0, if_true]; rfl
/-- the same coder, with other objects about it -/
theorem EQ.same {R m : Mem} {nx : Nat} {e : ES} {z : Option (Nat × Nat × List Value)} (q : EQ R nx e z) (hm : ∀ k, (k = 0 ∨ zNm z k) → Eng.look m k = Eng.look (R ++ EM e z) k) : memSame m (EM e z) := by
  refine ⟨by rw [hm _ (.inl rfl), q.look]; rfl, ?_⟩
  rcases z with _ | ⟨n, cap, sp⟩
  · trivial
  · obtain ⟨z1, z2, z3⟩ : 1 ≤ n ∧ n < nx ∧ e.out.length + sp.length = cap ∧ cap ≤ maxI := q.zq
    have hn0 : ¬ n = 0 := by omega
    exact ⟨by rw [hm _ (.inr rfl), q.look]; simp only [EF, zL, if_neg hn0, if_true], trivial⟩
theorem EQ.nodup {R : Mem} {nx : Nat} {e : ES} {z : Option (Nat × Nat × List Value)} (q : EQ R nx e z) : ((EM e z).map fun p => p.1).Nodup := by
  rcases z with _ | ⟨n, cap, sp⟩
  · simp [EM, eM]
  · obtain ⟨z1, z2, z3⟩ : 1 ≤ n ∧ n < nx ∧ e.out.length + sp.length = cap ∧ cap ≤ maxI := q.zq
    simp [EM, eM]; omega
/-- other objects about it -/
theorem EQ.other {R R' : Mem} {nx nx' : Nat} {e : ES} {z : Option (Nat × Nat × List Value)} (q : EQ R nx e z) (hn : nx ≤ nx') (hR : ∀ k, (k = 0 ∨ nx' ≤ k ∨ zNm z k) → Eng.look R' k = none) : EQ R' nx' e z := by
  have hp := q.p
  refine ⟨hR, ?_, by omega⟩
  rcases z with _ | ⟨n, cap, sp⟩
  · exact q.zq
  · obtain ⟨z1, z2, z3⟩ := q.zq
    exact ⟨z1, by omega, z3⟩
theorem EQ.zlt {R : Mem} {nx : Nat} {e : ES} {z : Option (Nat × Nat × List Value)} (q : EQ R nx e z) {k : Nat} (h : k = 0 ∨ zNm z k) : k < nx := by
  have hp := q.p
  rcases h with h | h
  · omega
  · rcases z with _ | ⟨n, cap, sp⟩
    · exact h.elim
    · have h : k = n := h
      have := q.zq.2.1
      omega
end Go.Proofs.Ytmnbbpckglppjaa
