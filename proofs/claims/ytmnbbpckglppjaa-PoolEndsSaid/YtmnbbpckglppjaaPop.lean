/- Turns: the plain law: each step brings one job one place further; as long as not all are collected, some actor may go on. -/
import Derived.Test.YtmnbbpckglppjaaEng26
import Derived.Test.YtmnbbpckglppjaaPom
set_option linter.unusedVariables false
set_option linter.unusedSimpArgs false
set_option maxRecDepth 100000
namespace Go.Proofs.Ytmnbbpckglppjaa
open Go Go.Eng

/-- how many steps a job at a place has behind it -/
def stg (x : Int) : Nat := if x < 0 then 2 else if x = 0 then 0 else if x = 1 then 1 else if x = 2 then 3 else 4
theorem stg_le (x : Int) : stg x ≤ 4 := by unfold stg; repeat' split
                                           all_goals omega
def sumS (A : List Int) : Nat := (A.map stg).sum
theorem sumS_set (t : Int) : ∀ (A : List Int) (j : Nat), j < A.length → sumS (A.set j t) + stg (A.getD j 0) = sumS A + stg t
  | [], _, h => by cases h
  | y :: r, 0, _ => by
    show ((t :: r).map stg).sum + stg y = ((y :: r).map stg).sum + stg t
    rw [List.map_cons, List.map_cons, List.sum_cons, List.sum_cons]; omega
  | y :: r, j + 1, h => by
    have ih := sumS_set t r j (by rw [List.length_cons] at h; omega)
    show ((y :: r.set j t).map stg).sum + stg (r.getD j 0) = ((y :: r).map stg).sum + stg t
    rw [List.map_cons, List.map_cons, List.sum_cons, List.sum_cons]
    unfold sumS at ih
    omega
theorem sumS_le : ∀ A : List Int, sumS A ≤ 4 * A.length
  | [] => Nat.le_refl _
  | y :: r => by
    have := sumS_le r
    have h := stg_le y
    show ((y :: r).map stg).sum ≤ _
    rw [List.map_cons, List.sum_cons, List.length_cons]
    unfold sumS at this
    omega
theorem sumS_lt : ∀ (A : List Int) (i : Nat), i < A.length → stg (A.getD i 0) < 4 → sumS A < 4 * A.length
  | [], _, h, _ => by cases h
  | y :: r, 0, _, hs => by
    have := sumS_le r
    have hs : stg y < 4 := hs
    show ((y :: r).map stg).sum < _
    rw [List.map_cons, List.sum_cons, List.length_cons]
    unfold sumS at this
    omega
  | y :: r, i + 1, h, hs => by
    have := sumS_lt r i (by rw [List.length_cons] at h; omega) hs
    have h := stg_le y
    show ((y :: r).map stg).sum < _
    rw [List.map_cons, List.sum_cons, List.length_cons]
    unfold sumS at this
    omega
theorem sumS_new (k : Nat) : sumS (List.replicate k 0) = 0 := by
  induction k with
  | zero => rfl
  | succ k ih => rw [List.replicate_succ]; show ((0 :: List.replicate k (0 : Int)).map stg).sum = 0; rw [List.map_cons, List.sum_cons]; unfold sumS at ih; rw [ih]; rfl
theorem fst_get (x : Int) : ∀ (A : List Int), 0 ≤ fstZ x A → (fstZ x A).toNat < A.length ∧ A.getD (fstZ x A).toNat 0 = x
  | [], h => by exact absurd h (by show ¬ (0 : Int) ≤ -1; decide)
  | y :: r, h => by
    rw [fstZ] at h ⊢
    by_cases e : y = x
    · rw [if_pos e]; exact ⟨Nat.succ_pos _, e⟩
    · rw [if_neg e] at h ⊢
      by_cases k : fstZ x r < 0
      · rw [if_pos k] at h; exact absurd h (by decide)
      · rw [if_neg k]
        obtain ⟨h1, h2⟩ := fst_get x r (by omega)
        have e1 : (fstZ x r + 1).toNat = (fstZ x r).toNat + 1 := by omega
        rw [e1]
        exact ⟨by rw [List.length_cons]; omega, h2⟩
theorem fst_some {x : Int} : ∀ {A : List Int}, 0 < A.count x → 0 ≤ fstZ x A
  | [], h => by cases h
  | y :: r, h => by
    rw [fstZ]
    by_cases e : y = x
    · rw [if_pos e]; exact Int.le_refl _
    · rw [if_neg e]
      have : 0 < r.count x := by
        rw [List.count_cons_of_ne e] at h; exact h
      have := fst_some this
      rw [if_neg (by omega)]; omega
theorem cnt3_le : ∀ A : List Int, A.count 0 + A.count 2 + A.count 3 ≤ A.length
  | [] => Nat.le_refl _
  | y :: r => by
    have := cnt3_le r
    simp only [List.count_cons, List.length_cons, beq_iff_eq]
    by_cases h0 : y = 0
    · rw [if_pos h0, if_neg (by omega), if_neg (by omega)]; omega
    · by_cases h2 : y = 2
      · rw [if_neg h0, if_pos h2, if_neg (by omega)]; omega
      · rw [if_neg h0, if_neg h2]; split <;> omega
section
variable {jobs w room : Nat} {A : List Int} {S : PS}
/-- a step that may be brings one job one place further -/
theorem step_sum {x : Int} (hx : 0 ≤ (nextZ A w room x).1) : sumS (stepZ A w room x) = sumS A + 1 := by
  rw [stepZ, if_pos hx]
  have key : (nextZ A w room x).1.toNat < A.length ∧ stg (nextZ A w room x).2 = stg (A.getD (nextZ A w room x).1.toNat 0) + 1 := by
    by_cases h1 : x < 0 ∨ (w : Int) + 1 < x
    · exfalso; rw [nextZ, if_pos h1] at hx; exact absurd hx (by decide)
    by_cases h2 : x = 0
    · by_cases h3 : (room : Int) ≤ (A.count 1 : Nat) ∨ (w : Int) + room + 1 ≤ alZ A
      · exfalso; rw [nextZ, if_neg h1, if_pos h2, if_pos h3] at hx; exact absurd hx (by decide)
      · have e : nextZ A w room x = (fstZ 0 A, 1) := by rw [nextZ, if_neg h1, if_pos h2, if_neg h3]
        rw [e] at hx ⊢
        obtain ⟨a, b⟩ := fst_get 0 A hx
        refine ⟨a, ?_⟩
        show stg 1 = stg (A.getD (fstZ 0 A).toNat 0) + 1
        rw [b]; rfl
    by_cases h4 : x = (w : Int) + 1
    · by_cases h5 : A.length ≤ A.count 3
      · exfalso; rw [nextZ, if_neg h1, if_neg h2, if_pos h4, if_pos h5] at hx; exact absurd hx (by decide)
      · by_cases h6 : A.getD (A.count 3) 0 = 2
        · have e : nextZ A w room x = (((A.count 3 : Nat) : Int), 3) := by rw [nextZ, if_neg h1, if_neg h2, if_pos h4, if_neg h5, if_pos h6]
          rw [e]
          refine ⟨by show ((A.count 3 : Nat) : Int).toNat < _; omega, ?_⟩
          show stg 3 = stg (A.getD ((A.count 3 : Nat) : Int).toNat 0) + 1
          rw [Int.toNat_natCast, h6]; rfl
        · exfalso; rw [nextZ, if_neg h1, if_neg h2, if_pos h4, if_neg h5, if_neg h6] at hx; exact absurd hx (by decide)
    by_cases h7 : 0 < A.count (-x)
    · have e : nextZ A w room x = (fstZ (-x) A, 2) := by rw [nextZ, if_neg h1, if_neg h2, if_neg h4, if_pos h7]
      rw [e] at hx ⊢
      obtain ⟨a, b⟩ := fst_get (-x) A hx
      refine ⟨a, ?_⟩
      show stg 2 = stg (A.getD (fstZ (-x) A).toNat 0) + 1
      rw [b]
      have : stg (-x) = 2 := by rw [stg, if_pos (by omega)]
      rw [this]; rfl
    · have e : nextZ A w room x = (fstZ 1 A, -x) := by rw [nextZ, if_neg h1, if_neg h2, if_neg h4, if_neg h7]
      rw [e] at hx ⊢
      obtain ⟨a, b⟩ := fst_get 1 A hx
      refine ⟨a, ?_⟩
      show stg (-x) = stg (A.getD (fstZ 1 A).toNat 0) + 1
      rw [b]
      have : stg (-x) = 2 := by rw [stg, if_pos (by omega)]
      rw [this]; rfl
  have := sumS_set (nextZ A w room x).2 A _ key.1
  omega
/-- as long as not all are collected, some actor may go on -/
theorem Sim.goes (h : Sim jobs w room A S) (hw : 1 ≤ w) (hr : 1 ≤ room) (ho : S.out < jobs) : ∃ x : Nat, x < w + 2 ∧ 0 ≤ (nextZ A w room x).1 := by
  have hl := h.len
  have hg := h.rg S.out ho
  have n3 : A.getD S.out 0 ≠ 3 := fun e => by have := (h.z3 _ ho).1 e; omega
  have one1 : 0 < A.count 1 → ∃ x : Nat, x < w + 2 ∧ 0 ≤ (nextZ A w room x).1 := fun hc => by
    refine ⟨1, by omega, ?_⟩
    rw [nextZ, if_neg (by omega), if_neg (by decide), if_neg (by omega)]
    by_cases h7 : 0 < A.count (-((1 : Nat) : Int))
    · rw [if_pos h7]; exact fst_some h7
    · rw [if_neg h7]; exact fst_some hc
  by_cases c1 : 0 < A.count 1
  · exact one1 c1
  rcases Int.lt_or_le (A.getD S.out 0) 0 with hn | hn
  · obtain ⟨k, hk⟩ : ∃ k : Nat, A.getD S.out 0 = -(k : Int) := ⟨(-(A.getD S.out 0)).toNat, by omega⟩
    refine ⟨k, by omega, ?_⟩
    have hp : 0 < A.count (-(k : Int)) := cnt_pos (i := S.out) (by omega) hk
    rw [nextZ, if_neg (by omega), if_neg (by omega), if_neg (by omega), if_pos hp]
    exact fst_some hp
  have h01 : A.getD S.out 0 = 0 ∨ A.getD S.out 0 = 1 ∨ A.getD S.out 0 = 2 := by omega
  rcases h01 with e | e | e
  · refine ⟨0, by omega, ?_⟩
    have h0 := (h.z0 _ ho).1 e
    have ha := h.alive
    have hon := h.on
    rw [nextZ, if_neg (by omega), if_pos (show ((0 : Nat) : Int) = 0 from rfl), if_neg (by rw [ha]; omega)]
    exact fst_some (cnt_pos (i := S.out) (by omega) e)
  · exact absurd (cnt_pos (i := S.out) (by omega) e) c1
  · refine ⟨w + 1, by omega, ?_⟩
    have h3 := h.c3
    rw [nextZ, if_neg (by omega), if_neg (by omega), if_pos (by omega), if_neg (by omega), h3, if_pos e]
    exact Int.natCast_nonneg _
theorem enF_mem {f : Nat → Bool} : ∀ (k i : Nat), i < (enF f k).length → ∃ x : Nat, x < k ∧ f x = true ∧ (enF f k).getD i 0 = x
  | 0, _, h => by cases h
  | k + 1, i, h => by
    rw [enF] at h ⊢
    by_cases e : f k = true
    · rw [if_pos e] at h ⊢
      rw [List.length_append, List.length_singleton] at h
      rcases Nat.lt_or_ge i (enF f k).length with hi | hi
      · obtain ⟨x, h1, h2, h3⟩ := enF_mem k i hi
        refine ⟨x, by omega, h2, ?_⟩
        rw [List.getD_eq_getElem?_getD, List.getElem?_append_left hi, ← List.getD_eq_getElem?_getD]; exact h3
      · refine ⟨k, Nat.lt_succ_self _, e, ?_⟩
        have : i = (enF f k).length := by omega
        rw [List.getD_eq_getElem?_getD, this, List.getElem?_append_right (Nat.le_refl _), Nat.sub_self]; rfl
    · rw [if_neg e] at h ⊢
      obtain ⟨x, h1, h2, h3⟩ := enF_mem k i h
      exact ⟨x, by omega, h2, h3⟩
theorem enF_pos {f : Nat → Bool} : ∀ (k x : Nat), x < k → f x = true → 0 < (enF f k).length
  | 0, _, h, _ => by cases h
  | k + 1, x, h, hf => by
    rw [enF]
    rcases Nat.lt_or_ge x k with hx | hx
    · have := enF_pos k x hx hf
      split
      · rw [List.length_append]; omega
      · exact this
    · have : x = k := by omega
      subst this
      rw [if_pos hf, List.length_append, List.length_singleton]; omega
theorem enF_nil {f : Nat → Bool} : ∀ (k : Nat), (∀ x, x < k → f x = false) → enF f k = []
  | 0, _ => rfl
  | k + 1, h => by rw [enF, if_neg (by rw [h k (Nat.lt_succ_self _)]; decide)]; exact enF_nil k fun x hx => h x (by omega)
theorem Sim.not (h : Sim jobs w room A S) {i : Nat} (hs : sumS A = i) (hi : i < 4 * jobs) : S.out < jobs := by
  have h1 := h.on
  have h2 := h.nj
  have hl := h.len
  rcases Nat.lt_or_ge S.out jobs with k | k
  · exact k
  exfalso
  have : ∀ (B : List Int), (∀ j, j < B.length → B.getD j 0 = 3) → sumS B = 4 * B.length := by
    intro B
    induction B with
    | nil => intro _; rfl
    | cons y r ih =>
      intro hB
      have e := ih fun j hj => hB (j + 1) (by rw [List.length_cons]; omega)
      have y3 : y = 3 := hB 0 (by rw [List.length_cons]; omega)
      show ((y :: r).map stg).sum = _
      rw [List.map_cons, List.sum_cons, List.length_cons, y3]
      unfold sumS at e
      rw [e]
      show 4 + 4 * r.length = _
      omega
  have := this A fun j hj => (h.z3 j (by omega)).2 (by omega)
  omega
theorem Sim.all (h : Sim jobs w room A S) (hs : sumS A = 4 * jobs) : S.out = jobs ∧ S.next = jobs ∧ S.ws.length = 0 ∧ mayL jobs room S = [] := by
  have h1 := h.on
  have h2 := h.nj
  have hl := h.len
  have a3 : ∀ i, i < jobs → 4 ≤ stg (A.getD i 0) := fun i hi => by
    rcases Nat.lt_or_ge (stg (A.getD i 0)) 4 with k | k
    · have := sumS_lt A i (by omega) k; omega
    · exact k
  have ho : S.out = jobs := by
    rcases Nat.lt_or_ge S.out jobs with k | k
    · exfalso
      have hg := h.rg _ k
      have n3 : A.getD S.out 0 ≠ 3 := fun e => by have := (h.z3 _ k).1 e; omega
      have := a3 _ k
      unfold stg at this
      split at this
      · omega
      split at this
      · omega
      split at this
      · omega
      split at this
      · omega
      · omega
    · omega
  refine ⟨ho, by omega, ?_, ?_⟩
  · rw [← h.c2, cnt_zero]
    intro i hi e
    have := a3 i (by omega)
    rw [e] at this
    exact absurd this (by decide)
  · rw [h.list]
    refine enF_nil _ fun x hx => ?_
    refine decide_eq_false fun hn => ?_
    have := step_sum hn
    have h3 := sumS_le (stepZ A (w : Int) (room : Int) x)
    rw [stepZ_len] at h3
    omega
theorem Sim.few (h : Sim jobs w room A S) : (S.ws.length : Int) ≤ (S.next : Int) - S.out := by
  have := cnt3_le A
  have h1 := h.len
  have h2 := h.c0
  have h3 := h.c3
  have h4 := h.c2
  have h5 := h.nj
  omega
end
end Go.Proofs.Ytmnbbpckglppjaa
