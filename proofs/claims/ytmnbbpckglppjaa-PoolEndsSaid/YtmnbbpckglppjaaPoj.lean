/- Turns: the plain law: both pools go on alike. -/
import Derived.Test.YtmnbbpckglppjaaEng26
import Derived.Test.YtmnbbpckglppjaaPoh
set_option linter.unusedVariables false
set_option linter.unusedSimpArgs false
set_option maxRecDepth 100000
namespace Go.Proofs.Ytmnbbpckglppjaa
open Go Go.Eng

theorem set_get (A : List Int) (j : Nat) (t : Int) (h : j < A.length) (i : Nat) : (A.set j t).getD i 0 = if i = j then t else A.getD i 0 := by
  rw [List.getD_eq_getElem?_getD, List.getElem?_set, List.getD_eq_getElem?_getD]
  by_cases e : j = i
  · subst e
    rw [if_pos rfl, if_pos h, if_pos rfl]; rfl
  · rw [if_neg e, if_neg (fun h => e h.symm)]
theorem set_cnt (x t : Int) : ∀ (A : List Int) (j : Nat), j < A.length → (A.set j t).count x + (if A.getD j 0 = x then 1 else 0) = A.count x + (if t = x then 1 else 0)
  | [], _, h => by cases h
  | y :: r, 0, _ => by
    show (t :: r).count x + (if y = x then 1 else 0) = (y :: r).count x + _
    rw [List.count_cons, List.count_cons]
    simp only [beq_iff_eq]
    omega
  | y :: r, j + 1, h => by
    have ih := set_cnt x t r j (by rw [List.length_cons] at h; omega)
    show (y :: r.set j t).count x + (if r.getD j 0 = x then 1 else 0) = (y :: r).count x + _
    rw [List.count_cons, List.count_cons]
    omega
theorem cnt_pos {A : List Int} {x : Int} {i : Nat} (h : i < A.length) (hx : A.getD i 0 = x) : 0 < A.count x := by
  have : A[i] = x := by rw [← hx, List.getD_eq_getElem?_getD, List.getElem?_eq_getElem h]; rfl
  exact List.count_pos_iff.2 (by rw [← this]; exact List.getElem_mem h)
theorem cnt_zero {A : List Int} {x : Int} (h : ∀ i, i < A.length → A.getD i 0 ≠ x) : A.count x = 0 := by
  rw [List.count_eq_zero]
  intro hm
  obtain ⟨i, hi, e⟩ := List.getElem_of_mem hm
  exact h i hi (by rw [List.getD_eq_getElem?_getD, List.getElem?_eq_getElem hi, ← e]; rfl)
structure Sim (jobs w room : Nat) (A : List Int) (S : PS) : Prop where
  len : A.length = jobs
  bl : S.busy.length = w
  nj : S.next ≤ jobs
  on : S.out ≤ S.next
  z0 : ∀ i, i < jobs → (A.getD i 0 = 0 ↔ S.next ≤ i)
  z3 : ∀ i, i < jobs → (A.getD i 0 = 3 ↔ i < S.out)
  c0 : A.count 0 = jobs - S.next
  c3 : A.count 3 = S.out
  c1 : A.count 1 = S.q.length
  c2 : A.count 2 = S.ws.length
  qm : ∀ x, x ∈ S.q ↔ ∃ i : Nat, x = i ∧ i < jobs ∧ A.getD i 0 = 1
  qs : S.q.Pairwise (· < ·)
  wm : ∀ x, x ∈ S.ws ↔ ∃ i : Nat, x = i ∧ i < jobs ∧ A.getD i 0 = 2
  wn : S.ws.Nodup
  bm : ∀ k, k < w → (S.busy.getD k 0 = -1 ∧ ∀ i, i < jobs → A.getD i 0 ≠ -((k : Int) + 1)) ∨ ∃ j : Nat, S.busy.getD k 0 = j ∧ j < jobs ∧ A.getD j 0 = -((k : Int) + 1) ∧ ∀ i, i < jobs → A.getD i 0 = -((k : Int) + 1) → i = j
  rg : ∀ i, i < jobs → -(w : Int) ≤ A.getD i 0 ∧ A.getD i 0 ≤ 3
  al : (S.next : Int) - S.out ≤ w + room + 1
  ql : S.q.length ≤ room
def newS0 (w : Nat) : PS := ⟨0, [], List.replicate w (-1), [], 0⟩
section
variable {jobs w room : Nat} {A : List Int} {S : PS}
theorem Sim.alive (h : Sim jobs w room A S) : alZ A = (S.next : Int) - S.out := by
  have := h.nj
  rw [alZ, h.len, h.c0, h.c3]; omega
/-- split -/
theorem Sim.split (h : Sim jobs w room A S) : (nextZ A w room 0) = if canS jobs room S = true then ((S.next : Int), 1) else (-1, (nextZ A w room 0).2) := by
  have h1 := h.c1
  have h2 := h.alive
  have hnj := h.nj
  have hc : canS jobs room S = true ↔ S.next < jobs ∧ S.q.length < room ∧ (S.next : Int) - S.out ≤ (w : Int) + room := by
    rw [canS, Bool.and_eq_true, Bool.and_eq_true, decide_eq_true_eq, decide_eq_true_eq, decide_eq_true_eq, h.bl, and_assoc]
  have e0 : nextZ A w room 0 = if (room : Int) ≤ (A.count 1 : Nat) ∨ (w : Int) + room + 1 ≤ alZ A then (-1, 0) else (fstZ 0 A, 1) := by
    rw [nextZ, if_neg (by omega), if_pos rfl]
  rw [h1, h2] at e0
  by_cases hs : canS jobs room S = true
  · rw [if_pos hs]
    obtain ⟨a1, a2, a3⟩ := hc.1 hs
    rw [e0, if_neg (by omega), fst_at A 0 S.next (fun j hj => fun e => by have := (h.z0 j (by omega)).1 e; omega) (by rw [h.len]; exact a1) ((h.z0 _ a1).2 (Nat.le_refl _))]
  · rw [if_neg hs]
    have : (nextZ A w room 0).1 = -1 := by
      rw [e0]
      split
      · rfl
      · rename_i hg
        have : ¬ S.next < jobs := fun hn => hs (hc.2 ⟨hn, by omega, by omega⟩)
        show fstZ 0 A = -1
        exact fst_none A 0 fun j hj e => by
          rw [h.len] at hj
          have := (h.z0 j hj).1 e; omega
    exact Prod.ext this rfl
theorem Sim.split' (h : Sim jobs w room A S) (hs : canS jobs room S = true) : Sim jobs w room (A.set S.next 1) (splS S) := by
  have hc : S.next < jobs ∧ S.q.length < room ∧ (S.next : Int) - S.out ≤ (w : Int) + room := by
    rw [canS, Bool.and_eq_true, Bool.and_eq_true, decide_eq_true_eq, decide_eq_true_eq, decide_eq_true_eq, h.bl, and_assoc] at hs
    exact hs
  obtain ⟨a1, a2, a3⟩ := hc
  have hl : S.next < A.length := by rw [h.len]; exact a1
  have g := set_get A S.next 1 hl
  have cn := fun x => set_cnt x 1 A S.next hl
  have ho : A.getD S.next 0 = 0 := (h.z0 _ a1).2 (Nat.le_refl _)
  simp only [ho] at cn
  have hon := h.on
  have k0 := cn 0
  have k1 := cn 1
  have k2 := cn 2
  have k3 := cn 3
  simp at k0 k1 k2 k3
  have b0 := h.c0
  have b1 := h.c1
  have b2 := h.c2
  have b3 := h.c3
  refine ⟨by rw [List.length_set]; exact h.len, h.bl, a1, by show S.out ≤ S.next + 1; omega, fun i hi => ?_, fun i hi => ?_, by show _ = jobs - (S.next + 1); omega, by show _ = S.out; omega, by show _ = (S.q ++ [(S.next : Int)]).length; rw [List.length_append, List.length_singleton]; omega, by show _ = S.ws.length; omega, fun x => ?_, ?_, fun x => ?_, h.wn, fun k hk => ?_, fun i hi => ?_, by show ((S.next + 1 : Nat) : Int) - S.out ≤ _; omega, by show (S.q ++ [(S.next : Int)]).length ≤ room; rw [List.length_append, List.length_singleton]; omega⟩
  · show _ ↔ S.next + 1 ≤ i
    rw [g]; have := h.z0 i hi; split <;> omega
  · show _ ↔ i < S.out
    rw [g]; have := h.z3 i hi; split <;> omega
  · show x ∈ S.q ++ [(S.next : Int)] ↔ _
    rw [List.mem_append, List.mem_singleton, h.qm]
    constructor
    · rintro (⟨i, rfl, h1, h2⟩ | rfl)
      · exact ⟨i, rfl, h1, by rw [g, if_neg (fun e => by subst e; omega)]; exact h2⟩
      · exact ⟨S.next, rfl, a1, by rw [g, if_pos rfl]⟩
    · rintro ⟨i, rfl, h1, h2⟩
      rw [g] at h2
      split at h2
      · rename_i e; exact .inr (by rw [e])
      · exact .inl ⟨i, rfl, h1, h2⟩
  · show (S.q ++ [(S.next : Int)]).Pairwise (· < ·)
    refine List.pairwise_append.2 ⟨h.qs, List.pairwise_singleton _ _, fun x hx y hy => ?_⟩
    rw [List.mem_singleton] at hy
    subst hy
    obtain ⟨i, rfl, h1, h2⟩ := (h.qm x).1 hx
    have := (h.z0 i h1)
    omega
  · show x ∈ S.ws ↔ _
    rw [h.wm]
    constructor
    · rintro ⟨i, rfl, h1, h2⟩
      exact ⟨i, rfl, h1, by rw [g, if_neg (fun e => by subst e; omega)]; exact h2⟩
    · rintro ⟨i, rfl, h1, h2⟩
      rw [g] at h2
      split at h2
      · omega
      · exact ⟨i, rfl, h1, h2⟩
  · show (S.busy.getD k 0 = -1 ∧ _) ∨ _
    rcases h.bm k hk with ⟨h1, h2⟩ | ⟨j, h1, h2, h3, h4⟩
    · exact .inl ⟨h1, fun i hi => by rw [g]; split; omega; exact h2 i hi⟩
    · refine .inr ⟨j, h1, h2, by rw [g, if_neg (fun e => by subst e; omega)]; exact h3, fun i hi he => ?_⟩
      rw [g] at he
      split at he
      · omega
      · exact h4 i hi he
  · rw [g]; have := h.rg i hi; split <;> omega
/-- a worker that is busy -/
theorem Sim.busy (h : Sim jobs w room A S) (k j : Nat) (hk : k < w) (hj : S.busy.getD k 0 = j) (h2 : j < jobs) (h3 : A.getD j 0 = -((k : Int) + 1)) (h4 : ∀ i, i < jobs → A.getD i 0 = -((k : Int) + 1) → i = j) :
    nextZ A w room ((k : Int) + 1) = ((j : Int), 2) ∧ Sim jobs w room (A.set j 2) (wkS S k) := by
  have hl : j < A.length := by rw [h.len]; exact h2
  have hfs : fstZ (-((k : Int) + 1)) A = j := fst_at A _ j (fun i hi e => by have := h4 i (by omega) e; omega) hl h3
  have hcp : 0 < A.count (-((k : Int) + 1)) := cnt_pos hl h3
  refine ⟨by rw [nextZ, if_neg (by omega), if_neg (by omega), if_neg (by omega), if_pos hcp, hfs], ?_⟩
  have hne : S.busy.getD k 0 ≠ -1 := by rw [hj]; omega
  rw [wkS, if_neg hne, hj]
  have g := set_get A j 2 hl
  have cn := fun x => set_cnt x 2 A j hl
  simp only [h3] at cn
  have k0 := cn 0
  have k1 := cn 1
  have k2 := cn 2
  have k3 := cn 3
  rw [if_neg (by omega), if_neg (by omega)] at k0
  rw [if_neg (by omega), if_neg (by omega)] at k1
  rw [if_neg (by omega), if_pos rfl] at k2
  rw [if_neg (by omega), if_neg (by omega)] at k3
  have b0 := h.c0
  have b1 := h.c1
  have b2 := h.c2
  have b3 := h.c3
  have kb : k < S.busy.length := by rw [h.bl]; exact hk
  have gb := set_get S.busy k (-1) kb
  refine ⟨by rw [List.length_set]; exact h.len, by show (S.busy.set k (-1)).length = w; rw [List.length_set]; exact h.bl, h.nj, h.on, fun i hi => ?_, fun i hi => ?_, by show _ = jobs - S.next; omega, by show _ = S.out; omega, by show _ = S.q.length; omega, by show _ = (S.ws ++ [(j : Int)]).length; rw [List.length_append, List.length_singleton]; omega, fun x => ?_, h.qs, fun x => ?_, ?_, fun k' hk' => ?_, fun i hi => ?_, h.al, h.ql⟩
  · show _ ↔ S.next ≤ i
    rw [g]; have := h.z0 i hi; split
    · rename_i e; subst e; omega
    · exact this
  · show _ ↔ i < S.out
    rw [g]; have := h.z3 i hi; split
    · rename_i e; subst e; omega
    · exact this
  · show x ∈ S.q ↔ _
    rw [h.qm]
    constructor
    · rintro ⟨i, rfl, c1, c2⟩
      exact ⟨i, rfl, c1, by rw [g, if_neg (fun e => by subst e; omega)]; exact c2⟩
    · rintro ⟨i, rfl, c1, c2⟩
      rw [g] at c2
      split at c2
      · omega
      · exact ⟨i, rfl, c1, c2⟩
  · show x ∈ S.ws ++ [(j : Int)] ↔ _
    rw [List.mem_append, List.mem_singleton, h.wm]
    constructor
    · rintro (⟨i, rfl, c1, c2⟩ | rfl)
      · exact ⟨i, rfl, c1, by rw [g]; split; rfl; exact c2⟩
      · exact ⟨j, rfl, h2, by rw [g, if_pos rfl]⟩
    · rintro ⟨i, rfl, c1, c2⟩
      rw [g] at c2
      split at c2
      · rename_i e; exact .inr (by rw [e])
      · exact .inl ⟨i, rfl, c1, c2⟩
  · show (S.ws ++ [(j : Int)]).Nodup
    refine List.nodup_append.2 ⟨h.wn, by simp, fun a ha b hb e => ?_⟩
    rw [List.mem_singleton] at hb
    subst hb; subst e
    obtain ⟨i, e, c1, c2⟩ := (h.wm _).1 ha
    have : j = i := by omega
    subst this; omega
  · show ((S.busy.set k (-1)).getD k' 0 = -1 ∧ _) ∨ ∃ j' : Nat, (S.busy.set k (-1)).getD k' 0 = j' ∧ _
    by_cases e : k' = k
    · subst e
      refine .inl ⟨by rw [gb, if_pos rfl], fun i hi => ?_⟩
      rw [g]
      split
      · omega
      · rename_i hij
        exact fun he => hij (h4 i hi he)
    · rw [gb, if_neg e]
      rcases h.bm k' hk' with ⟨d1, d2⟩ | ⟨j', d1, d2, d3, d4⟩
      · exact .inl ⟨d1, fun i hi => by rw [g]; split; omega; exact d2 i hi⟩
      · refine .inr ⟨j', d1, d2, by rw [g, if_neg (fun e' => by subst e'; omega)]; exact d3, fun i hi he => ?_⟩
        rw [g] at he
        split at he
        · omega
        · exact d4 i hi he
  · rw [g]; have := h.rg i hi; split <;> omega
/-- a worker that is idle, and no job waits in the queue -/
theorem Sim.idle0 (h : Sim jobs w room A S) (k : Nat) (hk : k < w) (hb : S.busy.getD k 0 = -1) (hn : ∀ i, i < jobs → A.getD i 0 ≠ -((k : Int) + 1)) (hq : S.q = []) : nextZ A w room ((k : Int) + 1) = (-1, -((k : Int) + 1)) ∧ wkS S k = S := by
  have hc : A.count (-((k : Int) + 1)) = 0 := cnt_zero fun i hi => hn i (by rw [← h.len]; exact hi)
  have hf : fstZ 1 A = -1 := fst_none A 1 fun i hi e => by
    have : (i : Int) ∈ S.q := (h.qm _).2 ⟨i, rfl, by rw [← h.len]; exact hi, e⟩
    rw [hq] at this; cases this
  refine ⟨by rw [nextZ, if_neg (by omega), if_neg (by omega), if_neg (by omega), if_neg (by omega), hf], ?_⟩
  rw [wkS, if_pos hb, hq]
/-- a worker that is idle takes a job -/
theorem Sim.take (h : Sim jobs w room A S) (k : Nat) (hk : k < w) (hb : S.busy.getD k 0 = -1) (hn : ∀ i, i < jobs → A.getD i 0 ≠ -((k : Int) + 1)) (y : Int) (t : List Int) (hq : S.q = y :: t) :
    ∃ j : Nat, y = j ∧ j < jobs ∧ nextZ A w room ((k : Int) + 1) = ((j : Int), -((k : Int) + 1)) ∧ Sim jobs w room (A.set j (-((k : Int) + 1))) (wkS S k) := by
  obtain ⟨j, rfl, hj, hA⟩ := (h.qm y).1 (by rw [hq]; exact List.mem_cons_self ..)
  have hl : j < A.length := by rw [h.len]; exact hj
  have hqs := h.qs
  rw [hq, List.pairwise_cons] at hqs
  have hfs : fstZ 1 A = j := fst_at A 1 j (fun i hi e => by
    have : (i : Int) ∈ S.q := (h.qm _).2 ⟨i, rfl, by omega, e⟩
    rw [hq] at this
    rcases List.mem_cons.1 this with h' | h'
    · omega
    · have := hqs.1 _ h'; omega) hl hA
  have hc : A.count (-((k : Int) + 1)) = 0 := cnt_zero fun i hi => hn i (by rw [← h.len]; exact hi)
  refine ⟨j, rfl, hj, by rw [nextZ, if_neg (by omega), if_neg (by omega), if_neg (by omega), if_neg (by omega), hfs], ?_⟩
  have hw : wkS S k = ⟨S.next, t, S.busy.set k (j : Int), S.ws, S.out⟩ := by rw [wkS, if_pos hb, hq]
  rw [hw]
  have g := set_get A j (-((k : Int) + 1)) hl
  have cn := fun x => set_cnt x (-((k : Int) + 1)) A j hl
  simp only [hA] at cn
  have k0 := cn 0
  have k1 := cn 1
  have k2 := cn 2
  have k3 := cn 3
  rw [if_neg (by omega), if_neg (by omega)] at k0
  rw [if_pos rfl, if_neg (by omega)] at k1
  rw [if_neg (by omega), if_neg (by omega)] at k2
  rw [if_neg (by omega), if_neg (by omega)] at k3
  have b0 := h.c0
  have b1 := h.c1
  have b2 := h.c2
  have b3 := h.c3
  have bq := h.ql
  rw [hq, List.length_cons] at b1 bq
  have kb : k < S.busy.length := by rw [h.bl]; exact hk
  have gb := set_get S.busy k (j : Int) kb
  refine ⟨by rw [List.length_set]; exact h.len, by show (S.busy.set k (j : Int)).length = w; rw [List.length_set]; exact h.bl, h.nj, h.on, fun i hi => ?_, fun i hi => ?_, by show _ = jobs - S.next; omega, by show _ = S.out; omega, by show _ = t.length; omega, by show _ = S.ws.length; omega, fun x => ?_, hqs.2, fun x => ?_, h.wn, fun k' hk' => ?_, fun i hi => ?_, h.al, by show t.length ≤ room; omega⟩
  · show _ ↔ S.next ≤ i
    rw [g]; have := h.z0 i hi; split
    · rename_i e; subst e; omega
    · exact this
  · show _ ↔ i < S.out
    rw [g]; have := h.z3 i hi; split
    · rename_i e; subst e; omega
    · exact this
  · show x ∈ t ↔ _
    have hm := h.qm x
    rw [hq, List.mem_cons] at hm
    constructor
    · intro hx
      obtain ⟨i, rfl, c1, c2⟩ := hm.1 (.inr hx)
      have := hqs.1 _ hx
      exact ⟨i, rfl, c1, by rw [g, if_neg (by omega)]; exact c2⟩
    · rintro ⟨i, rfl, c1, c2⟩
      rw [g] at c2
      split at c2
      · omega
      · rcases hm.2 ⟨i, rfl, c1, c2⟩ with h' | h'
        · omega
        · exact h'
  · show x ∈ S.ws ↔ _
    rw [h.wm]
    constructor
    · rintro ⟨i, rfl, c1, c2⟩
      exact ⟨i, rfl, c1, by rw [g, if_neg (fun e => by subst e; omega)]; exact c2⟩
    · rintro ⟨i, rfl, c1, c2⟩
      rw [g] at c2
      split at c2
      · omega
      · exact ⟨i, rfl, c1, c2⟩
  · show ((S.busy.set k (j : Int)).getD k' 0 = -1 ∧ _) ∨ ∃ j' : Nat, (S.busy.set k (j : Int)).getD k' 0 = j' ∧ _
    by_cases e : k' = k
    · subst e
      refine .inr ⟨j, by rw [gb, if_pos rfl], hj, by rw [g, if_pos rfl], fun i hi he => ?_⟩
      rw [g] at he
      split at he
      · rename_i e; exact e
      · exact absurd he (hn i hi)
    · rw [gb, if_neg e]
      rcases h.bm k' hk' with ⟨d1, d2⟩ | ⟨j', d1, d2, d3, d4⟩
      · exact .inl ⟨d1, fun i hi => by rw [g]; split; omega; exact d2 i hi⟩
      · refine .inr ⟨j', d1, d2, by rw [g, if_neg (fun e' => by subst e'; omega)]; exact d3, fun i hi he => ?_⟩
        rw [g] at he
        split at he
        · omega
        · exact d4 i hi he
  · rw [g]; have := h.rg i hi; split <;> omega
/-- collect -/
theorem Sim.coll (h : Sim jobs w room A S) : ((S.out : Int) ∉ S.ws → nextZ A w room ((w : Int) + 1) = (-1, 0)) ∧ ((S.out : Int) ∈ S.ws → S.out < jobs ∧ nextZ A w room ((w : Int) + 1) = ((S.out : Int), 3) ∧ Sim jobs w room (A.set S.out 3) (colS S)) := by
  have hc := h.c3
  have e0 : nextZ A w room ((w : Int) + 1) = if A.length ≤ A.count 3 then ((-1 : Int), (0 : Int)) else if A.getD (A.count 3) 0 = 2 then (((A.count 3 : Nat) : Int), (3 : Int)) else ((-1 : Int), (0 : Int)) := by
    rw [nextZ, if_neg (by omega), if_neg (by omega), if_pos rfl]
  rw [hc, h.len] at e0
  refine ⟨fun hn => ?_, fun hm => ?_⟩
  · rw [e0]
    split
    · rfl
    · rename_i h1
      rw [if_neg (fun e => hn ((h.wm _).2 ⟨S.out, rfl, by omega, e⟩))]
  obtain ⟨i, e, hj, hA⟩ := (h.wm _).1 hm
  have : i = S.out := by omega
  subst this
  have hl : S.out < A.length := by rw [h.len]; exact hj
  refine ⟨hj, by rw [e0, if_neg (by omega), if_pos hA], ?_⟩
  have g := set_get A S.out 3 hl
  have cn := fun x => set_cnt x 3 A S.out hl
  simp only [hA] at cn
  have k0 := cn 0
  have k1 := cn 1
  have k2 := cn 2
  have k3 := cn 3
  simp at k0 k1 k2 k3
  have b0 := h.c0
  have b1 := h.c1
  have b2 := h.c2
  have b3 := h.c3
  have hz := h.z0 S.out hj
  have hal := h.al
  have hwl := wsE_len (S.out : Int) S.ws hm
  refine ⟨by rw [List.length_set]; exact h.len, h.bl, h.nj, by show S.out + 1 ≤ S.next; omega, fun i hi => ?_, fun i hi => ?_, by show _ = jobs - S.next; omega, by show _ = S.out + 1; omega, by show _ = S.q.length; omega, by show _ = (wsE S.ws S.out).length; omega, fun x => ?_, h.qs, fun x => ?_, wsE_nodup _ _ h.wn, fun k' hk' => ?_, fun i hi => ?_, by show (S.next : Int) - ((S.out + 1 : Nat) : Int) ≤ _; omega, h.ql⟩
  · show _ ↔ S.next ≤ i
    rw [g]; have := h.z0 i hi; split
    · rename_i e; subst e; omega
    · exact this
  · show _ ↔ i < S.out + 1
    rw [g]; have := h.z3 i hi; split
    · rename_i e; subst e; omega
    · omega
  · show x ∈ S.q ↔ _
    rw [h.qm]
    constructor
    · rintro ⟨i, rfl, c1, c2⟩
      exact ⟨i, rfl, c1, by rw [g, if_neg (fun e => by subst e; omega)]; exact c2⟩
    · rintro ⟨i, rfl, c1, c2⟩
      rw [g] at c2
      split at c2
      · omega
      · exact ⟨i, rfl, c1, c2⟩
  · show x ∈ wsE S.ws S.out ↔ _
    rw [wsE_mem _ _ _ h.wn, h.wm]
    constructor
    · rintro ⟨⟨i, rfl, c1, c2⟩, c3⟩
      exact ⟨i, rfl, c1, by rw [g, if_neg (by omega)]; exact c2⟩
    · rintro ⟨i, rfl, c1, c2⟩
      rw [g] at c2
      split at c2
      · omega
      · exact ⟨⟨i, rfl, c1, c2⟩, by omega⟩
  · show (S.busy.getD k' 0 = -1 ∧ _) ∨ _
    rcases h.bm k' hk' with ⟨d1, d2⟩ | ⟨j', d1, d2, d3, d4⟩
    · exact .inl ⟨d1, fun i hi => by rw [g]; split; omega; exact d2 i hi⟩
    · refine .inr ⟨j', d1, d2, by rw [g, if_neg (fun e' => by subst e'; omega)]; exact d3, fun i hi he => ?_⟩
      rw [g] at he
      split at he
      · omega
      · exact d4 i hi he
  · rw [g]; have := h.rg i hi; split <;> omega
/-- both go on alike -/
theorem Sim.step (h : Sim jobs w room A S) (x : Int) : (0 ≤ (nextZ A w room x).1 → mayP jobs room S x = ((nextZ A w room x).1, true) ∧ (nextZ A w room x).1 < jobs) ∧ ((nextZ A w room x).1 < 0 → mayP jobs room S x = (0, false)) ∧ Sim jobs w room (stepZ A w room x) (stpP jobs room S x) := by
  have hbl := h.bl
  rcases Decidable.em (x < 0 ∨ (w : Int) + 1 < x) with h1 | h1
  · have e : nextZ A w room x = (-1, 0) := by rw [nextZ, if_pos h1]
    have h1' : x < 0 ∨ (S.busy.length : Int) + 1 < x := by rw [hbl]; exact h1
    rw [stepZ, stpP, mayP, e, if_pos h1', if_pos h1', if_neg (by decide)]
    exact ⟨fun h => absurd h (by decide), fun _ => rfl, h⟩
  have h1' : ¬ (x < 0 ∨ (S.busy.length : Int) + 1 < x) := by rw [hbl]; exact h1
  rw [mayP, if_neg h1', stpP, if_neg h1']
  by_cases h2 : x = 0
  · subst h2
    rw [if_pos rfl, if_pos rfl]
    have hs := h.split
    by_cases hc : canS jobs room S = true
    · rw [if_pos hc] at hs
      have hn : S.next < jobs := by
        rw [canS, Bool.and_eq_true, Bool.and_eq_true, decide_eq_true_eq, decide_eq_true_eq, decide_eq_true_eq] at hc
        exact hc.1.1
      rw [stepZ, hs, if_pos (show (0 : Int) ≤ (S.next : Int) by omega), if_pos hc, if_pos hc, hc]
      exact ⟨fun _ => ⟨rfl, by show (S.next : Int) < jobs; omega⟩, fun hh => by have hh : (S.next : Int) < 0 := hh; omega, h.split' hc⟩
    · rw [if_neg hc] at hs
      rw [if_neg hc, if_neg hc, stepZ, hs, if_neg (show ¬ (0 : Int) ≤ -1 by decide)]
      have hc' : canS jobs room S = false := by simpa using hc
      rw [hc']
      exact ⟨fun hh => absurd hh (show ¬ (0 : Int) ≤ -1 by decide), fun _ => rfl, h⟩
  rw [if_neg h2, if_neg h2]
  by_cases h3 : x ≤ (w : Int)
  · obtain ⟨k, rfl⟩ : ∃ k : Nat, x = (k : Int) + 1 := ⟨(x - 1).toNat, by omega⟩
    have hk : k < w := by omega
    have ek : ((k : Int) + 1 - 1).toNat = k := by omega
    have h3' : (k : Int) + 1 ≤ (S.busy.length : Int) := by rw [hbl]; exact h3
    rw [if_pos h3', if_pos h3', ek]
    rcases h.bm k hk with ⟨b1, b2⟩ | ⟨j, b1, b2, b3, b4⟩
    · cases hq : S.q with
      | nil =>
        obtain ⟨e1, e2⟩ := h.idle0 k hk b1 b2 hq
        rw [stepZ, e1, if_neg (show ¬ (0 : Int) ≤ -1 by decide), e2]
        exact ⟨fun hh => absurd hh (show ¬ (0 : Int) ≤ -1 by decide), fun _ => by rw [wkJ, if_pos b1, hq], h⟩
      | cons y t =>
        obtain ⟨j, rfl, c1, c2, c3⟩ := h.take k hk b1 b2 y t hq
        rw [stepZ, c2, if_pos (show (0 : Int) ≤ (j : Int) by omega)]
        exact ⟨fun _ => ⟨by rw [wkJ, if_pos b1, hq], by show (j : Int) < jobs; omega⟩, fun hh => by have hh : (j : Int) < 0 := hh; omega, c3⟩
    · obtain ⟨c1, c2⟩ := h.busy k j hk b1 b2 b3 b4
      rw [stepZ, c1, if_pos (show (0 : Int) ≤ (j : Int) by omega)]
      exact ⟨fun _ => ⟨by rw [wkJ, if_neg (by rw [b1]; omega), b1], by show (j : Int) < jobs; omega⟩, fun hh => by have hh : (j : Int) < 0 := hh; omega, c2⟩
  · have hx : x = (w : Int) + 1 := by omega
    have h3' : ¬ x ≤ (S.busy.length : Int) := by rw [hbl]; exact h3
    rw [if_neg h3', if_neg h3']
    subst hx
    obtain ⟨c1, c2⟩ := h.coll
    by_cases hm : (S.out : Int) ∈ S.ws
    · obtain ⟨d1, d2, d3⟩ := c2 hm
      rw [stepZ, d2, if_pos (show (0 : Int) ≤ (S.out : Int) by omega), if_pos hm, if_pos hm, decide_eq_true hm]
      exact ⟨fun _ => ⟨rfl, by show (S.out : Int) < jobs; omega⟩, fun hh => by have hh : (S.out : Int) < 0 := hh; omega, d3⟩
    · rw [if_neg hm, if_neg hm, stepZ, c1 hm, if_neg (show ¬ (0 : Int) ≤ -1 by decide), decide_eq_false hm]
      exact ⟨fun hh => absurd hh (show ¬ (0 : Int) ≤ -1 by decide), fun _ => rfl, h⟩
theorem Sim.new (jobs w room : Nat) : Sim jobs w room (List.replicate jobs 0) (newS0 w) := by
  have g : ∀ i, i < jobs → (List.replicate jobs (0 : Int)).getD i 0 = 0 := fun i hi => by
    rw [List.getD_eq_getElem?_getD, List.getElem?_replicate, if_pos hi]; rfl
  have gb : ∀ k, k < w → (List.replicate w (-1 : Int)).getD k 0 = -1 := fun k hk => by
    rw [List.getD_eq_getElem?_getD, List.getElem?_replicate, if_pos hk]; rfl
  refine ⟨List.length_replicate, List.length_replicate, Nat.zero_le _, Nat.le_refl _, fun i hi => ?_, fun i hi => ?_, by rw [List.count_replicate_self]; rfl, ?_, ?_, ?_, fun x => ?_, List.Pairwise.nil, fun x => ?_, List.nodup_nil, fun k hk => .inl ⟨gb k hk, fun i hi => by rw [g i hi]; omega⟩, fun i hi => by rw [g i hi]; omega, by show ((0 : Nat) : Int) - ((0 : Nat) : Int) ≤ _; omega, Nat.zero_le _⟩
  · show _ ↔ 0 ≤ i
    rw [g i hi]; exact ⟨fun _ => Nat.zero_le _, fun _ => rfl⟩
  · show _ ↔ i < 0
    rw [g i hi]; omega
  · exact cnt_zero fun i hi => by rw [List.length_replicate] at hi; rw [g i hi]; decide
  · exact cnt_zero fun i hi => by rw [List.length_replicate] at hi; rw [g i hi]; decide
  · exact cnt_zero fun i hi => by rw [List.length_replicate] at hi; rw [g i hi]; decide
  · constructor
    · intro hx; cases hx
    · rintro ⟨i, rfl, c1, c2⟩
      rw [g i c1] at c2; omega
  · constructor
    · intro hx; cases hx
    · rintro ⟨i, rfl, c1, c2⟩
      rw [g i c1] at c2; omega
end
end Go.Proofs.Ytmnbbpckglppjaa
