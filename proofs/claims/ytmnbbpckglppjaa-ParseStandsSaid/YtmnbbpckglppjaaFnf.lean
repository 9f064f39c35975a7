/- Finding: New; the rows of places. -/
import Derived.Test.YtmnbbpckglppjaaEng26
import Derived.Test.YtmnbbpckglppjaaFne
set_option linter.unusedVariables false
set_option linter.unusedSimpArgs false
set_option maxRecDepth 100000
namespace Go.Proofs.Ytmnbbpckglppjaa
open Go Go.Eng

/-- an entry: two bytes, where its row lies -/
structure Ent where
  x : BitVec 8
  y : BitVec 8
  n : Nat
  cp : Nat
  s : List Value
def rowE (d : List (BitVec 8)) (t : Nat) (e : Ent) : AObj := .cells (bvs .i64 (pv (posN d e.x e.y t)) ++ e.s.map AV.val) 3
def rowsE (d : List (BitVec 8)) (t : Nat) (E : List Ent) : Mem := E.map fun e => (e.n, rowE d t e)
def keysE (E : List Ent) : List Key := E.map fun e => .b e.x e.y
def valE (d : List (BitVec 8)) (t : Nat) (e : Ent) : AV := .sl e.n 0 (posN d e.x e.y t).length e.cp
def valsE (d : List (BitVec 8)) (t : Nat) (E : List Ent) : List AV := E.map (valE d t)
structure EntQ (d : List (BitVec 8)) (t : Nat) (E : List Ent) (N : Nat) : Prop where
  nn : (E.map (·.n)).Nodup
  nr : ∀ e ∈ E, 4 ≤ e.n ∧ e.n < N
  kn : (keysE E).Nodup
  cp : ∀ e ∈ E, (posN d e.x e.y t).length + e.s.length = e.cp ∧ e.cp ≤ maxI
  no : ∀ x y, Key.b x y ∉ keysE E → posN d x y t = []
  n4 : 4 ≤ N
theorem look_rowsE (d : List (BitVec 8)) (t : Nat) : ∀ {E : List Ent}, (E.map (·.n)).Nodup → ∀ e ∈ E, Eng.look (rowsE d t E) e.n = some (rowE d t e)
  | [], _, e, h => by cases h
  | e0 :: E, hn, e, h => by
    rw [List.map_cons, List.nodup_cons] at hn
    show Eng.look ((e0.n, rowE d t e0) :: rowsE d t E) e.n = _
    rw [look_cons]
    rcases List.mem_cons.1 h with h | h
    · subst h; rw [if_pos rfl]
    · have : e0.n ≠ e.n := fun he => hn.1 (by rw [he]; exact List.mem_map_of_mem h)
      rw [if_neg this]
      exact look_rowsE d t hn.2 e h
theorem xidx_none (a : Key) : ∀ l : List Key, l.length ≤ xidx a l → a ∉ l
  | [], _ => by simp
  | k :: r, h => by
    unfold xidx at h
    split at h
    · simp at h
    · rename_i hk
      simp only [List.length_cons] at h
      intro hm
      rcases List.mem_cons.1 hm with hm | hm
      · exact hk hm.symm
      · exact xidx_none a r (by omega) hm
theorem keysE_len (E : List Ent) : (keysE E).length = E.length := by simp [keysE]
theorem found {E : List Ent} {x y : BitVec 8} (h : xidx (.b x y) (keysE E) < (keysE E).length) : ∃ e, E[xidx (.b x y) (keysE E)]? = some e ∧ e.x = x ∧ e.y = y := by
  have h2 := xidx_get _ _ h
  have hl : xidx (.b x y) (keysE E) < E.length := by rw [keysE_len] at h; exact h
  obtain ⟨j, hj⟩ : ∃ j, j = xidx (.b x y) (keysE E) := ⟨_, rfl⟩
  rw [← hj] at h2 hl ⊢
  unfold keysE at h2
  rw [List.getElem?_map, List.getElem?_eq_getElem hl] at h2
  simp only [Option.map_some, Option.some.injEq, Key.b.injEq] at h2
  exact ⟨E[j], List.getElem?_eq_getElem hl, h2.1, h2.2⟩
theorem posN_succ_ne {d : List (BitVec 8)} {x y : BitVec 8} {t : Nat} (h : Key.b x y ≠ Key.b (d.getD t 0) (d.getD (t + 1) 0)) : posN d x y (t + 1) = posN d x y t := by
  rw [posN, if_neg]
  rintro ⟨h1, h2⟩
  exact h (by rw [h1, h2])
theorem posN_succ_eq (d : List (BitVec 8)) (t : Nat) : posN d (d.getD t 0) (d.getD (t + 1) 0) (t + 1) = posN d (d.getD t 0) (d.getD (t + 1) 0) t ++ [t] := by
  rw [posN, if_pos ⟨rfl, rfl⟩]
theorem pv_app (l l' : List Nat) : pv (l ++ l') = pv l ++ pv l' := by simp [pv]
/-- the entries behind a place's pair, that stood -/
theorem EntQ.upd {d : List (BitVec 8)} {t : Nat} {E : List Ent} {N : Nat} (q : EntQ d t E N) {j : Nat} {e : Ent} (hj : E[j]? = some e) (hx : e.x = d.getD t 0) (hy : e.y = d.getD (t + 1) 0) {n' cp' N' : Nat} {s' : List Value} (hn : N ≤ n') (hN : n' < N')
    (hc : (posN d e.x e.y (t + 1)).length + s'.length = cp') (hm : cp' ≤ maxI) : EntQ d (t + 1) (E.set j { e with n := n', cp := cp', s := s' }) N' := by
  have hjl : j < E.length := (List.getElem?_eq_some_iff.1 hj).1
  have hk : keysE (E.set j { e with n := n', cp := cp', s := s' }) = keysE E := by
    unfold keysE
    rw [List.map_set]
    apply List.ext_getElem?
    intro i
    rw [List.getElem?_set]
    by_cases h : j = i
    · subst h
      rw [if_pos rfl, if_pos (by simpa using hjl), List.getElem?_map, hj]; rfl
    · rw [if_neg h]
  have hmem : ∀ f ∈ E.set j { e with n := n', cp := cp', s := s' }, f = { e with n := n', cp := cp', s := s' } ∨ ∃ i, i ≠ j ∧ E[i]? = some f := fun f hf => by
    obtain ⟨i, hi, e1⟩ := List.getElem_of_mem hf
    have e2 := List.getElem?_eq_getElem hi
    rw [e1, List.getElem?_set] at e2
    by_cases h : j = i
    · rw [if_pos h, if_pos hjl] at e2
      exact .inl (by cases e2; rfl)
    · rw [if_neg h] at e2
      exact .inr ⟨i, fun g => h g.symm, e2⟩
  have hoth : ∀ i f, i ≠ j → E[i]? = some f → posN d f.x f.y (t + 1) = posN d f.x f.y t := fun i f hi hf => by
    refine posN_succ_ne fun hkk => hi ?_
    have hil : i < E.length := (List.getElem?_eq_some_iff.1 hf).1
    have e1 : (keysE E)[i]? = some (Key.b (d.getD t 0) (d.getD (t + 1) 0)) := by unfold keysE; rw [List.getElem?_map, hf]; exact congrArg some hkk
    have e2 : (keysE E)[j]? = some (Key.b (d.getD t 0) (d.getD (t + 1) 0)) := by unfold keysE; rw [List.getElem?_map, hj]; exact congrArg some (show Key.b e.x e.y = _ by rw [hx, hy])
    exact (List.getElem?_inj (by rw [keysE_len]; exact hil) q.kn).1 (e1.trans e2.symm)
  refine ⟨?_, fun f hf => ?_, by rw [hk]; exact q.kn, fun f hf => ?_, fun x y hno => ?_, by have := q.n4; omega⟩
  · rw [List.map_set]
    show ((E.map (·.n)).set j n').Nodup
    have hna : ∀ i (hi : i < (E.map (·.n)).length), (E.map (·.n))[i] ≠ n' := fun i hi h => by
      rw [List.getElem_map] at h
      rw [List.length_map] at hi
      have := (q.nr _ (List.getElem_mem hi)).2
      omega
    refine List.pairwise_iff_getElem.2 fun a b ha hb hab => ?_
    rw [List.length_set] at ha hb
    rw [List.getElem_set, List.getElem_set]
    by_cases h1 : j = a
    · have h2 : ¬ j = b := by omega
      rw [if_pos h1, if_neg h2]
      exact fun h => hna b hb h.symm
    · rw [if_neg h1]
      by_cases h2 : j = b
      · rw [if_pos h2]
        exact hna a ha
      · rw [if_neg h2]
        exact List.pairwise_iff_getElem.1 q.nn a b ha hb hab
  · rcases hmem f hf with rfl | ⟨i, hi, hf⟩
    · have := q.n4; exact ⟨by show 4 ≤ n'; omega, hN⟩
    · have := q.nr f (List.mem_of_getElem? hf)
      omega
  · rcases hmem f hf with rfl | ⟨i, hi, hf⟩
    · exact ⟨hc, hm⟩
    · rw [hoth i f hi hf]
      exact q.cp f (List.mem_of_getElem? hf)
  · rw [hk] at hno
    rw [posN_succ_ne, q.no x y hno]
    intro h
    refine hno (h ▸ ?_)
    rw [← hx, ← hy]
    exact List.mem_map_of_mem (List.mem_of_getElem? hj)
/-- a pair that comes first -/
theorem EntQ.add {d : List (BitVec 8)} {t : Nat} {E : List Ent} {N : Nat} (q : EntQ d t E N) (hno : Key.b (d.getD t 0) (d.getD (t + 1) 0) ∉ keysE E) {n' cp' N' : Nat} {s' : List Value} (hn : N ≤ n') (hN : n' < N')
    (hc : 1 + s'.length = cp') (hm : cp' ≤ maxI) : EntQ d (t + 1) (E ++ [⟨d.getD t 0, d.getD (t + 1) 0, n', cp', s'⟩]) N' := by
  have hk : keysE (E ++ [⟨d.getD t 0, d.getD (t + 1) 0, n', cp', s'⟩]) = keysE E ++ [Key.b (d.getD t 0) (d.getD (t + 1) 0)] := by simp [keysE]
  have hoth : ∀ f ∈ E, posN d f.x f.y (t + 1) = posN d f.x f.y t := fun f hf => by
    refine posN_succ_ne fun hkk => hno ?_
    rw [← hkk]
    exact List.mem_map_of_mem hf
  refine ⟨?_, fun f hf => ?_, ?_, fun f hf => ?_, fun x y h => ?_, by have := q.n4; omega⟩
  · rw [List.map_append, List.map_cons, List.map_nil]
    refine List.nodup_append.2 ⟨q.nn, by simp, fun a ha b hb => ?_⟩
    rw [List.mem_singleton] at hb
    obtain ⟨f, hf, rfl⟩ := List.mem_map.1 ha
    have := (q.nr f hf).2
    have hb : b = n' := hb
    omega
  · rcases List.mem_append.1 hf with hf | hf
    · have := q.nr f hf; omega
    · rw [List.mem_singleton] at hf
      subst hf
      have := q.n4
      exact ⟨by show 4 ≤ n'; omega, hN⟩
  · rw [hk]
    refine List.nodup_append.2 ⟨q.kn, by simp, fun a ha b hb => ?_⟩
    rw [List.mem_singleton] at hb
    subst hb
    exact fun h => hno (h ▸ ha)
  · rcases List.mem_append.1 hf with hf | hf
    · rw [hoth f hf]; exact q.cp f hf
    · rw [List.mem_singleton] at hf
      subst hf
      refine ⟨?_, hm⟩
      show (posN d (d.getD t 0) (d.getD (t + 1) 0) (t + 1)).length + s'.length = cp'
      rw [posN_succ_eq, q.no _ _ hno]
      exact hc
  · rw [hk] at h
    have h1 : Key.b x y ∉ keysE E := fun g => h (List.mem_append_left _ g)
    have h2 : Key.b x y ≠ Key.b (d.getD t 0) (d.getD (t + 1) 0) := fun g => h (by rw [g]; exact List.mem_append_right _ (by simp))
    rw [posN_succ_ne h2, q.no x y h1]
end Go.Proofs.Ytmnbbpckglppjaa
