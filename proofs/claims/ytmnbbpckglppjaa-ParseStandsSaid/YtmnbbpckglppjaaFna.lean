/- Finding: plain laws. -/
import Derived.Test.YtmnbbpckglppjaaEng32
set_option linter.unusedVariables false
namespace Go.Proofs.Ytmnbbpckglppjaa
open Go Go.Eng

/-- how long bytes are alike from two places on, at most m -/
def lkn (d : List (BitVec 8)) : Nat → Nat → Nat → Nat
  | _, _, 0 => 0
  | p, q, m + 1 => if d.getD p 0 = d.getD q 0 then lkn d (p + 1) (q + 1) m + 1 else 0
theorem lkn_le (d : List (BitVec 8)) : ∀ (m p q : Nat), lkn d p q m ≤ m
  | 0, p, q => Nat.le_refl _
  | m + 1, p, q => by
    rw [lkn]
    split
    · have := lkn_le d m (p + 1) (q + 1); omega
    · omega
theorem lkn_eq (d : List (BitVec 8)) : ∀ (m p q j : Nat), j < lkn d p q m → d.getD (p + j) 0 = d.getD (q + j) 0
  | 0, p, q, j, h => by simp [lkn] at h
  | m + 1, p, q, j, h => by
    rw [lkn] at h
    split at h
    · rename_i e
      cases j with
      | zero => exact e
      | succ j =>
        have := lkn_eq d m (p + 1) (q + 1) j (by omega)
        rwa [show p + 1 + j = p + (j + 1) by omega, show q + 1 + j = q + (j + 1) by omega] at this
    · omega
theorem lkn_ne (d : List (BitVec 8)) : ∀ (m p q : Nat), lkn d p q m < m → d.getD (p + lkn d p q m) 0 ≠ d.getD (q + lkn d p q m) 0
  | 0, p, q, h => by omega
  | m + 1, p, q, h => by
    rw [lkn] at h ⊢
    split
    · rename_i e
      rw [if_pos e] at h
      have := lkn_ne d m (p + 1) (q + 1) (by omega)
      rwa [show p + 1 + lkn d (p + 1) (q + 1) m = p + (lkn d (p + 1) (q + 1) m + 1) by omega, show q + 1 + lkn d (p + 1) (q + 1) m = q + (lkn d (p + 1) (q + 1) m + 1) by omega] at this
    · rename_i e; exact e
/-- a step of the count -/
theorem lkn_split (d : List (BitVec 8)) : ∀ (n m p q : Nat), n ≤ m → (∀ j, j < n → d.getD (p + j) 0 = d.getD (q + j) 0) → lkn d p q m = n + lkn d (p + n) (q + n) (m - n)
  | 0, m, p, q, _, _ => by simp
  | n + 1, 0, p, q, h, _ => by omega
  | n + 1, m + 1, p, q, h, he => by
    rw [lkn, if_pos (by simpa using he 0 (by omega)), lkn_split d n m (p + 1) (q + 1) (by omega) (fun j hj => by
      have := he (j + 1) (by omega)
      rwa [show p + 1 + j = p + (j + 1) by omega, show q + 1 + j = q + (j + 1) by omega])]
    rw [show p + 1 + n = p + (n + 1) by omega, show q + 1 + n = q + (n + 1) by omega, show m + 1 - (n + 1) = m - n by omega]
    omega
theorem lkn_at (d : List (BitVec 8)) (n m p q : Nat) (h : n ≤ m) (he : ∀ j, j < n → d.getD (p + j) 0 = d.getD (q + j) 0) (hs : n = m ∨ d.getD (p + n) 0 ≠ d.getD (q + n) 0) : lkn d p q m = n := by
  rw [lkn_split d n m p q h he]
  rcases hs with hs | hs
  · rw [show m - n = 0 by omega]; rfl
  · cases hm : m - n with
    | zero => rfl
    | succ k => rw [lkn, if_neg hs]; rfl
theorem lkn_min (d : List (BitVec 8)) (m m' p q : Nat) (h : m' ≤ m) : lkn d p q m' = min (lkn d p q m) m' := by
  refine lkn_at d _ m' p q (Nat.min_le_right _ _) (fun j hj => lkn_eq d m p q j (by omega)) ?_
  rcases Nat.lt_or_ge (lkn d p q m) m' with h1 | h1
  · right
    rw [Nat.min_eq_left (by omega)]
    exact lkn_ne d m p q (by omega)
  · left; omega
/-- two bytes alike: at least two -/
theorem lkn_two (d : List (BitVec 8)) (m p q : Nat) (hm : 2 ≤ m) : 2 ≤ lkn d p q m ↔ d.getD p 0 = d.getD q 0 ∧ d.getD (p + 1) 0 = d.getD (q + 1) 0 := by
  obtain ⟨k, rfl⟩ : ∃ k, m = k + 2 := ⟨m - 2, by omega⟩
  rw [lkn]
  by_cases h1 : d.getD p 0 = d.getD q 0
  · rw [if_pos h1, lkn]
    by_cases h2 : d.getD (p + 1) 0 = d.getD (q + 1) 0
    · rw [if_pos h2]; exact ⟨fun _ => ⟨h1, h2⟩, fun _ => by omega⟩
    · rw [if_neg h2]; exact ⟨fun h => by omega, fun h => absurd h.2 h2⟩
  · rw [if_neg h1]; exact ⟨fun h => by omega, fun h => absurd h.1 h1⟩

/-- the best of the distances 1 .. D, the first of the greatest -/
def scanR (d : List (BitVec 8)) (p m : Nat) : Nat → Nat × Nat
  | 0 => (0, 0)
  | D + 1 => if (scanR d p m D).1 < lkn d p (p - (D + 1)) m then (lkn d p (p - (D + 1)) m, D + 1) else scanR d p m D
def fil (r : Nat × Nat) : Nat × Nat := if r.1 < 2 then (0, 0) else r
def bestR (d : List (BitVec 8)) (p m D : Nat) : Nat × Nat := fil (scanR d p m D)
theorem scanR_le (d : List (BitVec 8)) (p m : Nat) : ∀ D, (scanR d p m D).1 ≤ m
  | 0 => Nat.zero_le _
  | D + 1 => by
    rw [scanR]
    split
    · exact lkn_le d m _ _
    · exact scanR_le d p m D
theorem scanR_top (d : List (BitVec 8)) (p m D : Nat) (h : m ≤ (scanR d p m D).1) : ∀ k, scanR d p m (D + k) = scanR d p m D
  | 0 => rfl
  | k + 1 => by
    have ih := scanR_top d p m D h k
    rw [← Nat.add_assoc, scanR, ih, if_neg]
    have := lkn_le d m p (p - (D + k + 1))
    omega
theorem bestR_top (d : List (BitVec 8)) (p m D D' : Nat) (hm : 2 ≤ m) (h : m ≤ (bestR d p m D).1) (hD : D ≤ D') : bestR d p m D' = bestR d p m D := by
  obtain ⟨k, rfl⟩ : ∃ k, D' = D + k := ⟨D' - D, by omega⟩
  unfold bestR fil at h
  split at h
  · exact absurd h (by show ¬ m ≤ 0; omega)
  · rw [bestR, bestR, scanR_top d p m D h k]
/-- distances at which fewer than two bytes are alike don't count -/
theorem bestR_skip (d : List (BitVec 8)) (p m D : Nat) : ∀ k, (∀ j, j < k → lkn d p (p - (D + j + 1)) m < 2) → bestR d p m (D + k) = bestR d p m D
  | 0, _ => rfl
  | k + 1, h => by
    rw [← bestR_skip d p m D k fun j hj => h j (by omega)]
    have hk := h k (by omega)
    rw [← Nat.add_assoc, bestR, bestR, scanR]
    split
    · rename_i hl
      unfold fil
      simp only
      rw [if_pos hk, if_pos (by omega)]
    · rfl
theorem bestR_skip' (d : List (BitVec 8)) (p m D D' : Nat) (hD : D ≤ D') (h : ∀ j, D < j → j ≤ D' → lkn d p (p - j) m < 2) : bestR d p m D' = bestR d p m D := by
  obtain ⟨k, rfl⟩ : ∃ k, D' = D + k := ⟨D' - D, by omega⟩
  exact bestR_skip d p m D k fun j hj => h (D + j + 1) (by omega) (by omega)
theorem bestR_hit (d : List (BitVec 8)) (p m D : Nat) (h : 2 ≤ lkn d p (p - (D + 1)) m) :
    bestR d p m (D + 1) = if (bestR d p m D).1 < lkn d p (p - (D + 1)) m then (lkn d p (p - (D + 1)) m, D + 1) else bestR d p m D := by
  unfold bestR
  rw [scanR]
  by_cases hb : (scanR d p m D).1 < 2
  · rw [if_pos (by omega), show fil (scanR d p m D) = (0, 0) by rw [fil, if_pos hb], if_pos (by show 0 < _; omega), fil]
    simp only
    rw [if_neg (by omega)]
  · rw [show fil (scanR d p m D) = scanR d p m D by rw [fil, if_neg hb]]
    split
    · rw [fil]; simp only; rw [if_neg (by omega)]
    · rw [fil, if_neg hb]
/-- what the best is -/
theorem scanR_spec (d : List (BitVec 8)) (p m : Nat) : ∀ D, (∀ j, 1 ≤ j → j ≤ D → lkn d p (p - j) m ≤ (scanR d p m D).1) ∧
    ((scanR d p m D).1 = 0 ∧ scanR d p m D = (0, 0) ∨ 1 ≤ (scanR d p m D).2 ∧ (scanR d p m D).2 ≤ D ∧ (scanR d p m D).1 = lkn d p (p - (scanR d p m D).2) m ∧ ∀ j, 1 ≤ j → j < (scanR d p m D).2 → lkn d p (p - j) m < (scanR d p m D).1)
  | 0 => ⟨fun j h1 h2 => by omega, .inl ⟨rfl, rfl⟩⟩
  | D + 1 => by
    obtain ⟨h1, h2⟩ := scanR_spec d p m D
    rw [scanR]
    split
    · rename_i hl
      refine ⟨fun j g1 g2 => ?_, .inr ⟨by show 1 ≤ D + 1; omega, Nat.le_refl _, rfl, fun j g1 g2 => ?_⟩⟩
      · rcases Nat.lt_or_ge D j with g | g
        · have : j = D + 1 := by omega
          subst this; exact Nat.le_refl _
        · exact Nat.le_trans (h1 j g1 g) (Nat.le_of_lt hl)
      · have g2 : j < D + 1 := g2
        exact Nat.lt_of_le_of_lt (h1 j g1 (by omega)) hl
    · rename_i hl
      refine ⟨fun j g1 g2 => ?_, ?_⟩
      · rcases Nat.lt_or_ge D j with g | g
        · have : j = D + 1 := by omega
          subst this; omega
        · exact h1 j g1 g
      · rcases h2 with h2 | ⟨a, b, c, e⟩
        · exact .inl h2
        · exact .inr ⟨a, by omega, c, e⟩

/-- the places below n at which two bytes stand -/
def posN (d : List (BitVec 8)) (x y : BitVec 8) : Nat → List Nat
  | 0 => []
  | n + 1 => if d.getD n 0 = x ∧ d.getD (n + 1) 0 = y then posN d x y n ++ [n] else posN d x y n
theorem posN_mem (d : List (BitVec 8)) (x y : BitVec 8) : ∀ (n j : Nat), j ∈ posN d x y n ↔ j < n ∧ d.getD j 0 = x ∧ d.getD (j + 1) 0 = y
  | 0, j => by simp [posN]
  | n + 1, j => by
    rw [posN]
    by_cases h : d.getD n 0 = x ∧ d.getD (n + 1) 0 = y
    · rw [if_pos h, List.mem_append, List.mem_singleton, posN_mem d x y n j]
      constructor
      · rintro (⟨a, b⟩ | rfl)
        · exact ⟨by omega, b⟩
        · exact ⟨by omega, h⟩
      · rintro ⟨a, b⟩
        rcases Nat.lt_or_ge j n with g | g
        · exact .inl ⟨g, b⟩
        · exact .inr (by omega)
    · rw [if_neg h, posN_mem d x y n j]
      constructor
      · rintro ⟨a, b⟩; exact ⟨by omega, b⟩
      · rintro ⟨a, b⟩
        rcases Nat.lt_or_ge j n with g | g
        · exact ⟨g, b⟩
        · have : j = n := by omega
          subst this; exact absurd b h
theorem posN_len (d : List (BitVec 8)) (x y : BitVec 8) : ∀ n, (posN d x y n).length ≤ n
  | 0 => Nat.le_refl _
  | n + 1 => by
    have := posN_len d x y n
    rw [posN]
    split
    · rw [List.length_append, List.length_singleton]; omega
    · omega
/-- they rise -/
theorem posN_rise (d : List (BitVec 8)) (x y : BitVec 8) : ∀ n, (posN d x y n).Pairwise (· < ·)
  | 0 => by simp [posN]
  | n + 1 => by
    rw [posN]
    split
    · refine List.pairwise_append.2 ⟨posN_rise d x y n, by simp, fun a ha b hb => ?_⟩
      rw [List.mem_singleton] at hb
      subst hb
      exact ((posN_mem d x y b a).1 ha).1
    · exact posN_rise d x y n
theorem posN_lt (d : List (BitVec 8)) (x y : BitVec 8) (n : Nat) {i j : Nat} (hij : i < j) (hj : j < (posN d x y n).length) : (posN d x y n).getD i 0 < (posN d x y n).getD j 0 := by
  have h := List.pairwise_iff_getElem.1 (posN_rise d x y n) i j (by omega) hj hij
  rwa [List.getD_eq_getElem?_getD, List.getD_eq_getElem?_getD, List.getElem?_eq_getElem hj, List.getElem?_eq_getElem (show i < _ by omega)]
end Go.Proofs.Ytmnbbpckglppjaa
