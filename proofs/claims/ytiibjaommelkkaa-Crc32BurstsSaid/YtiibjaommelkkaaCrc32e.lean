/- Bytes that are alike but in thirty-two bits that stand together have unlike crc32 registers. -/
import Derived.Test.YtiibjaommelkkaaCrc32b
set_option linter.unusedVariables false
set_option linter.unusedSimpArgs false
set_option maxRecDepth 100000
namespace Go.Proofs.Ytiibjaommelkkaa
open Go Go.Eng

theorem gs_zero (r : BitVec 32) (h : gs poly32 r = 0#32) : r = 0#32 := by
  unfold gs at h
  cases h0 : r.getLsbD 0 with
  | false =>
    rw [h0] at h
    simp only [Bool.false_eq_true, if_false, BitVec.xor_zero] at h
    apply BitVec.eq_of_getLsbD_eq
    intro i hi
    rw [BitVec.getLsbD_zero]
    cases i with
    | zero => exact h0
    | succ i =>
      have := congrArg (fun x : BitVec 32 => x.getLsbD i) h
      simp only [BitVec.getLsbD_ushiftRight, BitVec.getLsbD_zero] at this
      rwa [Nat.add_comm] at this
  | true =>
    rw [h0] at h
    have := congrArg (fun x : BitVec 32 => x.getLsbD 31) h
    have hp : poly32.getLsbD 31 = true := by kernel_rfl
    simp only [if_true, BitVec.getLsbD_xor, BitVec.getLsbD_ushiftRight, BitVec.getLsbD_zero, hp] at this
    have h32 : r.getLsbD (1 + 31) = false := BitVec.getLsbD_of_ge _ _ (by decide)
    rw [h32] at this
    simp at this
theorem gn_zero : ∀ (k : Nat) (r : BitVec 32), gn poly32 k r = 0#32 → r = 0#32
  | 0, r, h => h
  | k + 1, r, h => gn_zero k r (gs_zero _ h)
theorem gn_of_zero : ∀ (k : Nat), gn poly32 k 0#32 = 0#32
  | 0 => rfl
  | k + 1 => by rw [gn, gn_of_zero k]; kernel_rfl
/-- what differs, byte by byte -/
def diffs (a b : List (BitVec 8)) : List (BitVec 8) := List.zipWith (· ^^^ ·) a b
theorem fold_diff : ∀ (a b : List (BitVec 8)) (r s : BitVec 32), a.length = b.length → a.foldl byte32 r ^^^ b.foldl byte32 s = (diffs a b).foldl byte32 (r ^^^ s)
  | [], [], r, s, _ => rfl
  | x :: a, y :: b, r, s, h => by
    simp only [List.foldl_cons, diffs, List.zipWith_cons_cons]
    rw [fold_diff a b _ _ (by simpa using h)]
    unfold diffs
    congr 1
    unfold byte32
    rw [← gn_xor, BitVec.setWidth_xor]
    congr 1
    ac_rfl
  | [], y :: b, r, s, h => by simp at h
  | x :: a, [], r, s, h => by simp at h
theorem fold_zeros : ∀ (n : Nat) (r : BitVec 32), (List.replicate n (0 : BitVec 8)).foldl byte32 r = gn poly32 (8 * n) r
  | 0, r => rfl
  | n + 1, r => by
    rw [List.replicate_succ, List.foldl_cons, fold_zeros n]
    unfold byte32
    rw [show (0 : BitVec 8).setWidth 32 = 0#32 from rfl, BitVec.xor_zero, ← gn_add, Nat.mul_add, Nat.mul_one]
theorem word32_of (z : BitVec 64) : word32 ((z >>> 8).setWidth 8) ((z >>> 16).setWidth 8) ((z >>> 24).setWidth 8) ((z >>> 32).setWidth 8) = (z >>> 8).setWidth 32 := by
  have h := split32 ((z >>> 8).setWidth 32)
  rw [← word32_xor] at h
  rw [h]
  have g : ∀ j, j ≤ 24 → (((z >>> 8).setWidth 32) >>> j).setWidth 8 = (z >>> (8 + j)).setWidth 8 := fun j hj => by
    apply BitVec.eq_of_getLsbD_eq
    intro i hi
    rw [BitVec.getLsbD_setWidth, BitVec.getLsbD_setWidth, BitVec.getLsbD_ushiftRight, BitVec.getLsbD_setWidth, BitVec.getLsbD_ushiftRight, BitVec.getLsbD_ushiftRight]
    have h1 : decide (j + i < 32) = true := by simp; omega
    rw [h1, Bool.true_and, Nat.add_assoc]
  have g0 : ((z >>> 8).setWidth 32).setWidth 8 = (z >>> 8).setWidth 8 := by
    simp
  rw [g0, g 8 (by decide), g 16 (by decide), g 24 (by decide)]
/-- five bytes that bear 32 bits from the place s on -/
theorem burst (t : BitVec 32) (s : Nat) (hs : s < 8) (ht : t ≠ 0#32) (z : BitVec 64) (hz : z = t.setWidth 64 <<< s) :
    byte32 (byte32 (byte32 (byte32 (byte32 0#32 (z.setWidth 8)) ((z >>> 8).setWidth 8)) ((z >>> 16).setWidth 8)) ((z >>> 24).setWidth 8)) ((z >>> 32).setWidth 8) ≠ 0#32 := by
  rw [four_bytes, word32_of]
  have hb : ∀ j, z.getLsbD j = (decide (s ≤ j) && t.getLsbD (j - s)) := fun j => by
    rw [hz, BitVec.getLsbD_shiftLeft, BitVec.getLsbD_setWidth]
    by_cases h : j < s
    · have h1 : decide (j < s) = true := by simp [h]
      have h2 : decide (s ≤ j) = false := by simp; omega
      simp [h1, h2]
    · have h1 : decide (j < s) = false := by simp; omega
      have h2 : decide (s ≤ j) = true := by simp; omega
      by_cases h3 : j - s < 32
      · have h4 : decide (j < 64) = true := by simp; omega
        have h5 : decide (j - s < 64) = true := by simp; omega
        simp [h1, h2, h4, h5]
      · have h4 : t.getLsbD (j - s) = false := BitVec.getLsbD_of_ge _ _ (by omega)
        simp [h4]
  have key : byte32 0#32 (z.setWidth 8) ^^^ (z >>> 8).setWidth 32 = gn poly32 (8 - s) t := by
    obtain ⟨c, hc⟩ : ∃ c, c + s = 8 := ⟨8 - s, by omega⟩
    rw [show 8 - s = c by omega]
    unfold byte32
    rw [BitVec.zero_xor, ← hc, gn_add]
    have h1 : gn poly32 s (BitVec.setWidth 32 (BitVec.setWidth (c + s) z)) = BitVec.setWidth 32 (BitVec.setWidth (c + s) z) >>> s := by
      apply gn_high
      intro j hj
      rw [BitVec.getLsbD_setWidth, BitVec.getLsbD_setWidth, hb]
      have : decide (s ≤ j) = false := by simp; omega
      simp [this]
    rw [h1]
    have h2 : BitVec.setWidth 32 (z >>> (c + s)) = gn poly32 c (BitVec.setWidth 32 (z >>> (c + s)) <<< c) := by
      rw [gn_high]
      · apply BitVec.eq_of_getLsbD_eq
        intro i hi
        rw [BitVec.getLsbD_ushiftRight, BitVec.getLsbD_shiftLeft, BitVec.getLsbD_setWidth, BitVec.getLsbD_setWidth, BitVec.getLsbD_ushiftRight, BitVec.getLsbD_ushiftRight, hb]
        have k1 : decide (c + i < c) = false := by simp
        have k2 : decide (i < 32) = true := by simp [hi]
        rw [hb, show c + i - c = i by omega, k1, k2]
        by_cases h : c + i < 32
        · have k3 : decide (c + i < 32) = true := by simp [h]
          simp [k3]
        · have k4 : t.getLsbD (c + s + i - s) = false := BitVec.getLsbD_of_ge _ _ (by omega)
          simp [k4]
      · intro j hj
        rw [BitVec.getLsbD_shiftLeft]
        simp [hj]
    rw [h2, ← gn_xor]
    congr 1
    apply BitVec.eq_of_getLsbD_eq
    intro i hi
    rw [BitVec.getLsbD_xor, BitVec.getLsbD_ushiftRight, BitVec.getLsbD_shiftLeft, BitVec.getLsbD_setWidth, BitVec.getLsbD_setWidth, BitVec.getLsbD_setWidth, BitVec.getLsbD_ushiftRight, hb, hb]
    have k0 : decide (i < 32) = true := by simp [hi]
    have k1 : decide (s ≤ s + i) = true := by simp
    have k2 : s + i - s = i := by omega
    rw [k0, k1, k2]
    by_cases h : i < c
    · have k3 : decide (i < c) = true := by simp [h]
      have k4 : decide (s + i < c + s) = true := by simp; omega
      have k5 : decide (s + i < 32) = true := by simp; omega
      simp [k3, k4, k5]
    · have k3 : decide (i < c) = false := by simp; omega
      have k4 : decide (s + i < c + s) = false := by simp; omega
      have k5 : decide (i - c < 32) = true := by simp; omega
      have k6 : decide (s ≤ c + s + (i - c)) = true := by simp; omega
      have k7 : c + s + (i - c) - s = i := by omega
      simp only [k3, k4, k5, k6, k7]
      simp
  rw [key]
  intro h
  exact ht (gn_zero _ _ (gn_zero _ _ h))
/-- bytes, of which k from the place p on are changed -/
def chg (p k : Nat) (z : BitVec 64) (i : Nat) : BitVec 8 := if p ≤ i ∧ i < p + k then (z >>> (8 * (i - p))).setWidth 8 else 0#8
def pat (p k : Nat) (z : BitVec 64) (b : List (BitVec 8)) : List (BitVec 8) := (List.range b.length).map fun i => b.getD i 0 ^^^ chg p k z i
theorem pat_len (p k : Nat) (z : BitVec 64) (b : List (BitVec 8)) : (pat p k z b).length = b.length := by simp [pat]
theorem pat_0 (p : Nat) (z : BitVec 64) (b : List (BitVec 8)) : pat p 0 z b = b := by
  apply List.ext_getElem
  · simp [pat]
  · intro i h1 h2
    have h3 : ¬ (p ≤ i ∧ i < p + 0) := by omega
    simp only [pat, List.getElem_map, List.getElem_range, chg, if_neg h3, BitVec.xor_zero, List.getD_eq_getElem?_getD, List.getElem?_eq_getElem h2, Option.getD_some]
theorem pat_getD {p k : Nat} {z : BitVec 64} {b : List (BitVec 8)} (h : p + k < b.length) : (pat p k z b).getD (p + k) 0 = b.getD (p + k) 0 := by
  rw [List.getD_eq_getElem?_getD, List.getElem?_eq_getElem (by rw [pat_len]; exact h)]
  have h3 : ¬ (p ≤ p + k ∧ p + k < p + k) := by omega
  simp only [pat, List.getElem_map, List.getElem_range, Option.getD_some, chg, if_neg h3, BitVec.xor_zero]
theorem pat_set {p k : Nat} {z : BitVec 64} {b : List (BitVec 8)} (h : p + k < b.length) : (pat p k z b).set (p + k) (b.getD (p + k) 0 ^^^ (z >>> (8 * k)).setWidth 8) = pat p (k + 1) z b := by
  apply List.ext_getElem
  · simp [pat]
  · intro i h1 h2
    simp only [pat, List.getElem_set, List.getElem_map, List.getElem_range]
    split
    · rename_i e
      subst e
      have h3 : p ≤ p + k ∧ p + k < p + (k + 1) := by omega
      simp only [chg, if_pos h3, show p + k - p = k by omega]
    · rename_i e
      have h3 : (p ≤ i ∧ i < p + (k + 1)) ↔ (p ≤ i ∧ i < p + k) := by omega
      simp only [chg, h3]
def Fz (p : Nat) (z : BitVec 64) (n : Nat) : BitVec 32 := ((List.range n).map (chg p 5 z)).foldl byte32 0#32
theorem Fz_succ (p : Nat) (z : BitVec 64) (n : Nat) : Fz p z (n + 1) = byte32 (Fz p z n) (chg p 5 z n) := by
  simp [Fz, List.range_succ]
theorem byte32_0 (r : BitVec 32) : byte32 r 0#8 = gn poly32 8 r := by
  unfold byte32
  rw [show (0#8).setWidth 32 = 0#32 from rfl, BitVec.xor_zero]
theorem Fz_low (p : Nat) (z : BitVec 64) : ∀ n, n ≤ p → Fz p z n = 0#32
  | 0, _ => rfl
  | n + 1, h => by
    have h3 : ¬ (p ≤ n ∧ n < p + 5) := by omega
    rw [Fz_succ, Fz_low p z n (by omega), chg, if_neg h3, byte32_0, gn_of_zero]
theorem chg_at (p : Nat) (z : BitVec 64) (j : Nat) (h : j < 5) : chg p 5 z (p + j) = (z >>> (8 * j)).setWidth 8 := by
  have h3 : p ≤ p + j ∧ p + j < p + 5 := by omega
  rw [chg, if_pos h3, show p + j - p = j by omega]
theorem Fz_five (p : Nat) (z : BitVec 64) (t : BitVec 32) (s : Nat) (hs : s < 8) (ht : t ≠ 0#32) (hz : z = t.setWidth 64 <<< s) : Fz p z (p + 5) ≠ 0#32 := by
  have h := burst t s hs ht z hz
  have e0 := chg_at p z 0 (by decide)
  have e1 := chg_at p z 1 (by decide)
  have e2 := chg_at p z 2 (by decide)
  have e3 := chg_at p z 3 (by decide)
  have e4 := chg_at p z 4 (by decide)
  rw [Nat.mul_zero, BitVec.ushiftRight_zero, Nat.add_zero] at e0
  rw [show p + 5 = p + 4 + 1 from rfl, Fz_succ, show p + 4 = p + 3 + 1 from rfl, Fz_succ, show p + 3 = p + 2 + 1 from rfl, Fz_succ, show p + 2 = p + 1 + 1 from rfl, Fz_succ, Fz_succ, Fz_low p z p (Nat.le_refl _)]
  rw [e0, e1, show p + 1 + 1 = p + 2 from rfl, e2, show p + 2 + 1 = p + 3 from rfl, e3, show p + 3 + 1 = p + 4 from rfl, e4]
  exact h
theorem Fz_on (p : Nat) (z : BitVec 64) (h : Fz p z (p + 5) ≠ 0#32) : ∀ j, Fz p z (p + 5 + j) ≠ 0#32
  | 0 => h
  | j + 1 => fun e => by
    have h3 : ¬ (p ≤ p + 5 + j ∧ p + 5 + j < p + 5) := by omega
    rw [show p + 5 + (j + 1) = p + 5 + j + 1 from rfl, Fz_succ, chg, if_neg h3, byte32_0] at e
    exact Fz_on p z h j (gn_zero _ _ e)
theorem diffs_pat (p k : Nat) (z : BitVec 64) (b : List (BitVec 8)) : diffs (pat p k z b) b = (List.range b.length).map (chg p k z) := by
  apply List.ext_getElem
  · simp [diffs, pat]
  · intro i h1 h2
    have hi : i < b.length := by simpa using h2
    simp only [diffs, List.getElem_zipWith, pat, List.getElem_map, List.getElem_range]
    rw [List.getD_eq_getElem?_getD, List.getElem?_eq_getElem hi, Option.getD_some, BitVec.xor_comm, ← BitVec.xor_assoc, BitVec.xor_self, BitVec.zero_xor]
theorem bursts32 (b : List (BitVec 8)) (t : BitVec 32) (p s k : Nat) (hs : s < 8) (ht : t ≠ 0#32) (z : BitVec 64) (hz : z = t.setWidth 64 <<< s) (hl : 8 * p + s + 32 ≤ 8 * b.length) (hk : k = 5 ∨ (k < 5 ∧ p + k = b.length)) :
    on32 0 (pat p k z b) ≠ on32 0 b := by
  intro h
  unfold on32 at h
  have h1 := congrArg (fun x => ~~~ x) h
  simp only [BitVec.not_not] at h1
  have h2 := fold_diff (pat p k z b) b (~~~ 0) (~~~ 0) (pat_len p k z b)
  rw [h1, BitVec.xor_self, BitVec.xor_self, diffs_pat] at h2
  have h3 : (List.range b.length).map (chg p k z) = (List.range b.length).map (chg p 5 z) := by
    refine List.map_congr_left fun i hi => ?_
    have hi := List.mem_range.1 hi
    have : (p ≤ i ∧ i < p + k) ↔ (p ≤ i ∧ i < p + 5) := by omega
    simp only [chg, this]
  rw [h3] at h2
  have h4 : Fz p z b.length = 0#32 := h2.symm
  have h5 := Fz_five p z t s hs ht hz
  rcases Nat.lt_or_ge b.length (p + 5) with g | g
  · have hlen : b.length = p + 4 := by omega
    have hs0 : s = 0 := by omega
    subst hs0
    rw [hlen] at h4
    rw [show p + 5 = p + 4 + 1 from rfl, Fz_succ, h4, chg_at p z 4 (by decide), hz] at h5
    apply h5
    have : (((BitVec.setWidth 64 t <<< 0) >>> (8 * 4)).setWidth 8 : BitVec 8) = 0#8 := by
      apply BitVec.eq_of_getLsbD_eq
      intro i hi
      rw [BitVec.shiftLeft_zero, BitVec.getLsbD_setWidth, BitVec.getLsbD_ushiftRight, BitVec.getLsbD_setWidth, BitVec.getLsbD_zero]
      have : t.getLsbD (8 * 4 + i) = false := BitVec.getLsbD_of_ge _ _ (by omega)
      simp [this]
    rw [this, byte32_0, gn_of_zero]
  · obtain ⟨j, hj⟩ : ∃ j, b.length = p + 5 + j := ⟨b.length - (p + 5), by omega⟩
    rw [hj] at h4
    exact Fz_on p z h5 j h4
end Go.Proofs.Ytiibjaommelkkaa
