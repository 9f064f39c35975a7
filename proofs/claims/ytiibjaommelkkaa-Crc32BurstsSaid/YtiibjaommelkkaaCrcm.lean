/- A register that is shifted bit by bit: what eight shifts do is told by the lowest byte alone, and goes through a table. -/
namespace Go.Proofs.Ytiibjaommelkkaa
set_option linter.unusedVariables false

/-- one shift of a register -/
def gs {w : Nat} (p r : BitVec w) : BitVec w := r >>> 1 ^^^ (if r.getLsbD 0 then p else 0#w)
def gn {w : Nat} (p : BitVec w) : Nat → BitVec w → BitVec w
  | 0, r => r
  | k + 1, r => gs p (gn p k r)
theorem gs_xor {w : Nat} (p u v : BitVec w) : gs p (u ^^^ v) = gs p u ^^^ gs p v := by
  unfold gs
  rw [BitVec.ushiftRight_xor_distrib, BitVec.getLsbD_xor]
  have h : (if (u.getLsbD 0 ^^ v.getLsbD 0) = true then p else 0#w) = (if u.getLsbD 0 = true then p else 0#w) ^^^ (if v.getLsbD 0 = true then p else 0#w) := by
    cases u.getLsbD 0 <;> cases v.getLsbD 0 <;> simp
  rw [h]
  ac_rfl
theorem gn_xor {w : Nat} (p : BitVec w) : ∀ (k : Nat) (u v : BitVec w), gn p k (u ^^^ v) = gn p k u ^^^ gn p k v
  | 0, u, v => rfl
  | k + 1, u, v => by simp only [gn, gn_xor p k, gs_xor]
theorem gn_high {w : Nat} (p : BitVec w) : ∀ (k : Nat) (r : BitVec w), (∀ j, j < k → r.getLsbD j = false) → gn p k r = r >>> k
  | 0, r, h => by simp [gn]
  | k + 1, r, h => by
    rw [gn, gn_high p k r fun j hj => h j (by omega), gs]
    have : (r >>> k).getLsbD 0 = false := by rw [BitVec.getLsbD_ushiftRight]; simpa using h k (by omega)
    rw [this]
    simp [← BitVec.shiftRight_add]
/-- a byte that comes to the register -/
theorem gn_byte {w : Nat} (hw : 8 ≤ w) (p r : BitVec w) (x : BitVec 8) : gn p 8 (r ^^^ x.setWidth w) = r >>> 8 ^^^ gn p 8 ((r.setWidth 8 ^^^ x).setWidth w) := by
  have h : r ^^^ x.setWidth w = (r ^^^ (r.setWidth 8).setWidth w) ^^^ (r.setWidth 8 ^^^ x).setWidth w := by
    rw [BitVec.setWidth_xor]
    rw [BitVec.xor_assoc, ← BitVec.xor_assoc ((r.setWidth 8).setWidth w), BitVec.xor_self, BitVec.zero_xor]
  rw [h, gn_xor]
  congr 1
  rw [gn_high]
  · apply BitVec.eq_of_getLsbD_eq
    intro i hi
    simp [BitVec.getLsbD_ushiftRight]
  · intro j hj
    simp only [BitVec.getLsbD_xor, BitVec.getLsbD_setWidth]
    simp [hj]
    intro h1
    omega
/-- the bit by bit way: a register and the byte that comes -/
def gb {w : Nat} (p : BitVec w) (q : BitVec w × BitVec 8) : BitVec w × BitVec 8 := ((if (q.1 ^^^ q.2.setWidth w).getLsbD 0 then q.1 >>> 1 ^^^ p else q.1 >>> 1), q.2 >>> 1)
def gbn {w : Nat} (p : BitVec w) : Nat → BitVec w × BitVec 8 → BitVec w × BitVec 8
  | 0, q => q
  | k + 1, q => gb p (gbn p k q)
theorem gbn_inv {w : Nat} (hw : 8 ≤ w) (p : BitVec w) (r : BitVec w) (x : BitVec 8) : ∀ k, (gbn p k (r, x)).2 = x >>> k ∧ (gbn p k (r, x)).1 ^^^ ((gbn p k (r, x)).2).setWidth w = gn p k (r ^^^ x.setWidth w)
  | 0 => by simp [gbn, gn]
  | k + 1 => by
    obtain ⟨h1, h2⟩ := gbn_inv hw p r x k
    simp only [gbn, gn, gb]
    generalize gbn p k (r, x) = q at *
    have hs : (q.2 >>> 1).setWidth w = q.2.setWidth w >>> 1 := by
      apply BitVec.eq_of_getLsbD_eq
      intro i hi
      simp only [BitVec.getLsbD_setWidth, BitVec.getLsbD_ushiftRight, hi, decide_true, Bool.true_and]
      by_cases h : 1 + i < w
      · simp [h]
      · have : q.2.getLsbD (1 + i) = false := BitVec.getLsbD_of_ge _ _ (by omega)
        simp [this]
    refine ⟨by rw [h1, ← BitVec.shiftRight_add], ?_⟩
    rw [← h2, gs, hs, BitVec.ushiftRight_xor_distrib]
    split
    · ac_rfl
    · simp
theorem gbn_eight {w : Nat} (hw : 8 ≤ w) (p : BitVec w) (r : BitVec w) (x : BitVec 8) : (gbn p 8 (r, x)).1 = gn p 8 (r ^^^ x.setWidth w) := by
  obtain ⟨h1, h2⟩ := gbn_inv hw p r x 8
  rw [← h2, h1]
  have : x >>> 8 = 0#8 := by
    apply BitVec.eq_of_toNat_eq
    simp [Nat.shiftRight_eq_div_pow]
    omega
  rw [this]
  simp
end Go.Proofs.Ytiibjaommelkkaa
