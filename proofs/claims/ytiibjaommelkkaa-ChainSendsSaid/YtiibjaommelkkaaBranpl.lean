/- The branch filters' words: as numbers taken modulo, and told back. Plain. -/
import Derived.Test.YtiibjaommelkkaaBrancc
set_option linter.unusedVariables false
set_option linter.unusedSimpArgs false
set_option maxRecDepth 100000
namespace Go.Proofs.Ytiibjaommelkkaa
open Go Go.Eng

theorem and_field (x lo len : Nat) : x &&& ((2 ^ len - 1) * 2 ^ lo) = (x / 2 ^ lo % 2 ^ len) * 2 ^ lo := by
  apply Nat.eq_of_testBit_eq
  intro i
  rw [Nat.testBit_and, Nat.testBit_mul_two_pow, Nat.testBit_mul_two_pow, Nat.testBit_two_pow_sub_one, Nat.testBit_mod_two_pow, Nat.testBit_div_two_pow]
  by_cases h : lo ≤ i
  · simp only [h, decide_true, Bool.true_and, show i - lo + lo = i by omega]
    rw [Bool.and_comm]
  · simp [h]
theorem or_field (a b lo : Nat) (h : b < 2 ^ lo) : (a * 2 ^ lo) ||| b = a * 2 ^ lo + b := by
  rw [Nat.mul_comm]
  exact (Nat.two_pow_add_eq_or_of_lt h a).symm
theorem bfield (x : BitVec 32) (c : Nat) (lo len : Nat) (hc : c = (2 ^ len - 1) * 2 ^ lo) (hl : c < 2 ^ 32) : (x &&& BitVec.ofNat 32 c).toNat = (x.toNat / 2 ^ lo % 2 ^ len) * 2 ^ lo := by
  rw [BitVec.toNat_and, BitVec.toNat_ofNat, Nat.mod_eq_of_lt hl, hc, and_field]
/-- the word function of a filter -/
def turnW (id : Int) (w p : BitVec 32) (back : Bool) : BitVec 32 := if id = 5 then ppcW w p back else if id = 7 then armW w p back else if id = 9 then sparcW w p back else arm64W w p back
def signedI (n m all : Int) : Int := if n ≥ m / 2 then n + all - m else n
def turnI (id w place : Int) (back : Bool) : Int :=
  if id = 5 then (if w / 67108864 = 18 ∧ w % 4 = 1 then 67108864 * 18 + 4 * toldI (w / 4 % 16777216) (place / 4) back 16777216 + 1 else w)
  else if id = 7 then (if w / 16777216 = 235 then 16777216 * 235 + toldI (w % 16777216) (place / 4 + 2) back 16777216 else w)
  else if id = 9 then (if w / 4194304 = 256 ∨ w / 4194304 = 511 then 1073741824 + signedI (toldI (w % 8388608) (place / 4) back 8388608) 8388608 1073741824 else w)
  else if w / 67108864 = 37 then 67108864 * 37 + toldI (w % 67108864) (place / 4) back 67108864
  else if w / 2147483648 = 1 ∧ w / 16777216 % 32 = 16 ∧ ((w / 32 % 524288 * 4 + w / 536870912 % 4) + 131072) % 2097152 < 262144 then
    2147483648 + signedI (toldI ((w / 32 % 524288 * 4 + w / 536870912 % 4) % 262144) (place / 4096) back 262144) 262144 2097152 % 4 * 536870912 + 16 * 16777216
      + signedI (toldI ((w / 32 % 524288 * 4 + w / 536870912 % 4) % 262144) (place / 4096) back 262144) 262144 2097152 / 4 * 32 + w % 32
  else w
theorem addW_nat (n p : BitVec 32) (back : Bool) : ((addW n p back).toNat : Int) = (if back then (n.toNat : Int) - p.toNat else (n.toNat : Int) + p.toNat) % 4294967296 := by
  have h1 := n.isLt
  have h2 := p.isLt
  cases back
  · simp only [addW, Bool.false_eq_true, if_false, BitVec.toNat_add]; omega
  · simp only [addW, if_true, BitVec.toNat_sub]; omega
theorem bne_nat (x y : BitVec 32) : (x != y) = decide (x.toNat ≠ y.toNat) := by
  by_cases h : x = y
  · subst h; simp
  · have : x.toNat ≠ y.toNat := fun e => h (BitVec.eq_of_toNat_eq e)
    simp [h, this]
theorem beq_nat (x y : BitVec 32) : (x == y) = decide (x.toNat = y.toNat) := by
  by_cases h : x = y
  · subst h; simp
  · have : x.toNat ≠ y.toNat := fun e => h (BitVec.eq_of_toNat_eq e)
    simp [h, this]
theorem shr_nat (x : BitVec 32) (k : Nat) : (x >>> k).toNat = x.toNat / 2 ^ k := by rw [BitVec.toNat_ushiftRight, Nat.shiftRight_eq_div_pow]
theorem ppcW_nat (w p : BitVec 32) (back : Bool) (hp : p.toNat % 4 = 0) : ((ppcW w p back).toNat : Int) = turnI 5 w.toNat p.toNat back := by
  have h1 := w.isLt
  have h2 := p.isLt
  simp only [ppcW, turnI, if_true, bne_nat, shr_nat]
  have e3 : (w &&& 3#32).toNat = w.toNat % 4 := by rw [bfield w 3 0 2 (by decide) (by decide)]; omega
  rw [e3]
  by_cases hc : w.toNat / 67108864 = 18 ∧ w.toNat % 4 = 1
  · have hcI : (w.toNat : Int) / 67108864 = 18 ∧ (w.toNat : Int) % 4 = 1 := by omega
    rw [if_pos hcI, if_neg (by simp [hc.1, hc.2])]
    rw [BitVec.toNat_or, bfield _ 67108860 2 24 (by decide) (by decide)]
    have e1 : (w &&& ~~~ 67108860#32) = (w &&& 4227858432#32) ||| (w &&& 3#32) := by rw [← BitVec.and_or_distrib_left]; rfl
    rw [e1, BitVec.toNat_or, bfield w 4227858432 26 6 (by decide) (by decide), e3, hc.2]
    have hs := addW_nat w p back
    generalize (addW w p back).toNat = s at hs ⊢
    have e2 : w.toNat / 2 ^ 26 % 2 ^ 6 = 18 := by omega
    rw [e2]
    have e4 : (18 * 2 ^ 26 ||| 1) ||| (s / 2 ^ 2 % 2 ^ 24 * 2 ^ 2) = 18 * 2 ^ 26 + (s / 2 ^ 2 % 2 ^ 24 * 2 ^ 2 + 1) := by
      rw [Nat.or_assoc, Nat.or_comm 1, or_field _ 1 2 (by decide), or_field 18 _ 26 (by omega)]
    rw [e4]
    simp only [toldI]
    cases back
    · simp only [Bool.false_eq_true, if_false] at hs ⊢; omega
    · simp only [if_true] at hs ⊢; omega
  · have hcI : ¬ ((w.toNat : Int) / 67108864 = 18 ∧ (w.toNat : Int) % 4 = 1) := by omega
    rw [if_neg hcI, if_pos]
    simp only [Bool.or_eq_true, decide_eq_true_eq]
    show ¬ w.toNat / 67108864 = 18 ∨ ¬ w.toNat % 4 = 1
    omega
theorem armW_nat (w p : BitVec 32) (back : Bool) (hp : p.toNat % 4 = 0) : ((armW w p back).toNat : Int) = turnI 7 w.toNat p.toNat back := by
  have h1 := w.isLt
  have h2 := p.isLt
  simp only [armW, turnI, if_true, show ¬ ((7 : Int) = 5) by decide, if_false, bne_nat, shr_nat]
  by_cases hc : w.toNat / 16777216 = 235
  · have hcI : (w.toNat : Int) / 16777216 = 235 := by omega
    rw [if_pos hcI, if_neg (by simp [hc])]
    rw [BitVec.toNat_or, bfield w 4278190080 24 8 (by decide) (by decide), bfield _ 16777215 0 24 (by decide) (by decide)]
    have hs := addW_nat w ((p + 8#32) >>> 2) back
    rw [shr_nat, BitVec.toNat_add] at hs
    generalize (addW w ((p + 8#32) >>> 2) back).toNat = s at hs ⊢
    rw [or_field _ _ 24 (by omega)]
    have e8 : (8#32).toNat = 8 := rfl
    rw [e8] at hs
    simp only [toldI]
    cases back
    · simp only [Bool.false_eq_true, if_false] at hs ⊢; omega
    · simp only [if_true] at hs ⊢; omega
  · have hcI : ¬ ((w.toNat : Int) / 16777216 = 235) := by omega
    rw [if_neg hcI, if_pos]
    simp only [decide_eq_true_eq]
    exact hc
theorem sext_nat (x : BitVec 32) (k : Nat) (hk : 0 < k) (h : k < 32) : ((x <<< k).sshiftRight k).toNat = if x.toNat % 2 ^ (32 - k) < 2 ^ (31 - k) then x.toNat % 2 ^ (32 - k) else x.toNat % 2 ^ (32 - k) + 2 ^ 32 - 2 ^ (32 - k) := by
  have hx := x.isLt
  have e1 : (x <<< k).toNat = x.toNat % 2 ^ (32 - k) * 2 ^ k := by
    rw [BitVec.toNat_shiftLeft, Nat.shiftLeft_eq]
    have : 2 ^ 32 = 2 ^ (32 - k) * 2 ^ k := by rw [← Nat.pow_add]; congr 1; omega
    rw [this, Nat.mul_mod_mul_right]
  have hlt : x.toNat % 2 ^ (32 - k) < 2 ^ (32 - k) := Nat.mod_lt _ (Nat.two_pow_pos _)
  generalize x.toNat % 2 ^ (32 - k) = v at *
  have hpk : 2 ^ 32 = 2 ^ (32 - k) * 2 ^ k := by rw [← Nat.pow_add]; congr 1; omega
  have hpk1 : 2 ^ 31 = 2 ^ (31 - k) * 2 ^ k := by rw [← Nat.pow_add]; congr 1; omega
  have hp2 : 2 ^ (32 - k) = 2 * 2 ^ (31 - k) := by rw [show 32 - k = (31 - k) + 1 by omega, Nat.pow_succ, Nat.mul_comm]
  have hpos := Nat.two_pow_pos k
  have hmsb : (x <<< k).msb = decide (2 ^ (31 - k) ≤ v) := by
    rw [BitVec.msb_eq_decide, e1, show (32 - 1) = 31 from rfl, hpk1]
    congr 1
    rw [Nat.mul_le_mul_right_iff hpos]
  by_cases hv : v < 2 ^ (31 - k)
  · rw [if_pos hv, BitVec.sshiftRight_eq_of_msb_false (by rw [hmsb]; simp; omega), BitVec.toNat_ushiftRight, e1, Nat.shiftRight_eq_div_pow, Nat.mul_div_cancel _ hpos]
  · rw [if_neg hv, BitVec.sshiftRight_eq_of_msb_true (by rw [hmsb]; simp; omega), BitVec.toNat_not, BitVec.toNat_ushiftRight, BitVec.toNat_not, e1, Nat.shiftRight_eq_div_pow]
    have e3 : (2 ^ 32 - 1 - v * 2 ^ k) / 2 ^ k = 2 ^ (32 - k) - 1 - v := by
      rw [hpk]
      have : 2 ^ (32 - k) * 2 ^ k - 1 - v * 2 ^ k = (2 ^ (32 - k) - 1 - v) * 2 ^ k + (2 ^ k - 1) := by
        have h3 : (2 ^ (32 - k) - 1 - v) * 2 ^ k = 2 ^ (32 - k) * 2 ^ k - 2 ^ k - v * 2 ^ k := by rw [Nat.sub_mul, Nat.sub_mul, Nat.one_mul]
        have h4 : (v + 1) * 2 ^ k ≤ 2 ^ (32 - k) * 2 ^ k := Nat.mul_le_mul_right _ hlt
        rw [Nat.add_mul, Nat.one_mul] at h4
        omega
      rw [this, Nat.mul_comm, Nat.mul_add_div hpos, Nat.div_eq_of_lt (by omega)]
      omega
    rw [e3]
    have : 2 ^ (32 - k) ≤ 2 ^ 32 := Nat.pow_le_pow_right (by decide) (by omega)
    omega
end Go.Proofs.Ytiibjaommelkkaa
