/- The branch filters' words of two machines more: as numbers taken modulo; and all told back. Plain. -/
import Derived.Test.YtiibjaommelkkaaBranpl
set_option linter.unusedVariables false
set_option linter.unusedSimpArgs false
set_option maxRecDepth 100000
namespace Go.Proofs.Ytiibjaommelkkaa
open Go Go.Eng

theorem sparcW_nat (w p : BitVec 32) (back : Bool) (hp : p.toNat % 4 = 0) : ((sparcW w p back).toNat : Int) = turnI 9 w.toNat p.toNat back := by
  have h1 := w.isLt
  have h2 := p.isLt
  simp only [sparcW, turnI, if_true, show ¬ ((9 : Int) = 5) by decide, show ¬ ((9 : Int) = 7) by decide, if_false, bne_nat, shr_nat]
  by_cases hc : w.toNat / 4194304 = 256 ∨ w.toNat / 4194304 = 511
  · have hcI : (w.toNat : Int) / 4194304 = 256 ∨ (w.toNat : Int) / 4194304 = 511 := by omega
    rw [if_pos hcI, if_neg (by
      simp only [Bool.and_eq_true, decide_eq_true_eq]
      show ¬ (¬ w.toNat / 4194304 = 256 ∧ ¬ w.toNat / 4194304 = 511)
      omega)]
    rw [BitVec.toNat_or, bfield _ 1073741823 0 30 (by decide) (by decide), sext_nat _ 9 (by decide) (by decide)]
    have hs := addW_nat w (p >>> 2) back
    rw [shr_nat] at hs
    generalize (addW w (p >>> 2) back).toNat = s at hs ⊢
    have e4 : ∀ x : Nat, x < 2 ^ 30 → (1073741824#32).toNat ||| x = 2 ^ 30 + x := fun x hx => by
      have := or_field 1 x 30 hx
      simpa using this
    rw [e4 _ (by omega)]
    simp only [toldI, signedI]
    cases back
    · simp only [Bool.false_eq_true, if_false] at hs ⊢
      split <;> split <;> omega
    · simp only [if_true] at hs ⊢
      split <;> split <;> omega
  · have hcI : ¬ ((w.toNat : Int) / 4194304 = 256 ∨ (w.toNat : Int) / 4194304 = 511) := by omega
    rw [if_neg hcI, if_pos]
    simp only [Bool.and_eq_true, decide_eq_true_eq]
    show ¬ w.toNat / 4194304 = 256 ∧ ¬ w.toNat / 4194304 = 511
    omega
theorem n64_nat (w : BitVec 32) : (n64 w).toNat = w.toNat / 32 % 524288 * 4 + w.toNat / 536870912 % 4 := by
  have h1 := w.isLt
  unfold n64
  rw [BitVec.toNat_or, bfield _ 3 0 2 (by decide) (by decide), bfield _ 2097148 2 19 (by decide) (by decide), shr_nat, shr_nat, Nat.or_comm, or_field _ _ 2 (by omega)]
  omega
theorem fits64 (k : Nat) : (k + 131072) % 2097152 < 262144 ↔ (k + 131072) / 262144 % 8 = 0 := by omega
theorem fits64I (k : Nat) : ((k : Int) + 131072) % 2097152 < 262144 ↔ (k + 131072) / 262144 % 8 = 0 := by
  rw [← fits64]; omega
theorem top64 (a b : Nat) (ha : a < 2) (hb : b < 32) : a * 2147483648 + b * 16777216 = 2415919104 ↔ a = 1 ∧ b = 16 := by omega
/-- the sum of the parts -/
theorem sum64 (w k p v s : Nat) (back : Bool) (hw : w < 4294967296) (h1 : w / 2147483648 = 1) (h2 : w / 16777216 % 32 = 16)
    (hs : (s : Int) = (if back then (k : Int) - ((p / 2 ^ 12 : Nat) : Int) else (k : Int) + ((p / 2 ^ 12 : Nat) : Int)) % 4294967296)
    (hsx : v = if s % 2 ^ (32 - 14) < 2 ^ (31 - 14) then s % 2 ^ (32 - 14) else s % 2 ^ (32 - 14) + 2 ^ 32 - 2 ^ (32 - 14)) :
    ((v / 4 % 524288 * 2 ^ 5 : Nat) : Int) = signedI (toldI ((k : Int) % 262144) ((p : Int) / 4096) back 262144) 262144 2097152 / 4 * 32 ∧
    ((v % 4 * 2 ^ 29 : Nat) : Int) = signedI (toldI ((k : Int) % 262144) ((p : Int) / 4096) back 262144) 262144 2097152 % 4 * 536870912 := by
  have e : toldI ((k : Int) % 262144) ((p : Int) / 4096) back 262144 = ((s % 262144 : Nat) : Int) := by
    unfold toldI
    cases back
    · simp only [Bool.false_eq_true, if_false] at hs ⊢; omega
    · simp only [if_true] at hs ⊢; omega
  rw [e]
  clear e hs h1 h2 hw
  unfold signedI
  have hlt : s % 262144 < 262144 := Nat.mod_lt _ (by decide)
  rw [show (2 : Nat) ^ (32 - 14) = 262144 from rfl, show (2 : Nat) ^ (31 - 14) = 131072 from rfl, show (2 : Nat) ^ 32 = 4294967296 from rfl] at hsx
  generalize s % 262144 = y at *
  by_cases hy : y < 131072
  · rw [if_pos hy] at hsx; rw [if_neg (by omega)]; omega
  · rw [if_neg hy] at hsx; rw [if_pos (by omega)]; omega
theorem fin64 (z1 z2 r : Nat) (z R : Int) (s1 : (z2 : Int) = z / 4 * 32) (s2 : (z1 : Int) = z % 4 * 536870912) (hr : (r : Int) = R) : ((1 * 2 ^ 31 + (z1 + (1 * 2 ^ 28 + (z2 + r))) : Nat) : Int) = 2147483648 + z % 4 * 536870912 + 16 * 16777216 + z / 4 * 32 + R := by omega
theorem arm64W_nat (w p : BitVec 32) (back : Bool) (hp : p.toNat % 4 = 0) : ((arm64W w p back).toNat : Int) = turnI 10 w.toNat p.toNat back := by
  have h1 := w.isLt
  have h2 := p.isLt
  simp only [arm64W, turnI, show ¬ ((10 : Int) = 5) by decide, show ¬ ((10 : Int) = 7) by decide, show ¬ ((10 : Int) = 9) by decide, if_false, bne_nat, beq_nat, shr_nat]
  by_cases hc : w.toNat / 67108864 = 37
  · have hcI : (w.toNat : Int) / 67108864 = 37 := by omega
    rw [if_pos hcI, if_pos (by simpa using hc)]
    rw [BitVec.toNat_or, bfield w 4227858432 26 6 (by decide) (by decide), bfield _ 67108863 0 26 (by decide) (by decide)]
    have hs := addW_nat w (p >>> 2) back
    rw [shr_nat] at hs
    generalize (addW w (p >>> 2) back).toNat = s at hs ⊢
    rw [or_field _ _ 26 (by omega)]
    simp only [toldI]
    cases back
    · simp only [Bool.false_eq_true, if_false] at hs ⊢; omega
    · simp only [if_true] at hs ⊢; omega
  · have hcI : ¬ ((w.toNat : Int) / 67108864 = 37) := by omega
    rw [if_neg hcI, if_neg (by simpa using hc)]
    have e1 : (w &&& 2667577344#32).toNat = w.toNat / 2147483648 * 2147483648 + w.toNat / 16777216 % 32 * 16777216 := by
      have : (w &&& 2667577344#32) = (w &&& 2147483648#32) ||| (w &&& 520093696#32) := by rw [← BitVec.and_or_distrib_left]; rfl
      rw [this, BitVec.toNat_or, bfield w 2147483648 31 1 (by decide) (by decide), bfield w 520093696 24 5 (by decide) (by decide), or_field _ _ 31 (by omega)]
      omega
    have hn := n64_nat w
    have f1 : (w.toNat : Int) / 32 % 524288 * 4 + (w.toNat : Int) / 536870912 % 4 = ((n64 w).toNat : Int) := by
      rw [hn]
      have f1 : (w.toNat : Int) / 32 = ((w.toNat / 32 : Nat) : Int) := by omega
      have f2 : (w.toNat : Int) / 536870912 = ((w.toNat / 536870912 : Nat) : Int) := by omega
      rw [f1, f2]
      generalize w.toNat / 32 = x1
      generalize w.toNat / 536870912 = x2
      omega
    simp only [f1]
    have hkl : (n64 w).toNat < 2097152 := by rw [hn]; omega
    have e2 : ((n64 w + 131072#32) &&& 1835008#32).toNat = (n64 w + 131072#32).toNat / 262144 % 8 * 262144 := bfield _ 1835008 18 3 (by decide) (by decide)
    have e3 : (n64 w + 131072#32).toNat = (n64 w).toNat + 131072 := by
      rw [BitVec.toNat_add, show (131072#32).toNat = 131072 from rfl]; omega
    rw [e3] at e2
    rw [e1, e2]
    have hm1 : (2415919104#32).toNat = 2415919104 := rfl
    have hm2 : (0#32).toNat = 0 := rfl
    rw [hm1, hm2]
    have htop := top64 (w.toNat / 2147483648) (w.toNat / 16777216 % 32) (by omega) (Nat.mod_lt _ (by decide))
    have hfit := fits64I (n64 w).toNat
    have g1 : ((w.toNat : Int) / 2147483648 = 1) ↔ (w.toNat / 2147483648 = 1) := by omega
    have g2 : ((w.toNat : Int) / 16777216 % 32 = 16) ↔ (w.toNat / 16777216 % 32 = 16) := by
      have f2 : (w.toNat : Int) / 16777216 = ((w.toNat / 16777216 : Nat) : Int) := by omega
      rw [f2]
      generalize w.toNat / 16777216 = x2
      omega
    by_cases hd : w.toNat / 2147483648 = 1 ∧ w.toNat / 16777216 % 32 = 16 ∧ ((n64 w).toNat + 131072) / 262144 % 8 = 0
    · obtain ⟨d1, d2, d3⟩ := hd
      have hI : (w.toNat : Int) / 2147483648 = 1 ∧ (w.toNat : Int) / 16777216 % 32 = 16 ∧ (((n64 w).toNat : Int) + 131072) % 2097152 < 262144 := ⟨g1.2 d1, g2.2 d2, hfit.2 d3⟩
      have hb1 : ¬ (decide (w.toNat / 2147483648 * 2147483648 + w.toNat / 16777216 % 32 * 16777216 ≠ 2415919104) = true) := by rw [decide_eq_true_eq]; exact fun h => h (htop.2 ⟨d1, d2⟩)
      have hb2 : ¬ (decide (((n64 w).toNat + 131072) / 262144 % 8 * 262144 ≠ 0) = true) := by rw [decide_eq_true_eq, d3]; exact fun h => h rfl
      rw [if_neg hb1, if_neg hb2, if_pos hI]
      have hsx := sext_nat (addW (n64 w) (p >>> 12) back) 14 (by decide) (by decide)
      have hs := addW_nat (n64 w) (p >>> 12) back
      rw [shr_nat] at hs
      change (m64 w p back).toNat = _ at hsx
      generalize (addW (n64 w) (p >>> 12) back).toNat = s at hs hsx
      have hmr := (m64 w p back).isLt
      rw [BitVec.toNat_or, BitVec.toNat_or, BitVec.toNat_shiftLeft, BitVec.toNat_shiftLeft, bfield _ 3 0 2 (by decide) (by decide), bfield _ 2097148 2 19 (by decide) (by decide)]
      generalize (m64 w p back).toNat = v at hsx hmr ⊢
      have e5 : (w &&& 2415919135#32).toNat = 2147483648 ||| (268435456 ||| w.toNat % 32) := by
        have : (w &&& 2415919135#32) = (w &&& 2147483648#32) ||| ((w &&& 268435456#32) ||| (w &&& 31#32)) := by rw [← BitVec.and_or_distrib_left, ← BitVec.and_or_distrib_left]; rfl
        rw [this, BitVec.toNat_or, BitVec.toNat_or, bfield w 2147483648 31 1 (by decide) (by decide), bfield w 268435456 28 1 (by decide) (by decide), bfield w 31 0 5 (by decide) (by decide)]
        have a1 : w.toNat / 2 ^ 31 % 2 ^ 1 = 1 := by omega
        have a2 : w.toNat / 2 ^ 28 % 2 ^ 1 = 1 := by
          have := d2
          clear htop hfit hn f1 e1 e2 e3 hs hsx
          omega
        have a3 : w.toNat / 2 ^ 0 % 2 ^ 5 * 2 ^ 0 = w.toNat % 32 := by omega
        rw [a1, a2, a3]
      rw [e5, Nat.shiftLeft_eq, Nat.shiftLeft_eq]
      have a4 : v / 2 ^ 0 % 2 ^ 2 * 2 ^ 0 * 2 ^ 29 % 2 ^ 32 = v % 4 * 2 ^ 29 := by clear hs hsx htop hfit hn f1 e1 e2 e3 e5; omega
      have a5 : v / 2 ^ 2 % 2 ^ 19 * 2 ^ 2 * 2 ^ 3 % 2 ^ 32 = v / 4 % 524288 * 2 ^ 5 := by clear hs hsx htop hfit hn f1 e1 e2 e3 e5; omega
      rw [a4, a5]
      have a6 : (2147483648 ||| (268435456 ||| w.toNat % 32) ||| v % 4 * 2 ^ 29) ||| v / 4 % 524288 * 2 ^ 5 = 1 * 2 ^ 31 ||| (v % 4 * 2 ^ 29 ||| (1 * 2 ^ 28 ||| (v / 4 % 524288 * 2 ^ 5 ||| w.toNat % 32))) := by
        simp only [Nat.one_mul, show (2 : Nat) ^ 31 = 2147483648 from rfl, show (2 : Nat) ^ 28 = 268435456 from rfl]
        ac_rfl
      obtain ⟨s1, s2⟩ := sum64 w.toNat (n64 w).toNat p.toNat v s back h1 d1 d2 hs hsx
      clear hs hsx htop hfit hn f1 e1 e2 e3 e5 a4 a5 g1 g2 d3 hkl
      rw [a6, or_field _ _ 5 (by omega), or_field _ _ 28 (by omega), or_field _ _ 29 (by omega), or_field _ _ 31 (by omega)]
      exact fin64 _ _ _ _ _ s1 s2 (by omega)
    · have hI : ¬ ((w.toNat : Int) / 2147483648 = 1 ∧ (w.toNat : Int) / 16777216 % 32 = 16 ∧ (((n64 w).toNat : Int) + 131072) % 2097152 < 262144) := fun h => hd ⟨g1.1 h.1, g2.1 h.2.1, hfit.1 h.2.2⟩
      rw [if_neg hI]
      by_cases hq : w.toNat / 2147483648 * 2147483648 + w.toNat / 16777216 % 32 * 16777216 = 2415919104
      · have hq2 := htop.1 hq
        have hq3 : ¬ ((n64 w).toNat + 131072) / 262144 % 8 = 0 := fun h => hd ⟨hq2.1, hq2.2, h⟩
        have hb1 : ¬ (decide (w.toNat / 2147483648 * 2147483648 + w.toNat / 16777216 % 32 * 16777216 ≠ 2415919104) = true) := by rw [decide_eq_true_eq]; exact fun h => h hq
        have hb2 : decide (((n64 w).toNat + 131072) / 262144 % 8 * 262144 ≠ 0) = true := by
          rw [decide_eq_true_eq]
          intro h
          exact hq3 (by omega)
        rw [if_neg hb1, if_pos hb2]
      · have hb1 : decide (w.toNat / 2147483648 * 2147483648 + w.toNat / 16777216 % 32 * 16777216 ≠ 2415919104) = true := by rw [decide_eq_true_eq]; exact hq
        rw [if_pos hb1]
/-- what a filter may be -/
def mayId (id : Int) : Prop := id = 5 ∨ id = 7 ∨ id = 9 ∨ id = 10
theorem turnW_nat (id : Int) (hid : mayId id) (w p : BitVec 32) (back : Bool) (hp : p.toNat % 4 = 0) : ((turnW id w p back).toNat : Int) = turnI id w.toNat p.toNat back := by
  rcases hid with rfl | rfl | rfl | rfl
  · exact ppcW_nat w p back hp
  · exact armW_nat w p back hp
  · exact sparcW_nat w p back hp
  · exact arm64W_nat w p back hp
theorem word64 (x r W : Int) (h0 : 0 ≤ x) (h1 : x < 2097152) (h2 : 0 ≤ r) (h3 : r < 32) (hW : W = 2147483648 + x % 4 * 536870912 + 16 * 16777216 + x / 4 * 32 + r) :
    ¬ W / 67108864 = 37 ∧ W / 2147483648 = 1 ∧ W / 16777216 % 32 = 16 ∧ W / 32 % 524288 * 4 + W / 536870912 % 4 = x ∧ W % 32 = r := by
  obtain ⟨a, ha⟩ : ∃ a, a = x / 4 := ⟨_, rfl⟩
  obtain ⟨b, hb⟩ : ∃ b, b = x % 4 := ⟨_, rfl⟩
  rw [← ha, ← hb] at hW
  have hab : x = 4 * a + b := by omega
  have a0 : 0 ≤ a ∧ a < 524288 := by omega
  have b0 : 0 ≤ b ∧ b < 4 := by omega
  clear ha hb h0 h1
  subst hab
  have e1 : W / 32 = 75497472 + b * 16777216 + a := by omega
  have e2 : W / 536870912 = 4 + b := by omega
  have e3 : W / 16777216 = 144 + b * 32 := by omega
  rw [e1, e2, e3]
  refine ⟨by omega, by omega, by omega, by omega, by omega⟩
theorem un64 (w : Int) (h0 : 0 ≤ w) (h1 : w < 4294967296) (h2 : w / 2147483648 = 1) (h3 : w / 16777216 % 32 = 16) (x : Int) (hx : x = w / 32 % 524288 * 4 + w / 536870912 % 4) :
    2147483648 + x % 4 * 536870912 + 16 * 16777216 + x / 4 * 32 + w % 32 = w := by
  have e1 : x % 4 = w / 536870912 % 4 := by omega
  have e2 : x / 4 = w / 32 % 524288 := by omega
  rw [e1, e2]
  clear e1 e2 hx
  omega
theorem sign64 (n : Int) (h0 : 0 ≤ n) (h1 : n < 262144) : 0 ≤ signedI n 262144 2097152 ∧ signedI n 262144 2097152 < 2097152 ∧ signedI n 262144 2097152 % 262144 = n ∧ (signedI n 262144 2097152 + 131072) % 2097152 < 262144 := by
  unfold signedI
  by_cases h : n < 131072
  · rw [if_neg (by omega)]; omega
  · rw [if_pos (by omega)]; omega
theorem fit64 (k : Int) (h0 : 0 ≤ k) (h1 : k < 2097152) (hf : (k + 131072) % 2097152 < 262144) : signedI (k % 262144) 262144 2097152 = k := by
  unfold signedI
  by_cases h : k < 131072
  · rw [if_neg (by omega)]; omega
  · rw [if_pos (by omega)]; omega
theorem back64 (k P : Int) (back : Bool) : toldI (toldI (k % 262144) P back 262144) P (!back) 262144 = k % 262144 := by
  unfold toldI
  cases back
  · simp only [Bool.not_false, Bool.false_eq_true, if_false, if_true]; omega
  · simp only [Bool.not_true, Bool.false_eq_true, if_false, if_true]; omega
theorem turnI_back (id : Int) (hid : mayId id) (w p : Int) (back : Bool) (h0 : 0 ≤ w) (h1 : w < 4294967296) (h2 : 0 ≤ p) (h3 : p < 4294967296) (hp : p % 4 = 0) : turnI id (turnI id w p back) p (!back) = w := by
  rcases hid with rfl | rfl | rfl | rfl
  · simp only [turnI, if_true]
    by_cases hc : w / 67108864 = 18 ∧ w % 4 = 1
    · rw [if_pos hc]
      cases back
      · simp only [toldI, Bool.not_false, Bool.false_eq_true, if_false, if_true]; rw [if_pos (by omega)]; omega
      · simp only [toldI, Bool.not_true, Bool.false_eq_true, if_false, if_true]; rw [if_pos (by omega)]; omega
    · rw [if_neg hc, if_neg hc]
  · simp only [turnI, show ¬ ((7 : Int) = 5) by decide, if_false, if_true]
    by_cases hc : w / 16777216 = 235
    · rw [if_pos hc]
      cases back
      · simp only [toldI, Bool.not_false, Bool.false_eq_true, if_false, if_true]; rw [if_pos (by omega)]; omega
      · simp only [toldI, Bool.not_true, Bool.false_eq_true, if_false, if_true]; rw [if_pos (by omega)]; omega
    · rw [if_neg hc, if_neg hc]
  · simp only [turnI, show ¬ ((9 : Int) = 5) by decide, show ¬ ((9 : Int) = 7) by decide, if_false, if_true]
    by_cases hc : w / 4194304 = 256 ∨ w / 4194304 = 511
    · rw [if_pos hc]
      have hs : ∀ n : Int, 0 ≤ n → n < 8388608 → (n < 4194304 → signedI n 8388608 1073741824 = n) ∧ (4194304 ≤ n → signedI n 8388608 1073741824 = n + 1065353216) := fun n _ _ => by
        constructor
        · intro h; unfold signedI; rw [if_neg (by omega)]
        · intro h; unfold signedI; rw [if_pos (by omega)]; omega
      cases back
      · simp only [toldI, Bool.not_false, Bool.false_eq_true, if_false, if_true]
        have hn0 := Int.emod_nonneg (w % 8388608 + p / 4) (show (8388608 : Int) ≠ 0 by decide)
        have hn1 := Int.emod_lt_of_pos (w % 8388608 + p / 4) (show (0 : Int) < 8388608 by decide)
        have hx := hs _ hn0 hn1
        generalize hn : (w % 8388608 + p / 4) % 8388608 = n at *
        generalize signedI n 8388608 1073741824 = x at *
        have hn0' := Int.emod_nonneg ((1073741824 + x) % 8388608 - p / 4) (show (8388608 : Int) ≠ 0 by decide)
        have hn1' := Int.emod_lt_of_pos ((1073741824 + x) % 8388608 - p / 4) (show (0 : Int) < 8388608 by decide)
        have hy := hs _ hn0' hn1'
        rw [if_pos (by omega)]
        omega
      · simp only [toldI, Bool.not_true, Bool.false_eq_true, if_false, if_true]
        have hn0 := Int.emod_nonneg (w % 8388608 - p / 4) (show (8388608 : Int) ≠ 0 by decide)
        have hn1 := Int.emod_lt_of_pos (w % 8388608 - p / 4) (show (0 : Int) < 8388608 by decide)
        have hx := hs _ hn0 hn1
        generalize hn : (w % 8388608 - p / 4) % 8388608 = n at *
        generalize signedI n 8388608 1073741824 = x at *
        have hn0' := Int.emod_nonneg ((1073741824 + x) % 8388608 + p / 4) (show (8388608 : Int) ≠ 0 by decide)
        have hn1' := Int.emod_lt_of_pos ((1073741824 + x) % 8388608 + p / 4) (show (0 : Int) < 8388608 by decide)
        have hy := hs _ hn0' hn1'
        rw [if_pos (by omega)]
        omega
    · rw [if_neg hc, if_neg hc]
  · simp only [turnI, show ¬ ((10 : Int) = 5) by decide, show ¬ ((10 : Int) = 7) by decide, show ¬ ((10 : Int) = 9) by decide, if_false]
    by_cases hc : w / 67108864 = 37
    · rw [if_pos hc]
      cases back
      · simp only [toldI, Bool.not_false, Bool.false_eq_true, if_false, if_true]; rw [if_pos (by omega)]; omega
      · simp only [toldI, Bool.not_true, Bool.false_eq_true, if_false, if_true]; rw [if_pos (by omega)]; omega
    · rw [if_neg hc]
      by_cases hd : w / 2147483648 = 1 ∧ w / 16777216 % 32 = 16 ∧ ((w / 32 % 524288 * 4 + w / 536870912 % 4) + 131072) % 2097152 < 262144
      · rw [if_pos hd]
        obtain ⟨d1, d2, d3⟩ := hd
        obtain ⟨k, hk⟩ : ∃ k, k = w / 32 % 524288 * 4 + w / 536870912 % 4 := ⟨_, rfl⟩
        rw [← hk] at d3 ⊢
        have hu := un64 w h0 h1 d1 d2 k hk
        have hk0 : 0 ≤ k ∧ k < 2097152 := by
          have g1 := Int.emod_nonneg (w / 32) (show (524288 : Int) ≠ 0 by decide)
          have g2 := Int.emod_lt_of_pos (w / 32) (show (0 : Int) < 524288 by decide)
          have g3 := Int.emod_nonneg (w / 536870912) (show (4 : Int) ≠ 0 by decide)
          have g4 := Int.emod_lt_of_pos (w / 536870912) (show (0 : Int) < 4 by decide)
          omega
        obtain ⟨n, hn⟩ : ∃ n, n = toldI (k % 262144) (p / 4096) back 262144 := ⟨_, rfl⟩
        have hnn : 0 ≤ n ∧ n < 262144 := by
          rw [hn]; unfold toldI
          exact ⟨Int.emod_nonneg _ (by decide), Int.emod_lt_of_pos _ (by decide)⟩
        have hb := back64 k (p / 4096) back
        rw [← hn] at hb ⊢
        obtain ⟨s1, s2, s3, s4⟩ := sign64 n hnn.1 hnn.2
        generalize signedI n 262144 2097152 = x at s1 s2 s3 s4 ⊢
        have hr0 := Int.emod_nonneg w (show (32 : Int) ≠ 0 by decide)
        have hr1 := Int.emod_lt_of_pos w (show (0 : Int) < 32 by decide)
        obtain ⟨w1, w2, w3, w4, w5⟩ := word64 x (w % 32) _ s1 s2 hr0 hr1 rfl
        rw [if_neg w1, w4, if_pos ⟨w2, w3, s4⟩, s3, hb, fit64 k hk0.1 hk0.2 d3, w5]
        exact hu
      · rw [if_neg hd, if_neg hc, if_neg hd]
end Go.Proofs.Ytiibjaommelkkaa
