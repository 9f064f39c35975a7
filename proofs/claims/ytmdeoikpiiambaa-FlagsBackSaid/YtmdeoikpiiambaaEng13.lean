/- The engine, part 13: lists of numbers, words as bit vectors, and contracts of functions that keep nothing. Own work. -/
import Derived.Test.YtmdeoikpiiambaaEng12
set_option linter.unusedVariables false
namespace Go.Eng
open Go

def ints (k : IntKind) (l : List Int) : List AV := l.map (AV.int k)
theorem ints_length (k : IntKind) (l : List Int) : (ints k l).length = l.length := by simp [ints]
theorem ints_drop (k : IntKind) (l : List Int) (n : Nat) : (ints k l).drop n = ints k (l.drop n) := by simp [ints]
theorem ints_take (k : IntKind) (l : List Int) (n : Nat) : (ints k l).take n = ints k (l.take n) := by simp [ints]
theorem ints_append (k : IntKind) (l l' : List Int) : ints k l ++ ints k l' = ints k (l ++ l') := by simp [ints]
theorem ints_nil (k : IntKind) : ints k [] = [] := rfl
theorem ints_cons (k : IntKind) (x : Int) (l : List Int) : ints k (x :: l) = .int k x :: ints k l := rfl
theorem ints_set (k : IntKind) (l : List Int) (n : Nat) (x : Int) : (ints k l).set n (.int k x) = ints k (l.set n x) := by simp [ints, List.map_set]
theorem ints_rep (k : IntKind) (n : Nat) (x : Int) : List.replicate n (.int k x) = ints k (List.replicate n x) := by simp [ints]
theorem ints_getD (k : IntKind) (l : List Int) (n : Nat) (d : Int) : (ints k l).getD n (.int k d) = .int k (l.getD n d) := by
  simp only [ints, List.getD_eq_getElem?_getD, List.getElem?_map]
  cases l[n]? <;> rfl
theorem ints_one (k : IntKind) (l : List Int) : (ints k l).all one1 = true := one1_ints k l
theorem ints_flat (k : IntKind) (l : List Int) : (ints k l).all flat = true := flat_ints k l
theorem ints_ren (k : IntKind) (l : List Int) (f : Nat → Nat) : renL f (ints k l) = ints k l := flatL_ren (ints_flat k l) f
theorem ints_noRo (k : IntKind) (l : List Int) : noRoL (ints k l) = true := flatL_noRo (ints_flat k l)
theorem ints_spl (k : IntKind) (l l' : List Int) (n : Nat) : spl (ints k l) n (ints k l') = ints k (l.take n ++ l' ++ l.drop (n + l'.length)) := by simp [spl, ints, List.map_take, List.map_drop]
theorem ints_inj (k : IntKind) (l l' : List Int) : (ints k l = ints k l') = (l = l') := by
  refine propext ⟨fun h => ?_, fun h => by rw [h]⟩
  induction l generalizing l' with
  | nil => cases l' with
    | nil => rfl
    | cons y r => simp [ints] at h
  | cons x r ih => cases l' with
    | nil => simp [ints] at h
    | cons y s =>
      simp only [ints_cons, List.cons.injEq, AV.int.injEq, true_and] at h
      rw [h.1, ih s h.2]

/-! words -/
/-- words as cells -/
def bvs (k : IntKind) {w : Nat} (l : List (BitVec w)) : List AV := l.map fun x => .int k (x.toNat : Int)
section
variable (k : IntKind) {w : Nat} (l l' : List (BitVec w)) (n : Nat)
theorem bvs_length : (bvs k l).length = l.length := by simp [bvs]
theorem bvs_drop : (bvs k l).drop n = bvs k (l.drop n) := by simp [bvs]
theorem bvs_take : (bvs k l).take n = bvs k (l.take n) := by simp [bvs]
theorem bvs_append : bvs k l ++ bvs k l' = bvs k (l ++ l') := by simp [bvs]
theorem bvs_nil : bvs k ([] : List (BitVec w)) = [] := rfl
theorem bvs_cons (x : BitVec w) : bvs k (x :: l) = .int k (x.toNat : Int) :: bvs k l := rfl
theorem bvs_set (x : BitVec w) : (bvs k l).set n (.int k (x.toNat : Int)) = bvs k (l.set n x) := by simp [bvs, List.map_set]
theorem bvs_rep (x : BitVec w) : List.replicate n (.int k (x.toNat : Int)) = bvs k (List.replicate n x) := by simp [bvs]
theorem bvs_rep0 : List.replicate n (.int k 0) = bvs k (List.replicate n (0 : BitVec w)) := by simp [bvs]
theorem bvs_getD : (bvs k l).getD n (.int k 0) = .int k ((l.getD n 0).toNat : Int) := by
  simp only [bvs, List.getD_eq_getElem?_getD, List.getElem?_map]
  cases l[n]? with
  | none => simp
  | some x => rfl
theorem bvs_one : (bvs k l).all one1 = true := by
  induction l with
  | nil => rfl
  | cons x r ih => simp only [bvs_cons, List.all_cons, ih, Bool.and_true]; rfl
theorem bvs_flat : (bvs k l).all flat = true := by
  induction l with
  | nil => rfl
  | cons x r ih => simp only [bvs_cons, List.all_cons, ih, Bool.and_true]; rfl
theorem bvs_det : (bvs k l).all det = true := by
  induction l with
  | nil => rfl
  | cons x r ih => simp only [bvs_cons, List.all_cons, ih, Bool.and_true]; rfl
theorem bvs_ren (f : Nat → Nat) : renL f (bvs k l) = bvs k l := flatL_ren (bvs_flat k l) f
theorem bvs_noRo : noRoL (bvs k l) = true := flatL_noRo (bvs_flat k l)
theorem bvs_spl : spl (bvs k l) n (bvs k l') = bvs k (l.take n ++ l' ++ l.drop (n + l'.length)) := by simp [spl, bvs, List.map_take, List.map_drop]
theorem bvs_inj : (bvs k l = bvs k l') = (l = l') := by
  refine propext ⟨fun h => ?_, fun h => by rw [h]⟩
  induction l generalizing l' with
  | nil => cases l' with
    | nil => rfl
    | cons y r => simp [bvs] at h
  | cons x r ih => cases l' with
    | nil => simp [bvs] at h
    | cons y s =>
      simp only [bvs_cons, List.cons.injEq, AV.int.injEq, true_and] at h
      rw [BitVec.eq_of_toNat_eq (x := x) (y := y) (by omega), ih s h.2]
end
theorem ofInt_nat (w : Nat) {v : Nat} (x : BitVec v) : BitVec.ofInt w (x.toNat : Int) = x.setWidth w := by
  rw [BitVec.ofInt_natCast, BitVec.ofNat_toNat]
theorem ofInt_nat_same {v : Nat} (x : BitVec v) : BitVec.ofInt v (x.toNat : Int) = x := by
  rw [ofInt_nat]; simp
theorem bv_eq {w : Nat} (x y : BitVec w) : ((x.toNat : Int) == (y.toNat : Int)) = (x == y) := by
  by_cases h : x = y
  · subst h; simp
  · have : x.toNat ≠ y.toNat := fun e => h (BitVec.eq_of_toNat_eq e)
    have h1 : (x == y) = false := by simpa using h
    have h2 : ((x.toNat : Int) == (y.toNat : Int)) = false := by simp; omega
    rw [h1, h2]
theorem bv_ne {w : Nat} (x y : BitVec w) : ((x.toNat : Int) != (y.toNat : Int)) = (x != y) := by simp only [bne, bv_eq]
theorem bv_nonneg {w : Nat} (x : BitVec w) : (0 : Int) ≤ (x.toNat : Int) := Int.natCast_nonneg _

theorem wrapbv8 (z : Int) : IntKind.u8.wrap z = ((BitVec.ofInt 8 z).toNat : Int) := by
  rw [wrap_u8, BitVec.toNat_ofInt]
  omega
theorem wrapself8 (x : BitVec 8) : IntKind.u8.wrap (x.toNat : Int) = (x.toNat : Int) := by rw [wrapbv8, ofInt_nat_same]
theorem ofIntwrap8 (z : Int) : BitVec.ofInt 8 (IntKind.u8.wrap z) = BitVec.ofInt 8 z := by rw [wrapbv8, ofInt_nat_same]
theorem bxor8 (a b : Int) : bitsI .xor .u8 a b = ((BitVec.ofInt 8 a ^^^ BitVec.ofInt 8 b).toNat : Int) := wrapself8 _
theorem band8 (a b : Int) : bitsI .and .u8 a b = ((BitVec.ofInt 8 a &&& BitVec.ofInt 8 b).toNat : Int) := wrapself8 _
theorem bor8 (a b : Int) : bitsI .or .u8 a b = ((BitVec.ofInt 8 a ||| BitVec.ofInt 8 b).toNat : Int) := wrapself8 _
theorem bnot8 (a : Int) : notI .u8 a = ((~~~ BitVec.ofInt 8 a).toNat : Int) := by
  have h : notI .u8 a = bitsI .xor .u8 255 a := rfl
  rw [h, bxor8, show BitVec.ofInt 8 255 = BitVec.allOnes 8 from rfl, BitVec.allOnes_xor]
theorem bshr8 (x : BitVec 8) (c : Int) : shrI .u8 (x.toNat : Int) c = ((x >>> c.toNat).toNat : Int) := by
  unfold shrI
  rw [BitVec.toNat_ushiftRight, Nat.shiftRight_eq_div_pow, Int.fdiv_eq_ediv_of_nonneg _ (by exact Int.natCast_nonneg (2 ^ _))]
  have hk : IntKind.bits .u8 = 8 := rfl
  rw [hk]
  rcases Nat.le_total c.toNat 8 with h | h
  · rw [Nat.min_eq_left h, Int.natCast_ediv, Int.natCast_pow]; rfl
  · rw [Nat.min_eq_right h]
    have h1 : x.toNat < 2 ^ 8 := x.isLt
    have h2 : x.toNat < 2 ^ c.toNat := Nat.lt_of_lt_of_le h1 (Nat.pow_le_pow_right (by decide) h)
    rw [Nat.div_eq_of_lt h2]
    have : (x.toNat : Int) / (2 : Int) ^ 8 = ((x.toNat / 2 ^ 8 : Nat) : Int) := by norm_cast
    rw [this, Nat.div_eq_of_lt h1]
theorem bshl8 (x : BitVec 8) (c : Int) : shlI .u8 (x.toNat : Int) c = ((x <<< c.toNat).toNat : Int) := by
  unfold shlI
  have hk : IntKind.bits .u8 = 8 := rfl
  rw [wrap_u8, BitVec.toNat_shiftLeft, Nat.shiftLeft_eq, hk]
  rcases Nat.le_total c.toNat 8 with h | h
  · rw [Nat.min_eq_left h, Int.natCast_emod, Int.natCast_mul, Int.natCast_pow]; rfl
  · rw [Nat.min_eq_right h]
    obtain ⟨j, hj⟩ : ∃ j, c.toNat = 8 + j := ⟨c.toNat - 8, by omega⟩
    rw [hj, Nat.pow_add]
    have h1 : x.toNat * (2 ^ 8 * 2 ^ j) % 2 ^ 8 = 0 := by
      rw [Nat.mul_left_comm]; exact Nat.mul_mod_right _ _
    rw [h1]
    have h2 : ((x.toNat : Int) * 2 ^ 8) = ((x.toNat * 2 ^ 8 : Nat) : Int) := by norm_cast
    rw [h2]
    omega
theorem wrapbv16 (z : Int) : IntKind.u16.wrap z = ((BitVec.ofInt 16 z).toNat : Int) := by
  rw [wrap_u16, BitVec.toNat_ofInt]
  omega
theorem wrapself16 (x : BitVec 16) : IntKind.u16.wrap (x.toNat : Int) = (x.toNat : Int) := by rw [wrapbv16, ofInt_nat_same]
theorem ofIntwrap16 (z : Int) : BitVec.ofInt 16 (IntKind.u16.wrap z) = BitVec.ofInt 16 z := by rw [wrapbv16, ofInt_nat_same]
theorem bxor16 (a b : Int) : bitsI .xor .u16 a b = ((BitVec.ofInt 16 a ^^^ BitVec.ofInt 16 b).toNat : Int) := wrapself16 _
theorem band16 (a b : Int) : bitsI .and .u16 a b = ((BitVec.ofInt 16 a &&& BitVec.ofInt 16 b).toNat : Int) := wrapself16 _
theorem bor16 (a b : Int) : bitsI .or .u16 a b = ((BitVec.ofInt 16 a ||| BitVec.ofInt 16 b).toNat : Int) := wrapself16 _
theorem bnot16 (a : Int) : notI .u16 a = ((~~~ BitVec.ofInt 16 a).toNat : Int) := by
  have h : notI .u16 a = bitsI .xor .u16 65535 a := rfl
  rw [h, bxor16, show BitVec.ofInt 16 65535 = BitVec.allOnes 16 from rfl, BitVec.allOnes_xor]
theorem bshr16 (x : BitVec 16) (c : Int) : shrI .u16 (x.toNat : Int) c = ((x >>> c.toNat).toNat : Int) := by
  unfold shrI
  rw [BitVec.toNat_ushiftRight, Nat.shiftRight_eq_div_pow, Int.fdiv_eq_ediv_of_nonneg _ (by exact Int.natCast_nonneg (2 ^ _))]
  have hk : IntKind.bits .u16 = 16 := rfl
  rw [hk]
  rcases Nat.le_total c.toNat 16 with h | h
  · rw [Nat.min_eq_left h, Int.natCast_ediv, Int.natCast_pow]; rfl
  · rw [Nat.min_eq_right h]
    have h1 : x.toNat < 2 ^ 16 := x.isLt
    have h2 : x.toNat < 2 ^ c.toNat := Nat.lt_of_lt_of_le h1 (Nat.pow_le_pow_right (by decide) h)
    rw [Nat.div_eq_of_lt h2]
    have : (x.toNat : Int) / (2 : Int) ^ 16 = ((x.toNat / 2 ^ 16 : Nat) : Int) := by norm_cast
    rw [this, Nat.div_eq_of_lt h1]
theorem bshl16 (x : BitVec 16) (c : Int) : shlI .u16 (x.toNat : Int) c = ((x <<< c.toNat).toNat : Int) := by
  unfold shlI
  have hk : IntKind.bits .u16 = 16 := rfl
  rw [wrap_u16, BitVec.toNat_shiftLeft, Nat.shiftLeft_eq, hk]
  rcases Nat.le_total c.toNat 16 with h | h
  · rw [Nat.min_eq_left h, Int.natCast_emod, Int.natCast_mul, Int.natCast_pow]; rfl
  · rw [Nat.min_eq_right h]
    obtain ⟨j, hj⟩ : ∃ j, c.toNat = 16 + j := ⟨c.toNat - 16, by omega⟩
    rw [hj, Nat.pow_add]
    have h1 : x.toNat * (2 ^ 16 * 2 ^ j) % 2 ^ 16 = 0 := by
      rw [Nat.mul_left_comm]; exact Nat.mul_mod_right _ _
    rw [h1]
    have h2 : ((x.toNat : Int) * 2 ^ 16) = ((x.toNat * 2 ^ 16 : Nat) : Int) := by norm_cast
    rw [h2]
    omega
theorem wrapbv32 (z : Int) : IntKind.u32.wrap z = ((BitVec.ofInt 32 z).toNat : Int) := by
  rw [wrap_u32, BitVec.toNat_ofInt]
  omega
theorem wrapself32 (x : BitVec 32) : IntKind.u32.wrap (x.toNat : Int) = (x.toNat : Int) := by rw [wrapbv32, ofInt_nat_same]
theorem ofIntwrap32 (z : Int) : BitVec.ofInt 32 (IntKind.u32.wrap z) = BitVec.ofInt 32 z := by rw [wrapbv32, ofInt_nat_same]
theorem bxor32 (a b : Int) : bitsI .xor .u32 a b = ((BitVec.ofInt 32 a ^^^ BitVec.ofInt 32 b).toNat : Int) := wrapself32 _
theorem band32 (a b : Int) : bitsI .and .u32 a b = ((BitVec.ofInt 32 a &&& BitVec.ofInt 32 b).toNat : Int) := wrapself32 _
theorem bor32 (a b : Int) : bitsI .or .u32 a b = ((BitVec.ofInt 32 a ||| BitVec.ofInt 32 b).toNat : Int) := wrapself32 _
theorem bnot32 (a : Int) : notI .u32 a = ((~~~ BitVec.ofInt 32 a).toNat : Int) := by
  have h : notI .u32 a = bitsI .xor .u32 4294967295 a := rfl
  rw [h, bxor32, show BitVec.ofInt 32 4294967295 = BitVec.allOnes 32 from rfl, BitVec.allOnes_xor]
theorem bshr32 (x : BitVec 32) (c : Int) : shrI .u32 (x.toNat : Int) c = ((x >>> c.toNat).toNat : Int) := by
  unfold shrI
  rw [BitVec.toNat_ushiftRight, Nat.shiftRight_eq_div_pow, Int.fdiv_eq_ediv_of_nonneg _ (by exact Int.natCast_nonneg (2 ^ _))]
  have hk : IntKind.bits .u32 = 32 := rfl
  rw [hk]
  rcases Nat.le_total c.toNat 32 with h | h
  · rw [Nat.min_eq_left h, Int.natCast_ediv, Int.natCast_pow]; rfl
  · rw [Nat.min_eq_right h]
    have h1 : x.toNat < 2 ^ 32 := x.isLt
    have h2 : x.toNat < 2 ^ c.toNat := Nat.lt_of_lt_of_le h1 (Nat.pow_le_pow_right (by decide) h)
    rw [Nat.div_eq_of_lt h2]
    have : (x.toNat : Int) / (2 : Int) ^ 32 = ((x.toNat / 2 ^ 32 : Nat) : Int) := by norm_cast
    rw [this, Nat.div_eq_of_lt h1]
theorem bshl32 (x : BitVec 32) (c : Int) : shlI .u32 (x.toNat : Int) c = ((x <<< c.toNat).toNat : Int) := by
  unfold shlI
  have hk : IntKind.bits .u32 = 32 := rfl
  rw [wrap_u32, BitVec.toNat_shiftLeft, Nat.shiftLeft_eq, hk]
  rcases Nat.le_total c.toNat 32 with h | h
  · rw [Nat.min_eq_left h, Int.natCast_emod, Int.natCast_mul, Int.natCast_pow]; rfl
  · rw [Nat.min_eq_right h]
    obtain ⟨j, hj⟩ : ∃ j, c.toNat = 32 + j := ⟨c.toNat - 32, by omega⟩
    rw [hj, Nat.pow_add]
    have h1 : x.toNat * (2 ^ 32 * 2 ^ j) % 2 ^ 32 = 0 := by
      rw [Nat.mul_left_comm]; exact Nat.mul_mod_right _ _
    rw [h1]
    have h2 : ((x.toNat : Int) * 2 ^ 32) = ((x.toNat * 2 ^ 32 : Nat) : Int) := by norm_cast
    rw [h2]
    omega
theorem wrapbv64 (z : Int) : IntKind.u64.wrap z = ((BitVec.ofInt 64 z).toNat : Int) := by
  rw [wrap_u64, BitVec.toNat_ofInt]
  omega
theorem wrapself64 (x : BitVec 64) : IntKind.u64.wrap (x.toNat : Int) = (x.toNat : Int) := by rw [wrapbv64, ofInt_nat_same]
theorem ofIntwrap64 (z : Int) : BitVec.ofInt 64 (IntKind.u64.wrap z) = BitVec.ofInt 64 z := by rw [wrapbv64, ofInt_nat_same]
theorem bxor64 (a b : Int) : bitsI .xor .u64 a b = ((BitVec.ofInt 64 a ^^^ BitVec.ofInt 64 b).toNat : Int) := wrapself64 _
theorem band64 (a b : Int) : bitsI .and .u64 a b = ((BitVec.ofInt 64 a &&& BitVec.ofInt 64 b).toNat : Int) := wrapself64 _
theorem bor64 (a b : Int) : bitsI .or .u64 a b = ((BitVec.ofInt 64 a ||| BitVec.ofInt 64 b).toNat : Int) := wrapself64 _
theorem bnot64 (a : Int) : notI .u64 a = ((~~~ BitVec.ofInt 64 a).toNat : Int) := by
  have h : notI .u64 a = bitsI .xor .u64 18446744073709551615 a := rfl
  rw [h, bxor64, show BitVec.ofInt 64 18446744073709551615 = BitVec.allOnes 64 from rfl, BitVec.allOnes_xor]
theorem bshr64 (x : BitVec 64) (c : Int) : shrI .u64 (x.toNat : Int) c = ((x >>> c.toNat).toNat : Int) := by
  unfold shrI
  rw [BitVec.toNat_ushiftRight, Nat.shiftRight_eq_div_pow, Int.fdiv_eq_ediv_of_nonneg _ (by exact Int.natCast_nonneg (2 ^ _))]
  have hk : IntKind.bits .u64 = 64 := rfl
  rw [hk]
  rcases Nat.le_total c.toNat 64 with h | h
  · rw [Nat.min_eq_left h, Int.natCast_ediv, Int.natCast_pow]; rfl
  · rw [Nat.min_eq_right h]
    have h1 : x.toNat < 2 ^ 64 := x.isLt
    have h2 : x.toNat < 2 ^ c.toNat := Nat.lt_of_lt_of_le h1 (Nat.pow_le_pow_right (by decide) h)
    rw [Nat.div_eq_of_lt h2]
    have : (x.toNat : Int) / (2 : Int) ^ 64 = ((x.toNat / 2 ^ 64 : Nat) : Int) := by norm_cast
    rw [this, Nat.div_eq_of_lt h1]
theorem bshl64 (x : BitVec 64) (c : Int) : shlI .u64 (x.toNat : Int) c = ((x <<< c.toNat).toNat : Int) := by
  unfold shlI
  have hk : IntKind.bits .u64 = 64 := rfl
  rw [wrap_u64, BitVec.toNat_shiftLeft, Nat.shiftLeft_eq, hk]
  rcases Nat.le_total c.toNat 64 with h | h
  · rw [Nat.min_eq_left h, Int.natCast_emod, Int.natCast_mul, Int.natCast_pow]; rfl
  · rw [Nat.min_eq_right h]
    obtain ⟨j, hj⟩ : ∃ j, c.toNat = 64 + j := ⟨c.toNat - 64, by omega⟩
    rw [hj, Nat.pow_add]
    have h1 : x.toNat * (2 ^ 64 * 2 ^ j) % 2 ^ 64 = 0 := by
      rw [Nat.mul_left_comm]; exact Nat.mul_mod_right _ _
    rw [h1]
    have h2 : ((x.toNat : Int) * 2 ^ 64) = ((x.toNat * 2 ^ 64 : Nat) : Int) := by norm_cast
    rw [h2]
    omega

theorem bandn8 (a b : Int) : bitsI .andNot .u8 a b = ((BitVec.ofInt 8 a &&& ~~~ BitVec.ofInt 8 b).toNat : Int) := wrapself8 _
theorem bandn16 (a b : Int) : bitsI .andNot .u16 a b = ((BitVec.ofInt 16 a &&& ~~~ BitVec.ofInt 16 b).toNat : Int) := wrapself16 _
theorem bandn32 (a b : Int) : bitsI .andNot .u32 a b = ((BitVec.ofInt 32 a &&& ~~~ BitVec.ofInt 32 b).toNat : Int) := wrapself32 _
theorem bandn64 (a b : Int) : bitsI .andNot .u64 a b = ((BitVec.ofInt 64 a &&& ~~~ BitVec.ofInt 64 b).toNat : Int) := wrapself64 _
theorem wrap_i32_bv (z : Int) : IntKind.i32.wrap z = (BitVec.ofInt 32 z).toInt := by
  have h : IntKind.i32.wrap z = if decide (z % 4294967296 ≥ 2147483648) = true then z % 4294967296 - 4294967296 else z % 4294967296 := rfl
  rw [h, BitVec.toInt_ofInt, Int.bmod_def]
  simp only [decide_eq_true_eq]
  split <;> split <;> omega
theorem ofInt_toInt' {w : Nat} (x : BitVec w) : BitVec.ofInt w x.toInt = x := BitVec.ofInt_toInt
theorem bshr_i32 (x : BitVec 32) (c : Int) (h0 : 0 ≤ c) (h1 : c < 32) : shrI .i32 x.toInt c = (x.sshiftRight c.toNat).toInt := by
  unfold shrI
  have hk : IntKind.bits .i32 = 32 := rfl
  rw [hk, Nat.min_eq_left (by omega), BitVec.toInt_sshiftRight, Int.shiftRight_eq_div_pow, Int.fdiv_eq_ediv_of_nonneg _ (by exact Int.natCast_nonneg (2 ^ _))]
  rfl
theorem ofInt_add' (w : Nat) (a b : Int) : BitVec.ofInt w (a + b) = BitVec.ofInt w a + BitVec.ofInt w b := BitVec.ofInt_add ..
theorem ofInt_neg' (w : Nat) (a : Int) : BitVec.ofInt w (-a) = - BitVec.ofInt w a := BitVec.ofInt_neg ..
theorem ofInt_sub' (w : Nat) (a b : Int) : BitVec.ofInt w (a - b) = BitVec.ofInt w a - BitVec.ofInt w b := by
  rw [Int.sub_eq_add_neg, ofInt_add', ofInt_neg', BitVec.sub_eq_add_neg]
theorem ofInt_mul' (w : Nat) (a b : Int) : BitVec.ofInt w (a * b) = BitVec.ofInt w a * BitVec.ofInt w b := BitVec.ofInt_mul ..
theorem ofInt_cast (w : Nat) (n : Nat) : BitVec.ofInt w (n : Int) = BitVec.ofNat w n := BitVec.ofInt_natCast ..
theorem bvs_rep8 (n : Nat) : List.replicate n (.int .u8 0) = bvs .u8 (List.replicate n (0 : BitVec 8)) := bvs_rep0 ..
theorem bvs_rep16 (n : Nat) : List.replicate n (.int .u16 0) = bvs .u16 (List.replicate n (0 : BitVec 16)) := bvs_rep0 ..
theorem bvs_rep32 (n : Nat) : List.replicate n (.int .u32 0) = bvs .u32 (List.replicate n (0 : BitVec 32)) := bvs_rep0 ..
theorem bvs_rep64 (n : Nat) : List.replicate n (.int .u64 0) = bvs .u64 (List.replicate n (0 : BitVec 64)) := bvs_rep0 ..
theorem tdv8 (x : BitVec 8) (c : Int) (h0 : 0 ≤ c) (h1 : c < 256) : (x.toNat : Int).tdiv c = ((x / BitVec.ofInt 8 c).toNat : Int) := by
  rw [Int.tdiv_eq_ediv_of_nonneg (Int.natCast_nonneg _), BitVec.toNat_udiv, BitVec.toNat_ofInt, Int.natCast_ediv]
  congr 1
  omega
theorem tmd8 (x : BitVec 8) (c : Int) (h0 : 0 ≤ c) (h1 : c < 256) : (x.toNat : Int).tmod c = ((x % BitVec.ofInt 8 c).toNat : Int) := by
  rw [Int.tmod_eq_emod_of_nonneg (Int.natCast_nonneg _), BitVec.toNat_umod, BitVec.toNat_ofInt, Int.natCast_emod]
  congr 1
  omega
theorem beqlit8 (x : BitVec 8) (c : Int) (h0 : 0 ≤ c) (h1 : c < 256) : ((x.toNat : Int) == c) = (x == BitVec.ofInt 8 c) := by
  have h : c = ((BitVec.ofInt 8 c).toNat : Int) := by rw [BitVec.toNat_ofInt]; omega
  rw [show ((x.toNat : Int) == c) = ((x.toNat : Int) == ((BitVec.ofInt 8 c).toNat : Int)) from by rw [← h]]
  exact bv_eq _ _
theorem bnelit8 (x : BitVec 8) (c : Int) (h0 : 0 ≤ c) (h1 : c < 256) : ((x.toNat : Int) != c) = (x != BitVec.ofInt 8 c) := by
  rw [bne, bne, beqlit8 x c h0 h1]
theorem tdv16 (x : BitVec 16) (c : Int) (h0 : 0 ≤ c) (h1 : c < 65536) : (x.toNat : Int).tdiv c = ((x / BitVec.ofInt 16 c).toNat : Int) := by
  rw [Int.tdiv_eq_ediv_of_nonneg (Int.natCast_nonneg _), BitVec.toNat_udiv, BitVec.toNat_ofInt, Int.natCast_ediv]
  congr 1
  omega
theorem tmd16 (x : BitVec 16) (c : Int) (h0 : 0 ≤ c) (h1 : c < 65536) : (x.toNat : Int).tmod c = ((x % BitVec.ofInt 16 c).toNat : Int) := by
  rw [Int.tmod_eq_emod_of_nonneg (Int.natCast_nonneg _), BitVec.toNat_umod, BitVec.toNat_ofInt, Int.natCast_emod]
  congr 1
  omega
theorem beqlit16 (x : BitVec 16) (c : Int) (h0 : 0 ≤ c) (h1 : c < 65536) : ((x.toNat : Int) == c) = (x == BitVec.ofInt 16 c) := by
  have h : c = ((BitVec.ofInt 16 c).toNat : Int) := by rw [BitVec.toNat_ofInt]; omega
  rw [show ((x.toNat : Int) == c) = ((x.toNat : Int) == ((BitVec.ofInt 16 c).toNat : Int)) from by rw [← h]]
  exact bv_eq _ _
theorem bnelit16 (x : BitVec 16) (c : Int) (h0 : 0 ≤ c) (h1 : c < 65536) : ((x.toNat : Int) != c) = (x != BitVec.ofInt 16 c) := by
  rw [bne, bne, beqlit16 x c h0 h1]
theorem tdv32 (x : BitVec 32) (c : Int) (h0 : 0 ≤ c) (h1 : c < 4294967296) : (x.toNat : Int).tdiv c = ((x / BitVec.ofInt 32 c).toNat : Int) := by
  rw [Int.tdiv_eq_ediv_of_nonneg (Int.natCast_nonneg _), BitVec.toNat_udiv, BitVec.toNat_ofInt, Int.natCast_ediv]
  congr 1
  omega
theorem tmd32 (x : BitVec 32) (c : Int) (h0 : 0 ≤ c) (h1 : c < 4294967296) : (x.toNat : Int).tmod c = ((x % BitVec.ofInt 32 c).toNat : Int) := by
  rw [Int.tmod_eq_emod_of_nonneg (Int.natCast_nonneg _), BitVec.toNat_umod, BitVec.toNat_ofInt, Int.natCast_emod]
  congr 1
  omega
theorem beqlit32 (x : BitVec 32) (c : Int) (h0 : 0 ≤ c) (h1 : c < 4294967296) : ((x.toNat : Int) == c) = (x == BitVec.ofInt 32 c) := by
  have h : c = ((BitVec.ofInt 32 c).toNat : Int) := by rw [BitVec.toNat_ofInt]; omega
  rw [show ((x.toNat : Int) == c) = ((x.toNat : Int) == ((BitVec.ofInt 32 c).toNat : Int)) from by rw [← h]]
  exact bv_eq _ _
theorem bnelit32 (x : BitVec 32) (c : Int) (h0 : 0 ≤ c) (h1 : c < 4294967296) : ((x.toNat : Int) != c) = (x != BitVec.ofInt 32 c) := by
  rw [bne, bne, beqlit32 x c h0 h1]
theorem tdv64 (x : BitVec 64) (c : Int) (h0 : 0 ≤ c) (h1 : c < 18446744073709551616) : (x.toNat : Int).tdiv c = ((x / BitVec.ofInt 64 c).toNat : Int) := by
  rw [Int.tdiv_eq_ediv_of_nonneg (Int.natCast_nonneg _), BitVec.toNat_udiv, BitVec.toNat_ofInt, Int.natCast_ediv]
  congr 1
  omega
theorem tmd64 (x : BitVec 64) (c : Int) (h0 : 0 ≤ c) (h1 : c < 18446744073709551616) : (x.toNat : Int).tmod c = ((x % BitVec.ofInt 64 c).toNat : Int) := by
  rw [Int.tmod_eq_emod_of_nonneg (Int.natCast_nonneg _), BitVec.toNat_umod, BitVec.toNat_ofInt, Int.natCast_emod]
  congr 1
  omega
theorem beqlit64 (x : BitVec 64) (c : Int) (h0 : 0 ≤ c) (h1 : c < 18446744073709551616) : ((x.toNat : Int) == c) = (x == BitVec.ofInt 64 c) := by
  have h : c = ((BitVec.ofInt 64 c).toNat : Int) := by rw [BitVec.toNat_ofInt]; omega
  rw [show ((x.toNat : Int) == c) = ((x.toNat : Int) == ((BitVec.ofInt 64 c).toNat : Int)) from by rw [← h]]
  exact bv_eq _ _
theorem bnelit64 (x : BitVec 64) (c : Int) (h0 : 0 ≤ c) (h1 : c < 18446744073709551616) : ((x.toNat : Int) != c) = (x != BitVec.ofInt 64 c) := by
  rw [bne, bne, beqlit64 x c h0 h1]
theorem drop_getD {α : Type} (l : List α) (n m : Nat) (d : α) : (l.drop n).getD m d = l.getD (n + m) d := by simp [List.getD_eq_getElem?_getD]
theorem bv8_lt (x : BitVec 8) : ((x.toNat : Int) < 256) = True := by have := x.isLt; simp; omega
theorem bv8_ltn (x : BitVec 8) : (x.toNat < 256) = True := by have := x.isLt; simp; omega
theorem bvs_flat_rep {w : Nat} (k : IntKind) (a b : Nat) (x : BitVec w) : (List.replicate a (bvs k (List.replicate b x))).flatten = bvs k (List.replicate (a * b) x) := by
  simp only [← bvs_rep, List.flatten_replicate_replicate]
theorem foldl_take_succ {α β : Type} (f : α → β → α) (l : List β) (r : α) (n : Nat) (d : β) (h : n < l.length) : (l.take (n + 1)).foldl f r = f ((l.take n).foldl f r) (l.getD n d) := by
  rw [List.take_succ_eq_append_getElem h, List.foldl_append, List.getD_eq_getElem?_getD, List.getElem?_eq_getElem h]
  rfl
/-- a contract that tells a value alone -/
theorem CallOk.flatv {fz : Bool} {P : Program} {g : FuncId} {args0 args : List AV} {wr : Nat → Bool} {m : Mem} {nx : Nat} {K : Kv} {V : AV} (h : CallOk P g args0 (fun _ => true) [] 0 fun v m nx => v = V ∧ m = [] ∧ nx = 0)
    (ha : argsx m [] (rf [] nx 0) args args0) (hf : ∀ f, renA f V = V) (hn : noRo V = true) (hK : K V m nx) : CallG fz P g args wr m nx K := by
  refine h.use [] rfl trivial List.nodup_nil rfl (fun _ _ => rfl) (fun _ e => by cases e) ha ?_
  rintro v m' nx' ⟨rfl, rfl, rfl⟩
  exact ⟨hn, rfl, Nat.le_refl _, by rw [hf]; exact hK⟩
/-! a loop that counts up, with what is not told exactly -/
def UpX {X : Type} (Q : Nat → X → Prop) (nf : Nat) (wr : Nat → Bool) (S : Nat → X → Slots × Mem × Nat) (n i : Nat) (x : X) (hi : i ≤ n ∧ Q i x) (K : Kx) : Kx := LoopK (ι := { p : Nat × X // p.1 ≤ n ∧ Q p.1 p.2 }) nf wr (fun p => S p.1.1 p.1.2) (fun p => n - p.1.1) ⟨(i, x), hi⟩ K
theorem UpX_normal {X : Type} {Q : Nat → X → Prop} {nf : Nat} {wr : Nat → Bool} {S : Nat → X → Slots × Mem × Nat} {n i : Nat} {x : X} {hi : i ≤ n ∧ Q i x} {K : Kx} {t : Slots} {m : Mem} {nx : Nat} (h1 : i < n) (x' : X) (hq : Q (i + 1) x') (h2 : ∃ l, Le nf l wr t m nx (S (i + 1) x').1 (S (i + 1) x').2.1 (S (i + 1) x').2.2) : UpX Q nf wr S n i x hi K .normal t m nx :=
  ⟨⟨(i + 1, x'), h1, hq⟩, by show n - (i + 1) < n - i; omega, h2⟩
theorem UpX_ret {X : Type} (Q : Nat → X → Prop) (nf : Nat) (wr : Nat → Bool) (S : Nat → X → Slots × Mem × Nat) (n i : Nat) (x : X) (hi : i ≤ n ∧ Q i x) (K : Kx) (t : Slots) (m : Mem) (nx : Nat) : UpX Q nf wr S n i x hi K .ret t m nx = K .ret t m nx := rfl
theorem UpX_exit {X : Type} (Q : Nat → X → Prop) (nf : Nat) (wr : Nat → Bool) (S : Nat → X → Slots × Mem × Nat) (n i : Nat) (x : X) (hi : i ≤ n ∧ Q i x) (K : Kx) (t : Slots) (m : Mem) (nx : Nat) (e : Nat) : UpX Q nf wr S n i x hi K (.exit e) t m nx = K (.exit e) t m nx := rfl
theorem LoopOk.upX {X : Type} (Q : Nat → X → Prop) {fz : Bool} {nf : Nat} {E : Ex} {wr : Nat → Bool} {t : Slots} {m : Mem} {nx : Nat} {K : Kx} (n : Nat) (S : Nat → X → Slots × Mem × Nat) (x0 : X) (hq : Q 0 x0)
    (h0 : ∃ l, Le nf l wr t m nx (S 0 x0).1 (S 0 x0).2.1 (S 0 x0).2.2) (hr : ∀ i x (hi : i ≤ n ∧ Q i x), E (S i x).1 (S i x).2.1 (S i x).2.2 (UpX Q nf wr S n i x hi K)) : LoopOk fz nf E wr t m nx K :=
  ⟨{ p : Nat × X // p.1 ≤ n ∧ Q p.1 p.2 }, fun p => S p.1.1 p.1.2, fun p => n - p.1.1, ⟨⟨(0, x0), Nat.zero_le _, hq⟩, .inl h0⟩, fun p => hr p.1.1 p.1.2 p.2⟩
theorem u8s_bvs (x : List (BitVec 8)) : u8s (bvs .u8 x) = some (x.map fun v => UInt8.ofNat v.toNat) := by
  induction x with
  | nil => rfl
  | cons v r ih =>
    have h : (0 : Int) ≤ (v.toNat : Int) ∧ (v.toNat : Int) < 256 := by have := v.isLt; omega
    simp only [bvs_cons, u8s, if_pos h, ih, Option.map_some, Int.toNat_natCast, List.map_cons]
theorem Le.one {n' : Nat} {t t' : Slots} {m : Mem} {nx : Nat} {o : AObj} (hs : slotsLe (rf [(0, n')] nx 1) t t') (hm : look m n' = some (renO (rf [(0, n')] nx 1) o)) : ∃ l, Le 0 l (fun _ => true) t m nx t' [(0, o)] 1 :=
  ⟨[(0, n')], rfl, Nat.zero_le _, hs, ⟨hm, rfl, trivial⟩, by simp [injOn], (fun n e => by cases e), fun _ _ => rfl⟩
theorem rf_one (n' nx : Nat) : rf [(0, n')] nx 1 0 = n' := rfl
theorem renL_vals' (f : Nat → Nat) (k : IntKind) {w : Nat} (x : List (BitVec w)) (sp : List Value) : renL f (bvs k x ++ sp.map AV.val) = bvs k x ++ sp.map AV.val := by
  rw [renL_append, bvs_ren, renL_vals]
theorem noRoL_vals' (k : IntKind) {w : Nat} (x : List (BitVec w)) (sp : List Value) : noRoL (bvs k x ++ sp.map AV.val) = true := by
  rw [noRoL_append, bvs_noRo, noRoL_vals]; rfl
theorem rf_zero (nx : Nat) : rf [] nx 0 = fun n => n + nx := by
  funext n
  unfold rf
  simp only [look]
  rw [if_neg (by omega), Nat.sub_zero]
/-- a contract that leaves new objects -/
theorem CallOk.more {fz : Bool} {P : Program} {g : FuncId} {args0 args : List AV} {wr : Nat → Bool} {m : Mem} {nx : Nat} {K R : Kv} (h : CallOk P g args0 (fun _ => true) [] 0 R)
    (ha : argsx m [] (rf [] nx 0) args args0) (hK : ∀ v m' nx', R v m' nx' → noRo v = true ∧ noRoM m' = true ∧ K (renA (fun n => n + nx) v) (renM (fun n => n + nx) m' ++ m) (nx + nx')) : CallG fz P g args wr m nx K := by
  refine h.use [] rfl trivial List.nodup_nil rfl (fun _ _ => rfl) (fun _ e => by cases e) ha ?_
  intro v m' nx' hR
  obtain ⟨h1, h2, h3⟩ := hK v m' nx' hR
  rw [rf_zero]
  exact ⟨h1, h2, Nat.zero_le _, by simpa only [List.map_nil, delAll, Nat.sub_zero] using h3⟩
theorem argx_int (m : Mem) (own : List Nat) (f : Nat → Nat) (k k' : IntKind) (x y : Int) : argx m own f (.int k x) (.int k' y) = (k = k' ∧ x = y) := by simp only [argx, renA, AV.int.injEq]
theorem argx_bool (m : Mem) (own : List Nat) (f : Nat → Nat) (x y : Bool) : argx m own f (.bool x) (.bool y) = (x = y) := by simp only [argx, renA, AV.bool.injEq]
theorem argx_ro (m : Mem) (own : List Nat) (f : Nat → Nat) (n n' : Nat) (k k' : IntKind) {w : Nat} (x y : List (BitVec w)) : argx m own f (.ro n (bvs k x)) (.ro n' (bvs k' y)) = (n = n' ∧ bvs k x = bvs k' y) := by simp only [argx, renA, bvs_ren, AV.ro.injEq]
theorem argx_fn (m : Mem) (own : List Nat) (f : Nat → Nat) (g g' : Fn) : argx m own f (.fn g [] []) (.fn g' [] []) = (g = g') := by simp only [argx, renA, renL, AV.fn.injEq, and_true]
theorem argx_nils (m : Mem) (own : List Nat) (f : Nat → Nat) (n' : Nat) (y : List AV) : argx m own f .nils (.ro n' y) = (n' = 0 ∧ y = []) := rfl
/-- what is appended to words -/
theorem appk_bvs {wr : Nat → Bool} {m : Mem} {nx : Nat} {K : Kv} {k : IntKind} {w : Nat} {x y : List (BitVec w)} {sp : List Value} {n cap e bt : Nat} (hn : look m n = some (.cells (bvs k x ++ sp.map AV.val) e)) (hw : wr n = true)
    (hl : x.length + sp.length = cap) (hc : cap ≤ maxI) (hb : 0 < bt) (hm : (x.length + y.length) * bt ≤ 140737488355328)
    (hK : ∀ (cap' : Nat) (sp' : List Value), (x ++ y).length + sp'.length = cap' → cap' ≤ maxI → K (.sl nx 0 (x ++ y).length cap') ((nx, .cells (bvs k (x ++ y) ++ sp'.map AV.val) e) :: del m n) (nx + 1)) :
    appk (.sl n 0 x.length cap) m nx wr e 1 bt (y.length, bvs k y) K := by
  simp only [appk]
  refine .inl ⟨trivial, hw, ?_⟩
  rw [hn]
  have hm' : x.length + y.length ≤ (x.length + y.length) * bt := Nat.le_mul_of_pos_right _ hb
  refine ⟨rfl, by simp only [List.length_append, bvs_length, List.length_map]; omega, hc, hm, by omega, fun cap' sp' h1 h2 h3 => ?_⟩
  have e1 : (bvs k x ++ sp.map AV.val).take (x.length * 1) ++ bvs k y = bvs k (x ++ y) := by
    rw [Nat.mul_one, List.take_append_of_le_length (by rw [bvs_length]; exact Nat.le_refl _), bvs_take, List.take_length, bvs_append]
  have := hK cap' sp' (by simp only [List.length_append]; omega) h2
  rw [e1]
  rwa [List.length_append] at this
theorem appk_nils {wr : Nat → Bool} {m : Mem} {nx : Nat} {K : Kv} {k : IntKind} {w : Nat} {y : List (BitVec w)} {e bt : Nat} (hb : 0 < bt) (hm : y.length * bt ≤ 140737488355328)
    (h0 : y = [] → K .nils m nx) (hK : 0 < y.length → ∀ (cap' : Nat) (sp' : List Value), y.length + sp'.length = cap' → cap' ≤ maxI → K (.sl nx 0 y.length cap') ((nx, .cells (bvs k y ++ sp'.map AV.val) e) :: m) (nx + 1)) :
    appk .nils m nx wr e 1 bt (y.length, bvs k y) K := by
  simp only [appk]
  have hm' : y.length ≤ y.length * bt := Nat.le_mul_of_pos_right _ hb
  exact ⟨hm, by omega, fun h => h0 (List.length_eq_zero_iff.1 h), fun hp cap sp h1 h2 h3 => hK hp cap sp (by omega) h2⟩
theorem argx_sl {m : Mem} {own : List Nat} {f : Nat → Nat} {k : IntKind} {w : Nat} {x : List (BitVec w)} {y : List AV} {n len cap e : Nat} (hn : look m n = some (.cells (bvs k x ++ y) e)) (ho : own.contains n = false) (hl : len = x.length) :
    argx m own f (.sl n 0 len cap) (.ro x.length (bvs k x)) := by
  subst hl
  simp only [argx]
  refine ⟨trivial, ho, ?_⟩
  rw [hn]
  refine ⟨bvs_flat k x, fun h => by rw [bvs_length]; exact h, by simp only [List.length_append, bvs_length]; omega, ?_⟩
  rw [List.drop_zero, bvs_length, List.take_append_of_le_length (by rw [bvs_length]; exact Nat.le_refl _), bvs_take, List.take_length]
end Go.Eng
