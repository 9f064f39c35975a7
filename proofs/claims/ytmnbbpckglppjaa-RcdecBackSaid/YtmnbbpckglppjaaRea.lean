/- Coding bits: numbers of bytes, highest first. -/
import Derived.Test.YtmnbbpckglppjaaEng28
set_option linter.unusedVariables false
set_option maxRecDepth 100000
namespace Go.Proofs.Ytmnbbpckglppjaa
open Go Go.Eng

/-- the number of bytes, the highest first -/
def num : List (BitVec 8) → Nat
  | [] => 0
  | q :: r => q.toNat * 256 ^ r.length + num r
theorem num_app (a : List (BitVec 8)) (b : List (BitVec 8)) : num (a ++ b) = num a * 256 ^ b.length + num b := by
  induction a with
  | nil => simp [num]
  | cons q r ih => rw [List.cons_append, num, num, ih, List.length_append, Nat.pow_add, Nat.add_mul, Nat.mul_assoc, Nat.add_assoc]
theorem num_lt : ∀ (a : List (BitVec 8)), num a < 256 ^ a.length
  | [] => by simp [num]
  | q :: r => by
    have h1 := num_lt r
    have hq := q.isLt
    have h2 : q.toNat * 256 ^ r.length ≤ 255 * 256 ^ r.length := Nat.mul_le_mul_right _ (by omega)
    rw [num, List.length_cons, Nat.pow_succ]
    omega
theorem num_inj : ∀ (a b : List (BitVec 8)), a.length = b.length → num a = num b → a = b
  | [], [], _, _ => rfl
  | [], _ :: _, h, _ => by cases h
  | _ :: _, [], h, _ => by cases h
  | p :: a, q :: b, h, e => by
    have hl : a.length = b.length := by simpa using h
    rw [num, num, hl] at e
    have h1 := num_lt a
    have h2 := num_lt b
    rw [hl] at h1
    have hP : 0 < 256 ^ b.length := Nat.pow_pos (by decide)
    have key : ∀ x y u v P : Nat, u < P → v < P → x * P + u = y * P + v → x = y ∧ u = v := by
      intro x y u v P hu hv e
      have hx : x = y := by
        rcases Nat.lt_trichotomy x y with g | g | g
        · have : (x + 1) * P ≤ y * P := Nat.mul_le_mul_right _ g
          rw [Nat.add_mul, Nat.one_mul] at this
          omega
        · exact g
        · have : (y + 1) * P ≤ x * P := Nat.mul_le_mul_right _ g
          rw [Nat.add_mul, Nat.one_mul] at this
          omega
      subst hx
      exact ⟨rfl, by omega⟩
    obtain ⟨e1, e2⟩ := key _ _ _ _ _ h1 h2 e
    rw [BitVec.eq_of_toNat_eq e1, num_inj a b hl e2]
theorem num_rep255 : ∀ n, num (List.replicate n 255#8) + 1 = 256 ^ n
  | 0 => rfl
  | n + 1 => by
    have h := num_rep255 n
    rw [List.replicate_succ, num, List.length_replicate, Nat.pow_succ, show (255#8).toNat = 255 from rfl]
    omega
theorem num_rep0 : ∀ n, num (List.replicate n 0#8) = 0
  | 0 => rfl
  | n + 1 => by rw [List.replicate_succ, num, num_rep0 n]; simp

/-- a coder: low, size, what is held back, the bytes of 255 behind it, what is out -/
structure ES where
  low : BitVec 64
  size : BitVec 32
  held : BitVec 8
  full : Nat
  out : List (BitVec 8)
def carry (e : ES) : BitVec 8 := (e.low >>> 32).setWidth 8
def lowN (low : BitVec 64) : BitVec 64 := (low &&& 16777215#64) <<< 8
def putS (e : ES) : ES :=
  if 0 < (carry e).toNat ∨ e.low.toNat < 4278190080 then ⟨lowN e.low, e.size, (e.low >>> 24).setWidth 8, 0, e.out ++ [e.held + carry e] ++ List.replicate e.full (255#8 + carry e)⟩
  else ⟨lowN e.low, e.size, e.held, e.full + 1, e.out⟩
/-- what is not out yet -/
def tailN (e : ES) : Nat := num (e.held :: List.replicate e.full 255#8)
def valN (e : ES) : Nat := num (e.out ++ e.held :: List.replicate e.full 255#8) * 4294967296 + e.low.toNat
def InvE (e : ES) (g : Nat) : Prop := tailN e * 4294967296 + e.low.toNat + g ≤ 256 ^ (e.full + 1) * 4294967296 ∧ e.low.toNat + g ≤ 8589934592 ∧ 1 ≤ g
theorem tailN_eq (e : ES) : tailN e + 1 = (e.held.toNat + 1) * 256 ^ e.full := by
  have := num_rep255 e.full
  rw [tailN, num, List.length_replicate, Nat.add_mul]
  omega
theorem valN_eq (e : ES) : valN e = (num e.out * 256 ^ (e.full + 1) + tailN e) * 4294967296 + e.low.toNat := by
  rw [valN, num_app, List.length_cons, List.length_replicate]; rfl
theorem lowN_nat (low : BitVec 64) : (lowN low).toNat = low.toNat % 16777216 * 256 := by
  have h : low.toNat &&& 16777215 = low.toNat % 2 ^ 24 := Nat.and_two_pow_sub_one_eq_mod low.toNat 24
  rw [lowN, BitVec.toNat_shiftLeft, BitVec.toNat_and, show (16777215#64).toNat = 16777215 from rfl, h, Nat.shiftLeft_eq]
  omega
theorem fac256 (X b g Y : Nat) (h : X * 16777216 + b + g ≤ Y * 16777216) : X * 4294967296 + b * 256 + 256 * g ≤ Y * 4294967296 := by
  have h2 := Nat.mul_le_mul_left 256 h
  have e1 : 256 * (X * 16777216 + b + g) = X * 4294967296 + b * 256 + 256 * g := by
    rw [Nat.mul_add, Nat.mul_add, Nat.mul_comm 256 (X * 16777216), Nat.mul_assoc, Nat.mul_comm 256 b]
  have e2 : 256 * (Y * 16777216) = Y * 4294967296 := by rw [Nat.mul_comm, Nat.mul_assoc]
  rw [e1, e2] at h2
  exact h2
theorem arith1 (a b g L : Nat) (hab : L = 16777216 * a + b) (hb : b < 16777216) (h2 : L + g ≤ 8589934592) (hg1 : 1 ≤ g) (hg : g < 16777216) (hd : 0 < a / 256 % 256 ∨ L < 4278190080) : a % 256 * 4294967296 + b * 256 + 256 * g ≤ 256 * 4294967296 := by
  refine fac256 _ _ _ _ ?_
  have ha : a < 512 := by omega
  rcases Nat.lt_or_ge a 256 with h | h
  · have e1 : a % 256 = a := Nat.mod_eq_of_lt h
    have e2 : a / 256 = 0 := Nat.div_eq_of_lt h
    rw [e2] at hd
    have hd : L < 4278190080 := hd.resolve_left (by decide)
    have h254 : a ≤ 254 := by omega
    rw [e1]
    omega
  · obtain ⟨r, rfl⟩ : ∃ r, a = 256 + r := ⟨a - 256, by omega⟩
    have e1 : (256 + r) % 256 = r := by omega
    rw [e1]
    omega
theorem arith2 (T a b g L Z : Nat) (hab : L = 16777216 * a + b) (ha : a = 255) (h1 : T * 4294967296 + L + g ≤ Z * 4294967296) : (256 * T + 255) * 4294967296 + b * 256 + 256 * g ≤ 256 * Z * 4294967296 := by
  refine fac256 _ _ _ _ ?_
  subst ha
  have e1 : (256 * T + 255) * 16777216 = T * 4294967296 + 16777216 * 255 := by rw [Nat.add_mul, Nat.mul_comm 256 T, Nat.mul_assoc]
  have e2 : 256 * Z * 16777216 = Z * 4294967296 := by rw [Nat.mul_comm 256 Z, Nat.mul_assoc]
  rw [e1, e2]
  rw [hab] at h1
  rw [Nat.add_assoc (T * 4294967296) (16777216 * 255) b]
  exact h1
theorem putS_inv (e : ES) (g : Nat) (h : InvE e g) (hg : g < 16777216) : InvE (putS e) (256 * g) ∧ valN (putS e) = 256 * valN e ∧ (putS e).out.length + (putS e).full = e.out.length + e.full + 1 ∧ (putS e).size = e.size := by
  obtain ⟨h1, h2, h3⟩ := h
  have hT := tailN_eq e
  have hV := valN_eq e
  have hh := e.held.isLt
  have hA : 0 < 256 ^ e.full := Nat.pow_pos (by decide)
  have hl := lowN_nat e.low
  have hc : (carry e).toNat = e.low.toNat / 4294967296 % 256 := by
    rw [carry, BitVec.toNat_setWidth, BitVec.toNat_ushiftRight, Nat.shiftRight_eq_div_pow]
  have hp : 256 ^ (e.full + 1) = 256 * 256 ^ e.full := by rw [Nat.pow_succ, Nat.mul_comm]
  have hb : ((e.low >>> 24).setWidth 8).toNat = e.low.toNat / 16777216 % 256 := by
    rw [BitVec.toNat_setWidth, BitVec.toNat_ushiftRight, Nat.shiftRight_eq_div_pow]
  obtain ⟨a, b, hab, hbq⟩ : ∃ a b, e.low.toNat = 16777216 * a + b ∧ b < 16777216 := ⟨_, _, (Nat.div_add_mod _ _).symm, Nat.mod_lt _ (by decide)⟩
  have d1 : e.low.toNat / 16777216 = a := by omega
  have d2 : e.low.toNat % 16777216 = b := by omega
  have d3 : e.low.toNat / 4294967296 = a / 256 := by rw [← d1, Nat.div_div_eq_div_mul]
  rw [d1] at hb
  rw [d2] at hl
  rw [d3] at hc
  rcases Decidable.em (0 < (carry e).toNat ∨ e.low.toNat < 4278190080) with hd | hd
  · have hP : putS e = ⟨lowN e.low, e.size, (e.low >>> 24).setWidth 8, 0, e.out ++ [e.held + carry e] ++ List.replicate e.full (255#8 + carry e)⟩ := by rw [putS, if_pos hd]
    have t1 : tailN (putS e) = a % 256 := by
      rw [hP, tailN]; show num [(e.low >>> 24).setWidth 8] = _; rw [num, num, List.length_nil, hb]; omega
    have v1 := valN_eq (putS e)
    have l1 : (putS e).low.toNat = b * 256 := by rw [hP]; exact hl
    have f1 : (putS e).full = 0 := by rw [hP]
    have o1 : (putS e).out.length = e.out.length + 1 + e.full := by rw [hP]; simp; omega
    have n1 : num (putS e).out = num e.out * 256 ^ (e.full + 1) + tailN e + a / 256 := by
      have ho : (putS e).out = e.out ++ ([e.held + carry e] ++ List.replicate e.full (255#8 + carry e)) := by rw [hP, List.append_assoc]
      rw [ho, num_app, List.length_append, List.length_replicate, List.length_singleton, Nat.add_comm 1 e.full]
      rcases Nat.lt_or_ge a 256 with hlo | hlo
      · have c0 : carry e = 0#8 := BitVec.eq_of_toNat_eq (by rw [hc]; show _ = 0; omega)
        have z : a / 256 = 0 := by omega
        rw [c0, z, BitVec.add_zero, BitVec.add_zero]
        rfl
      · have c1 : carry e = 1#8 := BitVec.eq_of_toNat_eq (by rw [hc]; show _ = 1; omega)
        have z : a / 256 = 1 := by omega
        have hx : tailN e + 1 < 256 * 256 ^ e.full := by omega
        rw [hT] at hx
        have hh2 : e.held.toNat + 1 < 256 := Nat.lt_of_mul_lt_mul_right hx
        have s1 : (e.held + 1#8).toNat = e.held.toNat + 1 := by rw [BitVec.toNat_add]; show (e.held.toNat + 1) % 256 = _; omega
        rw [c1, z, show (255#8 + 1#8) = 0#8 from rfl]
        show _ + num ((e.held + 1#8) :: List.replicate e.full 0#8) = _
        rw [num, num_rep0, List.length_replicate, s1]
        omega
    refine ⟨⟨?_, ?_, by omega⟩, ?_, by rw [o1, f1]; omega, by rw [hP]⟩
    · rw [t1, l1, f1]
      exact arith1 a b g _ hab hbq h2 h3 hg (by rw [← hc]; exact hd)
    · rw [l1]; omega
    · rw [v1, t1, l1, f1, n1, hV, hab]
      show (_ * 256 + _) * 4294967296 + _ = _
      generalize num e.out * 256 ^ (e.full + 1) + tailN e = X
      omega
  · have hP : putS e = ⟨lowN e.low, e.size, e.held, e.full + 1, e.out⟩ := by rw [putS, if_neg hd]
    have hlo : 4278190080 ≤ e.low.toNat ∧ e.low.toNat < 4294967296 := by
      have := hc
      omega
    have t1 : tailN (putS e) = 256 * tailN e + 255 := by
      have := tailN_eq (putS e)
      have f : (putS e).full = e.full + 1 := by rw [hP]
      have g : (putS e).held = e.held := by rw [hP]
      rw [f, g, hp, Nat.mul_left_comm, ← hT] at this
      omega
    have l1 : (putS e).low.toNat = b * 256 := by rw [hP]; exact hl
    have f1 : (putS e).full = e.full + 1 := by rw [hP]
    have o1 : (putS e).out = e.out := by rw [hP]
    have v1 := valN_eq (putS e)
    have hp2 : 256 ^ (e.full + 1 + 1) = 256 * 256 ^ (e.full + 1) := by rw [Nat.pow_succ 256 (e.full + 1), Nat.mul_comm]
    refine ⟨⟨?_, ?_, by omega⟩, ?_, by rw [o1, f1]; omega, by rw [hP]⟩
    · rw [t1, l1, f1, hp2]
      exact arith2 _ a b g _ _ hab (by omega) h1
    · rw [l1]; omega
    · have : a = 255 := by omega
      rw [v1, t1, l1, f1, o1, hp2, hV, Nat.mul_left_comm]
      generalize num e.out * 256 ^ (e.full + 1) = X
      omega
end Go.Proofs.Ytmnbbpckglppjaa
