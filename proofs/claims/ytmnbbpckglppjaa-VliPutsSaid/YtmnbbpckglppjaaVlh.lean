/- Numbers of a variable length: what was put is got, and the other way round. -/
import Derived.Test.YtmnbbpckglppjaaEng26
import Derived.Test.YtmnbbpckglppjaaVlg
set_option linter.unusedVariables false
set_option maxRecDepth 100000
namespace Go.Proofs.Ytmnbbpckglppjaa
open Go Go.Eng

theorem byD_true (d : BitVec 8) (h : d.toNat < 128) : (byD (d, true)).toNat = 128 + d.toNat := by
  show (d ||| 128#8).toNat = _
  rw [BitVec.toNat_or, Nat.or_comm, show (128#8).toNat = 2 ^ 7 * 1 from rfl, ← Nat.two_pow_add_eq_or_of_lt (show d.toNat < 2 ^ 7 from h)]
/-- from byte i on, where the digits of m stand, behind what has been got -/
theorem get_digs (b : List (BitVec 8)) : ∀ (f i : Nat) (m : BitVec 64) (g : Nat), 1 ≤ f → i + f ≤ 9 → m.toNat < 128 ^ f → f ≤ g →
    (i = 0 ∨ 1 ≤ m.toNat) → (∀ j, j < (digs f m).length → i + j < b.length ∧ b.getD (i + j) 0 = ((digs f m).map byD).getD j 0) →
    ∃ n : BitVec 64, gRes b g i = (n, (i : Int) + (digs f m).length, 0) ∧ n.toNat = (gN b i).toNat + m.toNat * 128 ^ i
  | 0, i, m, g, h, _, _, _, _, _ => by omega
  | f + 1, i, m, 0, _, _, _, h, _, _ => by omega
  | f + 1, i, m, g + 1, _, hi, hm, hg, h0, hb => by
    obtain ⟨_, hgn⟩ := gN_nat b i (by omega)
    have hgn := hgn (by omega)
    rcases Nat.lt_or_ge m.toNat 128 with h | h
    · have hd : digs (f + 1) m = [(m.setWidth 8, false)] := by rw [digs, if_neg (by omega)]
      rw [hd] at hb ⊢
      obtain ⟨hl, hx⟩ := hb 0 (by simp)
      have hx : b.getD i 0 = m.setWidth 8 := hx
      have hxn : (b.getD i 0).toNat = m.toNat := by rw [hx, BitVec.toNat_setWidth]; omega
      refine ⟨gN b (i + 1), ?_, ?_⟩
      · rw [gRes, if_neg (by omega), if_pos ⟨by omega, by omega⟩]; rfl
      · rw [hgn, hxn, Nat.mod_eq_of_lt h]
    · have hd : digs (f + 1) m = ((m % 128#64).setWidth 8, true) :: digs f (m >>> 7) := by rw [digs, if_pos h]
      rw [hd] at hb ⊢
      obtain ⟨hl, hx⟩ := hb 0 (by simp)
      have hx : b.getD i 0 = byD ((m % 128#64).setWidth 8, true) := hx
      have hdn : ((m % 128#64).setWidth 8).toNat = m.toNat % 128 := by
        rw [BitVec.toNat_setWidth, BitVec.toNat_umod]; show m.toNat % 128 % 256 = _; omega
      have hxn : (b.getD i 0).toNat = 128 + m.toNat % 128 := by rw [hx, byD_true _ (by omega), hdn]
      have hs : (m >>> 7).toNat = m.toNat / 128 := by rw [BitVec.toNat_ushiftRight, Nat.shiftRight_eq_div_pow]
      have hf1 : 1 ≤ f := by
        rcases Nat.eq_zero_or_pos f with h0 | h0
        · subst h0; omega
        · exact h0
      obtain ⟨n, h1, h2⟩ := get_digs b f (i + 1) (m >>> 7) g hf1 (by omega) (by rw [hs]; rw [Nat.pow_succ] at hm; exact Nat.div_lt_of_lt_mul (by rw [Nat.mul_comm]; exact hm)) (by omega) (.inr (by omega)) (fun j hj => by
        obtain ⟨k1, k2⟩ := hb (j + 1) (by simp; exact hj)
        exact ⟨by omega, by rw [show i + 1 + j = i + (j + 1) by omega, k2]; rfl⟩)
      refine ⟨n, ?_, ?_⟩
      · rw [gRes, if_neg (by omega), if_neg (by omega), if_neg (by omega), h1, List.length_cons]
        congr 1
        congr 1
        omega
      · rw [h2, hgn, hxn, hs, show (128 + m.toNat % 128) % 128 = m.toNat % 128 by omega, Nat.pow_succ, Nat.add_assoc, Nat.mul_comm (128 ^ i) 128, ← Nat.mul_assoc, ← Nat.add_mul]
        congr 2
        omega
/-- what has been got is put as those bytes -/
theorem get_back (b : List (BitVec 8)) : ∀ (f i : Nat) (n : BitVec 64) (k : Int), i + f = 9 → gRes b f i = (n, k, 0) →
    ∃ m : Nat, n.toNat = (gN b i).toNat + m * 128 ^ i ∧ m < 128 ^ f ∧ (i = 0 ∨ 1 ≤ m) ∧ ∀ (F : Nat) (M : BitVec 64), f ≤ F → M.toNat = m →
      (i : Int) + (digs F M).length = k ∧ i + (digs F M).length ≤ b.length ∧ ∀ j, j < (digs F M).length → ((digs F M).map byD).getD j 0 = b.getD (i + j) 0
  | 0, i, n, k, _, h => by simp [gRes] at h
  | f + 1, i, n, k, hi, h => by
    obtain ⟨_, hgn⟩ := gN_nat b i (by omega)
    have hgn := hgn (by omega)
    have hbl := (b.getD i 0).isLt
    rw [gRes] at h
    split at h
    · simp at h
    · rename_i hl
      split at h
      · rename_i hc
        simp only [Prod.mk.injEq] at h
        obtain ⟨rfl, rfl, _⟩ := h
        refine ⟨(b.getD i 0).toNat, by rw [hgn, Nat.mod_eq_of_lt hc.1], ?_, by omega, fun F M hF hM => ?_⟩
        · have : 1 ≤ 128 ^ f := Nat.pow_pos (by decide)
          rw [Nat.pow_succ]; omega
        · obtain ⟨F, rfl⟩ : ∃ F', F = F' + 1 := ⟨F - 1, by omega⟩
          have hd : digs (F + 1) M = [(M.setWidth 8, false)] := by rw [digs, if_neg (by omega)]
          rw [hd]
          refine ⟨rfl, by simp; omega, fun j hj => ?_⟩
          have hj0 : j = 0 := by simpa using hj
          subst hj0
          show M.setWidth 8 = b.getD i 0
          refine BitVec.eq_of_toNat_eq ?_
          rw [BitVec.toNat_setWidth]; omega
      · split at h
        · simp at h
        · rename_i hc1 hc2
          obtain ⟨m, h1, h2, h3, h4⟩ := get_back b f (i + 1) n k (by omega) h
          have hx : 128 ≤ (b.getD i 0).toNat := by omega
          refine ⟨(b.getD i 0).toNat % 128 + 128 * m, ?_, ?_, by omega, fun F M hF hM => ?_⟩
          · rw [h1, hgn, Nat.pow_succ, Nat.add_mul, Nat.add_assoc, Nat.mul_comm (128 ^ i) 128, ← Nat.mul_assoc, Nat.mul_comm m 128]
          · rw [Nat.pow_succ]; omega
          · obtain ⟨F, rfl⟩ : ∃ F', F = F' + 1 := ⟨F - 1, by omega⟩
            have hm1 : 1 ≤ m := by omega
            have hd : digs (F + 1) M = ((M % 128#64).setWidth 8, true) :: digs F (M >>> 7) := by rw [digs, if_pos (by omega)]
            have hs : (M >>> 7).toNat = m := by rw [BitVec.toNat_ushiftRight, Nat.shiftRight_eq_div_pow]; omega
            obtain ⟨g1, g2, g3⟩ := h4 F (M >>> 7) (by omega) hs
            rw [hd]
            refine ⟨?_, by rw [List.length_cons]; omega, fun j hj => ?_⟩
            · rw [List.length_cons, ← g1]; push_cast; omega
            · cases j with
              | zero =>
                show byD ((M % 128#64).setWidth 8, true) = b.getD i 0
                refine BitVec.eq_of_toNat_eq ?_
                have hdn : ((M % 128#64).setWidth 8).toNat = M.toNat % 128 := by
                  rw [BitVec.toNat_setWidth, BitVec.toNat_umod]; show M.toNat % 128 % 256 = _; omega
                rw [byD_true _ (by omega), hdn, hM]; omega
              | succ j =>
                have := g3 j (by simpa using hj)
                rw [show i + (j + 1) = i + 1 + j by omega, ← this]; rfl
end Go.Proofs.Ytmnbbpckglppjaa
