/- The program's sum is the document's sum. -/
import Derived.Test.YtiibjaommelkkaaShk
set_option linter.unusedVariables false
set_option linter.unusedSimpArgs false
set_option maxRecDepth 100000
namespace Go.Proofs.Ytiibjaommelkkaa
open Go Go.Eng

theorem div_shr (x : BitVec 32) (n : Nat) (c : BitVec 32) (h : c.toNat = 2 ^ n) : x / c = x >>> n := by
  apply BitVec.eq_of_toNat_eq
  rw [BitVec.toNat_udiv, BitVec.toNat_ushiftRight, Nat.shiftRight_eq_div_pow, h]
theorem s0_eq (x : BitVec 32) : s0W x = s0R x := by
  rw [s0W, s0R, rotN_eq x 7 (by decide), rotN_eq x 18 (by decide), div_shr x 3 8#32 rfl]
theorem s1_eq (x : BitVec 32) : s1W x = s1R x := by
  rw [s1W, s1R, rotN_eq x 17 (by decide), rotN_eq x 19 (by decide), div_shr x 10 1024#32 rfl]
theorem not_sub (x : BitVec 32) : ~~~ x = 4294967295#32 - x := by
  apply BitVec.eq_of_toNat_eq
  have hx := x.isLt
  have e : (4294967295#32).toNat = 4294967295 := rfl
  rw [BitVec.toNat_not, BitVec.toNat_sub, e]
  omega
theorem t_eq (V : List (BitVec 32)) (q w : BitVec 32) : tW V q w = rT V q w := by
  rw [tW, rT, not_sub, rotN_eq _ 6 (by decide), rotN_eq _ 11 (by decide), rotN_eq _ 25 (by decide)]
theorem u_eq (V : List (BitVec 32)) : uW V = rU V := by
  rw [uW, rU, rotN_eq _ 2 (by decide), rotN_eq _ 13 (by decide), rotN_eq _ 22 (by decide)]
theorem round_eq (V : List (BitVec 32)) (q w : BitVec 32) : roundW V q w = rRound V q w := by
  rw [roundW, rRound, t_eq, u_eq]
theorem rds_eq (w V : List (BitVec 32)) (n : Nat) : rds w V n = rrds w V n := by
  induction n with
  | zero => rfl
  | succ n ih => rw [rds, rrds, ih, round_eq]
theorem add_eq (L V : List (BitVec 32)) (h : L.length = 8) : addN L V 8 = rAdd L V := by
  match L, h with
  | [a, b, c, d, e, f, g, h], _ => rfl
theorem word4 (a b c d : BitVec 8) : (a.setWidth 32 <<< 24) ||| (b.setWidth 32 <<< 16) ||| (c.setWidth 32 <<< 8) ||| d.setWidth 32 = 256#32 * (256#32 * (256#32 * (256#32 * 0#32 + a.setWidth 32) + b.setWidth 32) + c.setWidth 32) + d.setWidth 32 := by
  have ha := a.isLt
  have hb := b.isLt
  have hc := c.isLt
  have hd := d.isLt
  apply BitVec.eq_of_toNat_eq
  have e : (256#32).toNat = 256 := rfl
  have e0 : (0#32).toNat = 0 := rfl
  simp only [BitVec.toNat_or, BitVec.toNat_shiftLeft, BitVec.toNat_add, BitVec.toNat_mul, BitVec.toNat_setWidth, e, e0, Nat.shiftLeft_eq]
  generalize a.toNat = a at *
  generalize b.toNat = b at *
  generalize c.toNat = c at *
  generalize d.toNat = d at *
  have r1 : a % 2 ^ 32 * 2 ^ 24 % 2 ^ 32 = a * 2 ^ 24 := by
    rw [Nat.mod_eq_of_lt (a := a) (Nat.lt_trans ha (by decide)), Nat.mod_eq_of_lt]
    exact Nat.lt_of_lt_of_le (Nat.mul_lt_mul_of_pos_right ha (by decide)) (by decide)
  have r2 : b % 2 ^ 32 * 2 ^ 16 % 2 ^ 32 = b * 2 ^ 16 := by
    rw [Nat.mod_eq_of_lt (a := b) (Nat.lt_trans hb (by decide)), Nat.mod_eq_of_lt]
    exact Nat.lt_of_lt_of_le (Nat.mul_lt_mul_of_pos_right hb (by decide)) (by decide)
  have r3 : c % 2 ^ 32 * 2 ^ 8 % 2 ^ 32 = c * 2 ^ 8 := by
    rw [Nat.mod_eq_of_lt (a := c) (Nat.lt_trans hc (by decide)), Nat.mod_eq_of_lt]
    exact Nat.lt_of_lt_of_le (Nat.mul_lt_mul_of_pos_right hc (by decide)) (by decide)
  have r4 : d % 2 ^ 32 = d := by omega
  have o1 : a * 2 ^ 24 ||| b * 2 ^ 16 = (a * 256 + b) * 2 ^ 16 := by
    rw [or_field a (b * 2 ^ 16) 24 (by omega)]; omega
  have o2 : (a * 256 + b) * 2 ^ 16 ||| c * 2 ^ 8 = ((a * 256 + b) * 256 + c) * 2 ^ 8 := by
    rw [or_field _ (c * 2 ^ 8) 16 (by omega)]; omega
  rw [r1, r2, r3, r4, o1, o2, or_field _ d 8 (by omega)]
  omega
theorem getD_drop' (b : List (BitVec 8)) (m k : Nat) : (b.drop m).getD k 0 = b.getD (m + k) 0 := by
  simp only [List.getD_eq_getElem?_getD, List.getElem?_drop]
theorem getD_take' (b : List (BitVec 8)) (m k : Nat) (h : k < m) : (b.take m).getD k 0 = b.getD k 0 := by
  simp only [List.getD_eq_getElem?_getD, List.getElem?_take, if_pos h]
theorem word_eq (b : List (BitVec 8)) (n : Nat) (h : n < 16) : wordB (b.drop (4 * n)) = rwB (b.take 64) n 4 := by
  rw [wordB, getD_drop', getD_drop', getD_drop', getD_drop', word4]
  rw [rwB, rwB, rwB, rwB, rwB, getD_take' _ _ _ (by omega), getD_take' _ _ _ (by omega), getD_take' _ _ _ (by omega), getD_take' _ _ _ (by omega)]
theorem wl_eq (b : List (BitVec 8)) (n : Nat) : wl b n = rl (b.take 64) n := by
  induction n with
  | zero => rfl
  | succ n ih =>
    rw [wl, rl, ih, wNext, rNext]
    split
    · rename_i h; rw [word_eq b n h]
    · rw [s0_eq, s1_eq]
theorem block_eq (L : List (BitVec 32)) (hL : L.length = 8) (b : List (BitVec 8)) : blockW L b = rBlock L (b.take 64) := by
  rw [blockW, rBlock, add_eq L _ hL, rds_eq, wl_eq]
def rblG (W : List (BitVec 32)) (b : List (BitVec 8)) : Nat → List (BitVec 32)
  | 0 => W
  | n + 1 => rBlock (rblG W b n) ((b.drop (64 * n)).take 64)
theorem rblG_rBl (b : List (BitVec 8)) (n : Nat) : rBl b n = rblG beginL b n := by
  induction n with
  | zero => rfl
  | succ n ih => rw [rBl, rblG, ih]
theorem bl_eq (W : List (BitVec 32)) (hW : W.length = 8) (b : List (BitVec 8)) (n : Nat) : bl W b n = rblG W b n := by
  induction n with
  | zero => rfl
  | succ n ih => rw [bl, rblG, block_eq _ (by rw [bl_len, hW]), ih]
theorem rblG_app1 (W : List (BitVec 32)) (X Y P : List (BitVec 8)) : ∀ n, 64 * n ≤ X.length → rblG W (X ++ Y) n = rblG W (X ++ P) n
  | 0, _ => rfl
  | n + 1, h => by
    rw [rblG, rblG, rblG_app1 W X Y P n (by omega), List.drop_append_of_le_length (by omega), List.drop_append_of_le_length (by omega), List.take_append_of_le_length (by rw [List.length_drop]; omega), List.take_append_of_le_length (by rw [List.length_drop]; omega)]
theorem rblG_app2 (W : List (BitVec 32)) (X P : List (BitVec 8)) (k : Nat) (h : X.length = 64 * k) : ∀ j, rblG (rblG W (X ++ P) k) P j = rblG W (X ++ P) (k + j)
  | 0 => rfl
  | j + 1 => by
    rw [rblG, rblG_app2 W X P k h j, ← Nat.add_assoc, rblG]
    have : (X ++ P).drop (64 * (k + j)) = P.drop (64 * j) := by
      rw [List.drop_append, List.drop_eq_nil_of_le (by omega), List.nil_append]
      congr 1; omega
    rw [this]
theorem pw_toNat : ∀ n : Fin 8, (pw n.val).toNat = 2 ^ (8 * (7 - n.val)) := by decide
theorem by_eq (m : BitVec 64) : ∀ n, n ≤ 8 → ry8 m n = by8 m n
  | 0, _ => rfl
  | n + 1, h => by
    rw [ry8, by8, by_eq m n (by omega)]
    congr 2
    apply BitVec.eq_of_toNat_eq
    have hp := pw_toNat ⟨n, by omega⟩
    simp only at hp
    have e : (256#64).toNat = 256 := rfl
    rw [BitVec.toNat_setWidth, BitVec.toNat_setWidth, BitVec.toNat_umod, BitVec.toNat_udiv, BitVec.toNat_ushiftRight, Nat.shiftRight_eq_div_pow, hp, e]
    omega
theorem pad_eq (b : List (BitVec 8)) : padR b = b.take (64 * (b.length / 64)) ++ padL (b.drop (64 * (b.length / 64))) ((0 + BitVec.ofNat 64 b.length) * 8#64) := by
  have hz : zN (b.drop (64 * (b.length / 64))).length = zN b.length := by
    rw [zN, zN, List.length_drop]; omega
  have hm : (0 + BitVec.ofNat 64 b.length) * 8#64 = 8#64 * BitVec.ofNat 64 b.length := by
    show (0#64 + BitVec.ofNat 64 b.length) * 8#64 = _
    rw [BitVec.zero_add, BitVec.mul_comm]
  rw [padR, rpE, padL, padE, hz, hm, by_eq _ 8 (Nat.le_refl _), padZ, padZ]
  simp only [← List.append_assoc, List.take_append_drop]
theorem outN_all (W : List (BitVec 32)) : outN W 32 = [outB W 0, outB W 1, outB W 2, outB W 3, outB W 4, outB W 5, outB W 6, outB W 7, outB W 8, outB W 9, outB W 10, outB W 11, outB W 12, outB W 13, outB W 14, outB W 15, outB W 16, outB W 17, outB W 18, outB W 19, outB W 20, outB W 21, outB W 22, outB W 23, outB W 24, outB W 25, outB W 26, outB W 27, outB W 28, outB W 29, outB W 30, outB W 31] := by
  simp only [outN, List.replicate_succ, List.replicate_zero, List.set_cons_zero, List.set_cons_succ]
theorem b4_eq (x : BitVec 32) : b4 x = [(x >>> 24).setWidth 8, (x >>> 16).setWidth 8, (x >>> 8).setWidth 8, (x >>> 0).setWidth 8] := by
  rw [b4, div_shr x 24 16777216#32 rfl, div_shr x 16 65536#32 rfl, div_shr x 8 256#32 rfl, BitVec.ushiftRight_zero]
theorem out_eq (W : List (BitVec 32)) : outN W 32 = outR W 8 := by
  simp only [outN_all, outR, b4_eq, outB, Nat.reduceDiv, Nat.reduceMod, Nat.reduceMul, Nat.reduceSub, List.nil_append, List.cons_append]
theorem sha_eq (b : List (BitVec 8)) : shaP b = shaR b := by
  rw [shaP, shaR, out_eq, sumW]
  congr 1
  have hk : (b.take (64 * (b.length / 64))).length = 64 * (b.length / 64) := by rw [List.length_take]; omega
  have hpl := padL_mod (b.drop (64 * (b.length / 64))) ((0 + BitVec.ofNat 64 b.length) * 8#64)
  rw [bl_eq beginL rfl, pad_eq b]
  generalize padL (b.drop (64 * (b.length / 64))) ((0 + BitVec.ofNat 64 b.length) * 8#64) = P at *
  have h1 : rblG beginL b (b.length / 64) = rblG beginL (b.take (64 * (b.length / 64)) ++ P) (b.length / 64) := by
    have := rblG_app1 beginL (b.take (64 * (b.length / 64))) (b.drop (64 * (b.length / 64))) P (b.length / 64) (by omega)
    rwa [List.take_append_drop] at this
  rw [h1, rblG_rBl]
  have h2 : (b.take (64 * (b.length / 64)) ++ P).length / 64 = b.length / 64 + P.length / 64 := by rw [List.length_append, hk]; omega
  rw [h2, ← rblG_app2 beginL _ P _ hk]
  refine bl_eq _ ?_ _ _
  cases hc : b.length / 64 with
  | zero => rfl
  | succ n => rfl
end Go.Proofs.Ytiibjaommelkkaa
