/- The branch coder answers what the document says; and what was told on is told back. Plain. -/
import Derived.Test.YtiibjaommelkkaaBrani
set_option linter.unusedVariables false
set_option linter.unusedSimpArgs false
set_option maxRecDepth 100000
namespace Go.Proofs.Ytiibjaommelkkaa
open Go Go.Eng

theorem byteN_nat (high : Bool) (t : BitVec 32) (i : Nat) : byteN high t i = BitVec.ofNat 8 (t.toNat / 2 ^ shiftN high i) := by
  apply BitVec.eq_of_toNat_eq
  rw [byteN, BitVec.toNat_setWidth, BitVec.toNat_ushiftRight, BitVec.toNat_ofNat, Nat.shiftRight_eq_div_pow]
theorem bytesN (high : Bool) (t : BitVec 32) : [byteN high t 0, byteN high t 1, byteN high t 2, byteN high t 3] = fourL high t.toNat := by
  simp only [byteN_nat]
  cases high <;> simp [shiftN, fourL]
theorem shl_nat (q : BitVec 8) (s : Nat) (hs : s ≤ 24) : ((q.setWidth 32) <<< s).toNat = q.toNat * 2 ^ s := by
  have := q.isLt
  have hp : 2 ^ s ≤ 2 ^ 24 := Nat.pow_le_pow_right (by decide) hs
  have h2 : q.toNat * 2 ^ s ≤ 255 * 2 ^ 24 := Nat.mul_le_mul (by omega) hp
  rw [BitVec.toNat_shiftLeft, BitVec.toNat_setWidth, Nat.shiftLeft_eq, Nat.mod_eq_of_lt (a := q.toNat) (by omega), Nat.mod_eq_of_lt (by omega)]
theorem word_num (high : Bool) (q : List (BitVec 8)) : (wordN high q 4).toNat = numN high q 4 := by
  have h0 := (q.getD 0 0).isLt
  have h1 := (q.getD 1 0).isLt
  have h2 := (q.getD 2 0).isLt
  have h3 := (q.getD 3 0).isLt
  cases high with
  | true =>
    have e : (wordN true q 4) = (0#32 ||| ((q.getD 0 0).setWidth 32 <<< 24)) ||| ((q.getD 1 0).setWidth 32 <<< 16) ||| ((q.getD 2 0).setWidth 32 <<< 8) ||| ((q.getD 3 0).setWidth 32 <<< 0) := rfl
    rw [e]
    simp only [BitVec.toNat_or]
    rw [shl_nat _ 24 (by decide), shl_nat _ 16 (by decide), shl_nat _ 8 (by decide), shl_nat _ 0 (by decide)]
    simp only [numN, if_true, Nat.zero_add]
    generalize (q.getD 0 0).toNat = a at *
    generalize (q.getD 1 0).toNat = b at *
    generalize (q.getD 2 0).toNat = c at *
    generalize (q.getD 3 0).toNat = d at *
    have z : (0#32).toNat = 0 := rfl
    rw [z, Nat.zero_or, Nat.or_assoc, Nat.or_assoc, or_field c _ 8 (by omega), or_field b _ 16 (by omega), or_field a _ 24 (by omega)]
    omega
  | false =>
    have e : (wordN false q 4) = (0#32 ||| ((q.getD 0 0).setWidth 32 <<< 0)) ||| ((q.getD 1 0).setWidth 32 <<< 8) ||| ((q.getD 2 0).setWidth 32 <<< 16) ||| ((q.getD 3 0).setWidth 32 <<< 24) := rfl
    rw [e]
    simp only [BitVec.toNat_or]
    rw [shl_nat _ 24 (by decide), shl_nat _ 16 (by decide), shl_nat _ 8 (by decide), shl_nat _ 0 (by decide)]
    have e2 : numN false q 4 = 256 * (256 * (256 * (256 * 0 + (q.getD 3 0).toNat) + (q.getD 2 0).toNat) + (q.getD 1 0).toNat) + (q.getD 0 0).toNat := rfl
    rw [e2]
    generalize (q.getD 0 0).toNat = a at *
    generalize (q.getD 1 0).toNat = b at *
    generalize (q.getD 2 0).toNat = c at *
    generalize (q.getD 3 0).toNat = d at *
    have z : (0#32).toNat = 0 := rfl
    have e3 : ((0 ||| a * 2 ^ 0) ||| b * 2 ^ 8 ||| c * 2 ^ 16) ||| d * 2 ^ 24 = d * 2 ^ 24 ||| (c * 2 ^ 16 ||| (b * 2 ^ 8 ||| a * 2 ^ 0)) := by
      rw [Nat.zero_or]; ac_rfl
    rw [z, e3, or_field b _ 8 (by omega), or_field c _ 16 (by omega), or_field d _ 24 (by omega)]
    omega
theorem numN_take (high : Bool) (D : List (BitVec 8)) : ∀ n, n ≤ 4 → numN high (D.take 4) n = numN high D n
  | 0, _ => rfl
  | n + 1, h => by
    rw [numN, numN, numN_take high D n (by omega)]
    congr 2
    simp only [List.getD_eq_getElem?_getD, List.getElem?_take]
    rw [if_pos (by split <;> omega)]
theorem putN_app (high : Bool) (t : BitVec 32) (A D : List (BitVec 8)) (o : Nat) (hA : A.length = o) (hD : 4 ≤ D.length) : putN high t (A ++ D) o 4 = A ++ fourL high t.toNat ++ D.drop 4 := by
  match D, hD with
  | d0 :: d1 :: d2 :: d3 :: D', _ =>
    subst hA
    rw [← bytesN]
    simp only [putN, List.append_assoc]
    simp [List.set_append_right]
theorem coded_eq (id : Int) (hid : mayId id) (st : BitVec 32) (hst : st.toNat % 4 = 0) (back : Bool) (b : List (BitVec 8)) (hb : b.length ≤ 1000000) : ∀ k, 4 * k ≤ b.length → coded (highI id) (turnW id) st back b k = refL id st.toNat back b k ++ b.drop (4 * k)
  | 0, _ => rfl
  | k + 1, h => by
    have ih := coded_eq id hid st hst back b hb k (by omega)
    have hl := refL_len id st.toNat back b k
    have hdl : 4 ≤ (b.drop (4 * k)).length := by rw [List.length_drop]; omega
    rw [coded, ih]
    have e1 : (refL id st.toNat back b k ++ b.drop (4 * k)).drop (4 * k) = b.drop (4 * k) := by
      rw [← hl, List.drop_left']
      rfl
    have hsl := st.isLt
    have hp : (st + BitVec.ofNat 32 (4 * k)).toNat = (st.toNat + 4 * k) % 4294967296 := by
      rw [BitVec.toNat_add, BitVec.toNat_ofNat]; omega
    rw [e1, putN_app _ _ _ _ _ hl hdl, refL, refF]
    have ht := turnW_nat id hid (wordN (highI id) (b.drop (4 * k)) 4) (st + BitVec.ofNat 32 (4 * k)) back (by rw [hp]; omega)
    rw [word_num, hp] at ht
    rw [numN_take _ _ 4 (by decide), ← ht, Int.toNat_natCast, List.drop_drop, show 4 * k + 4 = 4 * (k + 1) by omega]
/-- what the document answers -/
def refX (id : Int) (st : BitVec 32) (back : Bool) (b : List (BitVec 8)) : List (BitVec 8) := refL id st.toNat back b (b.length / 4) ++ b.drop (4 * (b.length / 4))
theorem refX_len (id : Int) (st : BitVec 32) (back : Bool) (b : List (BitVec 8)) : (refX id st back b).length = b.length := by
  rw [refX, List.length_append, refL_len, List.length_drop]; omega
theorem refX_drop (id : Int) (st : BitVec 32) (back : Bool) (b : List (BitVec 8)) : (refX id st back b).drop (4 * (b.length / 4)) = b.drop (4 * (b.length / 4)) := by
  rw [refX, List.drop_append_of_le_length (by rw [refL_len]; exact Nat.le_refl _), List.drop_eq_nil_of_le (by rw [refL_len]; exact Nat.le_refl _), List.nil_append]
/-- a four of what is answered -/
theorem refX_four (id : Int) (st : BitVec 32) (back : Bool) (b : List (BitVec 8)) (k : Nat) (hk : k < b.length / 4) : ((refX id st back b).drop (4 * k)).take 4 = refF id st.toNat back b k := by
  have key : ∀ n, k < n → ∀ R : List (BitVec 8), ((refL id st.toNat back b n ++ R).drop (4 * k)).take 4 = refF id st.toNat back b k := by
    intro n
    induction n with
    | zero => intro h; omega
    | succ n ih =>
      intro h R
      rcases Nat.lt_or_ge k n with h' | h'
      · rw [refL, List.append_assoc]; exact ih h' _
      · have : k = n := by omega
        subst this
        rw [refL, List.append_assoc, List.drop_append_of_le_length (by rw [refL_len]; exact Nat.le_refl _), List.drop_eq_nil_of_le (by rw [refL_len]; exact Nat.le_refl _), List.nil_append,
          List.take_append_of_le_length (by rw [refF_len]; exact Nat.le_refl _), List.take_of_length_le (by rw [refF_len]; exact Nat.le_refl _)]
  exact key _ hk _
theorem num_four (high : Bool) (n : Nat) (hn : n < 4294967296) : numN high (fourL high n) 4 = n := by
  cases high with
  | true =>
    have e : numN true (fourL true n) 4 = 256 * (256 * (256 * (256 * 0 + n / 16777216 % 2 ^ 8) + n / 65536 % 2 ^ 8) + n / 256 % 2 ^ 8) + n % 2 ^ 8 := rfl
    rw [e]; omega
  | false =>
    have e : numN false (fourL false n) 4 = 256 * (256 * (256 * (256 * 0 + n / 16777216 % 2 ^ 8) + n / 65536 % 2 ^ 8) + n / 256 % 2 ^ 8) + n % 2 ^ 8 := rfl
    rw [e]; omega
theorem four_num (high : Bool) (q : List (BitVec 8)) (hq : q.length = 4) : fourL high (numN high q 4) = q := by
  match q, hq with
  | [a, b, c, d], _ =>
    have h0 := a.isLt
    have h1 := b.isLt
    have h2 := c.isLt
    have h3 := d.isLt
    have key : ∀ (x y z w : BitVec 8), [BitVec.ofNat 8 ((256 * (256 * (256 * (256 * 0 + x.toNat) + y.toNat) + z.toNat) + w.toNat) / 16777216), BitVec.ofNat 8 ((256 * (256 * (256 * (256 * 0 + x.toNat) + y.toNat) + z.toNat) + w.toNat) / 65536),
        BitVec.ofNat 8 ((256 * (256 * (256 * (256 * 0 + x.toNat) + y.toNat) + z.toNat) + w.toNat) / 256), BitVec.ofNat 8 (256 * (256 * (256 * (256 * 0 + x.toNat) + y.toNat) + z.toNat) + w.toNat)] = [x, y, z, w] := fun x y z w => by
      have h0 := x.isLt
      have h1 := y.isLt
      have h2 := z.isLt
      have h3 := w.isLt
      congr 1
      · apply BitVec.eq_of_toNat_eq; rw [BitVec.toNat_ofNat]; omega
      congr 1
      · apply BitVec.eq_of_toNat_eq; rw [BitVec.toNat_ofNat]; omega
      congr 1
      · apply BitVec.eq_of_toNat_eq; rw [BitVec.toNat_ofNat]; omega
      congr 1
      · apply BitVec.eq_of_toNat_eq; rw [BitVec.toNat_ofNat]; omega
    cases high with
    | true => exact key a b c d
    | false =>
      have := congrArg List.reverse (key d c b a)
      exact this
theorem refX_back (id : Int) (hid : mayId id) (st : BitVec 32) (hst : st.toNat % 4 = 0) (back : Bool) (b : List (BitVec 8)) : refX id st (!back) (refX id st back b) = b := by
  have hl := refX_len id st back b
  have key : ∀ k, k ≤ b.length / 4 → refL id st.toNat (!back) (refX id st back b) k = b.take (4 * k) := by
    intro k
    induction k with
    | zero => intro _; rfl
    | succ k ih =>
      intro h
      rw [refL, ih (by omega), refF, refX_four id st back b k (by omega)]
      have hq : ((b.drop (4 * k)).take 4).length = 4 := by rw [List.length_take, List.length_drop]; omega
      have hn := numN_lt (highI id) ((b.drop (4 * k)).take 4) 4
      have hn' : numN (highI id) ((b.drop (4 * k)).take 4) 4 < 4294967296 := hn
      obtain ⟨tn, h1, h2⟩ := turnI_range id hid _ hn' ((st.toNat + 4 * k) % 4294967296) (Nat.mod_lt _ (by decide)) (by omega) back
      have hb := turnI_back id hid (numN (highI id) ((b.drop (4 * k)).take 4) 4 : Nat) (((st.toNat + 4 * k) % 4294967296 : Nat) : Int) back (by omega) (by omega) (by omega) (by omega) (by omega)
      rw [refF, h2, Int.toNat_natCast, num_four _ _ h1, ← h2, hb, Int.toNat_natCast, four_num _ _ hq]
      rw [show 4 * (k + 1) = 4 * k + 4 by omega, List.take_add]
  rw [refX, hl, key _ (Nat.le_refl _), refX_drop, List.take_append_drop]
end Go.Proofs.Ytiibjaommelkkaa
