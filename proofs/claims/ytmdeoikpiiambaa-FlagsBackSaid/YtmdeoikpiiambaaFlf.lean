/- A stream's ends: the plain law: what was written is read as it was; one bit turned is told. -/
import Derived.Test.YtmdeoikpiiambaaEng35
import Derived.Test.YtmdeoikpiiambaaFle
set_option linter.unusedVariables false
set_option linter.unusedSimpArgs false
set_option maxRecDepth 100000
namespace Go.Proofs.Ytmdeoikpiiambaa
open Go Go.Eng

def diffs (a b : List (BitVec 8)) : List (BitVec 8) := List.zipWith (· ^^^ ·) a b
theorem fold_diff : ∀ (a b : List (BitVec 8)) (r s : BitVec 32), a.length = b.length → a.foldl byte32 r ^^^ b.foldl byte32 s = (diffs a b).foldl byte32 (r ^^^ s)
  | [], [], r, s, _ => rfl
  | x :: a, y :: b, r, s, h => by
    simp only [List.foldl_cons, diffs, List.zipWith_cons_cons]
    rw [fold_diff a b _ _ (by simpa using h)]
    unfold diffs
    congr 1
    unfold byte32
    rw [← gn_xor, BitVec.setWidth_xor]
    congr 1
    ac_rfl
  | [], y :: b, r, s, h => by simp at h
  | x :: a, [], r, s, h => by simp at h
/-- one byte changed -/
def setX (L : List (BitVec 8)) (i : Nat) (e : BitVec 8) : List (BitVec 8) := L.set i (L.getD i 0 ^^^ e)
theorem setX_len (L : List (BitVec 8)) (i : Nat) (e : BitVec 8) : (setX L i e).length = L.length := List.length_set ..
theorem setX_ne {L : List (BitVec 8)} {i : Nat} {e : BitVec 8} (hi : i < L.length) (he : e ≠ 0#8) : setX L i e ≠ L := fun h => by
  have h1 := congrArg (fun l => l.getD i 0) h
  have h1 : (L.set i (L.getD i 0 ^^^ e)).getD i 0 = L.getD i 0 := h1
  rw [List.getD_eq_getElem?_getD, List.getElem?_set_self hi] at h1
  have h1 : L.getD i 0 ^^^ e = L.getD i 0 := h1
  have h2 := congrArg (fun x => L.getD i 0 ^^^ x) h1
  have h2 : L.getD i 0 ^^^ (L.getD i 0 ^^^ e) = L.getD i 0 ^^^ L.getD i 0 := h2
  rw [← BitVec.xor_assoc, BitVec.xor_self, BitVec.zero_xor] at h2
  exact he h2
theorem setX_take (L : List (BitVec 8)) (i k : Nat) (e : BitVec 8) : (setX L i e).take k = if i < k then setX (L.take k) i e else L.take k := by
  rw [setX, List.take_set]
  by_cases h : i < k
  · rw [if_pos h, setX]
    congr 2
    rw [List.getD_eq_getElem?_getD, List.getD_eq_getElem?_getD, List.getElem?_take, if_pos h]
  · rw [if_neg h, List.set_eq_of_length_le (by rw [List.length_take]; omega)]
theorem setX_drop (L : List (BitVec 8)) (i k : Nat) (e : BitVec 8) : (setX L i e).drop k = if i < k then L.drop k else setX (L.drop k) (i - k) e := by
  rw [setX, List.drop_set]
  by_cases h : i < k
  · rw [if_pos h, if_pos h]
  · rw [if_neg h, if_neg h, setX]
    congr 2
    rw [List.getD_eq_getElem?_getD, List.getD_eq_getElem?_getD, List.getElem?_drop, show k + (i - k) = i by omega]
theorem diffs_self : ∀ L : List (BitVec 8), diffs L L = List.replicate L.length 0#8
  | [] => rfl
  | x :: r => by
    show (x ^^^ x) :: diffs r r = _
    rw [diffs_self r, BitVec.xor_self]; rfl
theorem diffs_setX : ∀ (L : List (BitVec 8)) (i : Nat) (e : BitVec 8), i < L.length → diffs (setX L i e) L = (List.replicate L.length 0#8).set i e
  | [], _, _, h => by cases h
  | x :: r, 0, e, _ => by
    show ((x ^^^ e) ^^^ x) :: diffs r r = _
    rw [diffs_self r, BitVec.xor_comm x e, BitVec.xor_assoc, BitVec.xor_self, BitVec.xor_zero]; rfl
  | x :: r, i + 1, e, h => by
    show (x ^^^ x) :: diffs (setX r i e) r = _
    rw [diffs_setX r i e (by rw [List.length_cons] at h; omega), BitVec.xor_self]; rfl
theorem bit_crc : ∀ n, n = 2 ∨ n = 6 → ∀ i, i < n → ∀ s, s < 8 → ((List.replicate n 0#8).set i (1#8 <<< s)).foldl byte32 0#32 ≠ 0#32 := by
  have h : ([2, 6] : List Nat).all (fun n => (List.range n).all fun i => (List.range 8).all fun s => ((List.replicate n 0#8).set i (1#8 <<< s)).foldl byte32 0#32 != 0#32) = true := by kernel_rfl
  intro n hn i hi s hs
  have h1 := List.all_eq_true.1 h n (by rcases hn with rfl | rfl <;> simp)
  have h2 := List.all_eq_true.1 h1 i (List.mem_range.2 hi)
  have h3 := List.all_eq_true.1 h2 s (List.mem_range.2 hs)
  simpa using h3
theorem lowS4 (n : BitVec 64) : lowS n 4 = [n.setWidth 8, (n >>> 8).setWidth 8, (n >>> 16).setWidth 8, (n >>> 24).setWidth 8] := by
  simp [lowS]
theorem num_low (n : BitVec 64) (R : List (BitVec 8)) : numN (lowS n 4 ++ R) 4 = n.toNat % 4294967296 := by
  rw [lowS4]
  show 256 * (256 * (256 * (256 * 0 + ((n >>> 24).setWidth 8).toNat) + ((n >>> 16).setWidth 8).toNat) + ((n >>> 8).setWidth 8).toNat) + (n.setWidth 8).toNat = _
  simp only [BitVec.toNat_setWidth, BitVec.toNat_ushiftRight, Nat.shiftRight_eq_div_pow]
  have h2 : n.toNat / 2 ^ 16 = n.toNat / 256 / 256 := by rw [Nat.div_div_eq_div_mul]
  have h3 : n.toNat / 2 ^ 24 = n.toNat / 256 / 256 / 256 := by rw [Nat.div_div_eq_div_mul, Nat.div_div_eq_div_mul]
  have h1 : n.toNat / 2 ^ 8 = n.toNat / 256 := rfl
  rw [h1, h2, h3]
  generalize n.toNat = a
  show 256 * (256 * (256 * (256 * 0 + a / 256 / 256 / 256 % 256) + a / 256 / 256 % 256) + a / 256 % 256) + a % 256 = a % 4294967296
  omega
theorem low_inj {x y : BitVec 32} (h : lowS (x.setWidth 64) 4 = lowS (y.setWidth 64) 4) : x = y := by
  have h1 := congrArg (fun l => numN (l ++ []) 4) h
  have h1 : numN (lowS (x.setWidth 64) 4 ++ []) 4 = numN (lowS (y.setWidth 64) 4 ++ []) 4 := h1
  rw [num_low, num_low, BitVec.toNat_setWidth, BitVec.toNat_setWidth] at h1
  apply BitVec.eq_of_toNat_eq
  have := x.isLt
  have := y.isLt
  omega
theorem chk1_ne (B : List (BitVec 8)) (hB : B.length = 2 ∨ B.length = 6) (i s : Nat) (hi : i < B.length) (hs : s < 8) : chk 1 (setX B i (1#8 <<< s)) ≠ chk 1 B := fun h => by
  have h1 : on32 0 (setX B i (1#8 <<< s)) = on32 0 B := low_inj h
  unfold on32 at h1
  have h2 := congrArg (fun x => ~~~ x) h1
  simp only [BitVec.not_not] at h2
  have h3 := fold_diff (setX B i (1#8 <<< s)) B (~~~ 0#32) (~~~ 0#32) (setX_len ..)
  rw [diffs_setX B i _ hi, BitVec.xor_self] at h3
  refine bit_crc B.length hB i hi s hs ?_
  rw [← h3]
  have h4 : (setX B i (1#8 <<< s)).foldl byte32 (~~~ 0#32) = B.foldl byte32 (~~~ 0#32) := h2
  rw [h4, BitVec.xor_self]
theorem byC_of {c : Int} (hc : isC c = true) : ((byC c).toNat : Int) = c := by
  unfold isC at hc
  simp only [Bool.or_eq_true, beq_iff_eq] at hc
  rcases hc with ((rfl | rfl) | rfl) | rfl <;> rfl
theorem head_parts (c : Int) : (headX c).length = 12 ∧ (headX c).take 6 = magicL ∧ ((headX c).drop 6).take 2 = flgL c ∧ ((headX c).drop 8).take 4 = chk 1 (flgL c) ∧ (headX c).drop 6 = flgL c ++ chk 1 (flgL c) := by
  have h4 := chk1_len (flgL c)
  have e : headX c = [253, 55, 122, 88, 90, 0, 0, byC c] ++ chk 1 (flgL c) := rfl
  refine ⟨by rw [e, List.length_append, h4]; rfl, rfl, rfl, ?_, rfl⟩
  have e8 : (headX c).drop 8 = chk 1 (flgL c) := rfl
  rw [e8, List.take_of_length_le (by omega)]
theorem rdF_cons {c : Int} (hc : isC c = true) (R : List (BitVec 8)) : rdF (flgL c ++ R) = (c, 0) := by
  have h := byC_of hc
  show (if (0#8 : BitVec 8) = 0#8 ∧ isC ((byC c).toNat : Int) = true then (((byC c).toNat : Int), (0 : Int)) else (0, 5)) = _
  rw [h, if_pos ⟨rfl, hc⟩]
theorem head_read {c : Int} (hc : isC c = true) : rHead (headX c) = (c, 0) := by
  obtain ⟨h1, h2, h3, h4, h5⟩ := head_parts c
  rw [rHead, if_neg (by omega), if_pos h2, h3, if_pos h4, h5, rdF_cons hc]
theorem one_shl : ∀ s, s < 8 → (1#8 <<< s) ≠ 0#8 := by decide
theorem head_bit (c : Int) (i s : Nat) (hi : i < 12) (hs : s < 8) : (rHead (setX (headX c) i (1#8 <<< s))).2 ≠ 0 := by
  obtain ⟨h1, h2, h3, h4, h5⟩ := head_parts c
  have he := one_shl s hs
  have hl : ¬ (setX (headX c) i (1#8 <<< s)).length < 12 := by rw [setX_len]; omega
  by_cases a : i < 6
  · have t6 : ¬ (setX (headX c) i (1#8 <<< s)).take 6 = magicL := by
      rw [setX_take, if_pos a, h2]
      exact setX_ne (by exact a) he
    rw [rHead, if_neg hl, if_neg t6]; decide
  have t6 : (setX (headX c) i (1#8 <<< s)).take 6 = magicL := by rw [setX_take, if_neg a, h2]
  have n4 : ¬ ((setX (headX c) i (1#8 <<< s)).drop 8).take 4 = chk 1 (((setX (headX c) i (1#8 <<< s)).drop 6).take 2) := by
    rw [setX_drop _ _ 6, if_neg a, setX_take, h3]
    by_cases b : i < 8
    · rw [setX_drop, if_pos b, h4, if_pos (by omega)]
      exact fun e => chk1_ne (flgL c) (.inl rfl) (i - 6) s (by show i - 6 < 2; omega) hs e.symm
    · rw [setX_drop, if_neg b, setX_take, if_pos (by omega), h4, if_neg (by omega)]
      exact setX_ne (by rw [chk1_len]; omega) he
  rw [rHead, if_neg hl, if_pos t6, if_neg n4]; decide
theorem foot_parts (c : Int) (q : Nat) : (footX c q).length = 12 ∧ (footX c q).take 4 = chk 1 (footB c q) ∧ (footX c q).drop 4 = footB c q ++ endsL ∧ ((footX c q).drop 4).take 6 = footB c q ∧ ((footX c q).drop 10).take 2 = endsL ∧ (footX c q).drop 8 = flgL c ++ endsL := by
  have h4 := chk1_len (footB c q)
  have h6 := footB_len c q
  have d4 : (footX c q).drop 4 = footB c q ++ endsL := by rw [footX, List.append_assoc, List.drop_append_of_le_length (by omega), List.drop_of_length_le (by omega), List.nil_append]
  have d10 : (footX c q).drop 10 = endsL := by rw [show (footX c q).drop 10 = ((footX c q).drop 4).drop 6 by rw [List.drop_drop], d4, List.drop_append_of_le_length (by omega), List.drop_of_length_le (by omega), List.nil_append]
  have d8 : (footX c q).drop 8 = flgL c ++ endsL := by
    rw [show (footX c q).drop 8 = ((footX c q).drop 4).drop 4 by rw [List.drop_drop], d4, footB, List.append_assoc, List.drop_append_of_le_length (by rw [lowS_len]; omega), List.drop_of_length_le (by rw [lowS_len]; omega), List.nil_append]
  refine ⟨by rw [footX, List.length_append, List.length_append, h4, h6]; rfl, ?_, d4, ?_, by rw [d10]; rfl, d8⟩
  · rw [footX, List.append_assoc, List.take_append_of_le_length (by omega), List.take_of_length_le (by omega)]
  · rw [d4, List.take_append_of_le_length (by omega), List.take_of_length_le (by omega)]
theorem foot_read {c : Int} (hc : isC c = true) (q : Nat) (hq : q < 4294967296) : rFoot (footX c q) = (c, ((4 * (q + 1) : Nat) : Int), 0) := by
  obtain ⟨h1, h2, h3, h4, h5, h6⟩ := foot_parts c q
  have hn : numN ((footX c q).drop 4) 4 = q := by
    rw [h3, footB, List.append_assoc, num_low, BitVec.toNat_ofNat]; omega
  rw [rFoot, if_neg (by omega), if_pos h5, h2, h4, if_pos rfl, hn, h6, rdF_cons hc]
  rfl
theorem foot_bit (c : Int) (q i s : Nat) (hi : i < 12) (hs : s < 8) : (rFoot (setX (footX c q) i (1#8 <<< s))).2.2 ≠ 0 := by
  obtain ⟨h1, h2, h3, h4, h5, h6⟩ := foot_parts c q
  have he := one_shl s hs
  have hl4 := chk1_len (footB c q)
  have hl6 := footB_len c q
  have hl : ¬ (setX (footX c q) i (1#8 <<< s)).length < 12 := by rw [setX_len]; omega
  by_cases a : i < 10
  · have t : ((setX (footX c q) i (1#8 <<< s)).drop 10).take 2 = endsL := by rw [setX_drop, if_pos a, h5]
    have n4 : ¬ (setX (footX c q) i (1#8 <<< s)).take 4 = chk 1 (((setX (footX c q) i (1#8 <<< s)).drop 4).take 6) := by
      rw [setX_take, setX_drop, h2]
      by_cases b : i < 4
      · rw [if_pos b, if_pos b, h4]
        exact setX_ne (by omega) he
      · rw [if_neg b, if_neg b, setX_take, if_pos (by omega), h4]
        exact fun e => chk1_ne (footB c q) (.inr hl6) (i - 4) s (by omega) hs e.symm
    rw [rFoot, if_neg hl, if_pos t, if_neg n4]; decide
  · have t : ¬ ((setX (footX c q) i (1#8 <<< s)).drop 10).take 2 = endsL := by
      rw [setX_drop, if_neg a, setX_take, if_pos (by omega), h5]
      exact setX_ne (by show i - 10 < 2; omega) he
    rw [rFoot, if_neg hl, if_neg t]; decide
end Go.Proofs.Ytmdeoikpiiambaa
