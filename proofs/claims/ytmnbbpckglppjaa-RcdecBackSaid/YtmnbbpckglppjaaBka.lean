/- Coding bits: what was coded is read as it was. -/
import Derived.Test.YtmnbbpckglppjaaEng26
import Derived.Test.YtmnbbpckglppjaaRri
set_option linter.unusedVariables false
set_option maxRecDepth 100000
namespace Go.Proofs.Ytmnbbpckglppjaa
open Go Go.Eng

/-- the final bytes lie in a state's stretch -/
structure InF (F : List (BitVec 8)) (s : RS) : Prop where
  len : s.low.length ≤ F.length
  lo : num s.low * 256 ^ (F.length - s.low.length) ≤ num F
  hi : num F < (num s.low + s.rng.toNat) * 256 ^ (F.length - s.low.length)
theorem num_split (F : List (BitVec 8)) (n : Nat) (h : n ≤ F.length) : num F = num (F.take n) * 256 ^ (F.length - n) + num (F.drop n) := by
  have := num_app (F.take n) (F.drop n)
  rw [List.take_append_drop, List.length_drop] at this
  exact this
theorem InF.code {F : List (BitVec 8)} {s : RS} (h : InF F s) : num s.low ≤ num (F.take s.low.length) ∧ num (F.take s.low.length) < num s.low + s.rng.toNat := by
  obtain ⟨hl, h1, h2⟩ := h
  have hd := num_lt (F.drop s.low.length)
  rw [List.length_drop] at hd
  rw [num_split F _ hl] at h1 h2
  generalize 256 ^ (F.length - s.low.length) = P at *
  generalize num (F.take s.low.length) = T at *
  generalize num (F.drop s.low.length) = d at *
  have hP : 0 < P := by omega
  constructor
  · rcases Nat.lt_or_ge T (num s.low) with g | g
    · have : (T + 1) * P ≤ num s.low * P := Nat.mul_le_mul_right _ g
      rw [Nat.add_mul, Nat.one_mul] at this
      omega
    · exact g
  · rcases Nat.lt_or_ge T (num s.low + s.rng.toNat) with g | g
    · exact g
    · have : (num s.low + s.rng.toNat) * P ≤ T * P := Nat.mul_le_mul_right _ g
      omega
theorem InF.back {F : List (BitVec 8)} : ∀ (f : Nat) {s : RS}, InF F (rclE f s) → InF F s
  | 0, s, h => h
  | f + 1, s, h => by
    rw [rclE] at h
    split at h
    · exact h
    · have h2 := InF.back f h
      obtain ⟨hl, h3, h4⟩ := h2
      have hs : (s.rng <<< 8).toNat = s.rng.toNat * 256 := shl8 s.rng (by omega)
      have hn : num (s.low ++ [0#8]) = num s.low * 256 := by rw [num_app]; show num s.low * 256 ^ 1 + (0 * _ + 0) = _; omega
      rw [List.length_append, List.length_singleton] at hl
      have hp : 256 * 256 ^ (F.length - (s.low.length + 1)) = 256 ^ (F.length - s.low.length) := by
        rw [← Nat.pow_succ', show (F.length - (s.low.length + 1)).succ = F.length - s.low.length by omega]
      dsimp only at h3 h4
      rw [List.length_append, List.length_singleton, hn, Nat.mul_assoc, hp] at h3
      rw [List.length_append, List.length_singleton, hn, hs, ← Nat.add_mul, Nat.mul_assoc, hp] at h4
      exact ⟨by omega, h3, h4⟩
theorem InF.whole {F low : List (BitVec 8)} {r g o : Nat} (hl : low.length ≤ F.length) (h3 : (num low + o) * 256 ^ (F.length - low.length) ≤ num F) (h4 : num F < (num low + o + g) * 256 ^ (F.length - low.length)) (h : o + g ≤ r) :
    num low * 256 ^ (F.length - low.length) ≤ num F ∧ num F < (num low + r) * 256 ^ (F.length - low.length) := by
  have a := Nat.mul_le_mul_right (256 ^ (F.length - low.length)) (show num low ≤ num low + o by omega)
  have b := Nat.mul_le_mul_right (256 ^ (F.length - low.length)) (show num low + o + g ≤ num low + r by omega)
  omega
theorem InF.part {F : List (BitVec 8)} {s : RS} {g : BitVec 32} {o : Nat} (ht : num s.low + o < 256 ^ s.low.length) (h : InF F ⟨addB s.low o, g⟩) (hog : o + g.toNat ≤ s.rng.toNat) : InF F s := by
  obtain ⟨hl, h3, h4⟩ := h
  dsimp only at hl h3 h4
  rw [addB_len, addB_num _ _ ht] at h3 h4
  rw [addB_len] at hl
  obtain ⟨a, b⟩ := InF.whole hl h3 h4 hog
  exact ⟨hl, a, b⟩
theorem InF.part0 {F : List (BitVec 8)} {s : RS} {g : BitVec 32} (h : InF F ⟨s.low, g⟩) (hog : g.toNat ≤ s.rng.toNat) : InF F s := by
  obtain ⟨hl, h3, h4⟩ := h
  dsimp only at hl h3 h4
  obtain ⟨a, b⟩ := InF.whole (low := s.low) (r := s.rng.toNat) (g := g.toNat) (o := 0) hl h3 h4 (by omega)
  exact ⟨hl, a, b⟩
/-- the reader's state, as the coder's state was -/
structure DR (F : List (BitVec 8)) (s : RS) (t : DS) : Prop where
  o : t.o = false
  k : t.k + 4 = s.low.length
  r : t.r = s.rng
  c : t.c.toNat + num s.low = num (F.take s.low.length)
def Agr (F D : List (BitVec 8)) : Prop := ∀ k, k + 4 < F.length → k < D.length ∧ D.getD k 0 = F.getD (k + 4) 0
theorem num_take (F : List (BitVec 8)) (n : Nat) (h : n < F.length) : num (F.take (n + 1)) = 256 * num (F.take n) + (F.getD n 0).toNat := by
  rw [List.take_succ_eq_append_getElem h, num_app, List.getD_eq_getElem?_getD, List.getElem?_eq_getElem h]
  show num (F.take n) * 256 ^ 1 + (F[n].toNat * 256 ^ 0 + 0) = _
  simp only [Option.getD_some]
  omega
theorem DR.scale {F D : List (BitVec 8)} (hA : Agr F D) : ∀ (f : Nat) {s : RS} {t : DS}, DR F s t → InF F (rclE f s) → DR F (rclE f s) (scl D f t)
  | 0, s, t, h, _ => h
  | f + 1, s, t, h, hI => by
    have hs := hI.back (f + 1)
    rw [rclE] at hI ⊢
    rw [scl]
    obtain ⟨ho, hk, hr, hc⟩ := h
    rw [hr]
    rcases Decidable.em (16777216 ≤ s.rng.toNat) with hb | hb
    · rw [if_pos hb, if_pos hb]; exact ⟨ho, hk, hr, hc⟩
    · rw [if_neg hb] at hI
      rw [if_neg hb, if_neg hb]
      have hl := (hI.back f).len
      have hl : s.low.length + 1 ≤ F.length := by simpa using hl
      obtain ⟨g1, g2⟩ := hA t.k (by omega)
      rw [if_neg (by omega)]
      refine DR.scale hA f ?_ hI
      have hcd := hs.code
      have hn : num (s.low ++ [0#8]) = num s.low * 256 := by rw [num_app]; show num s.low * 256 ^ 1 + (0 * _ + 0) = _; omega
      refine ⟨ho, ?_, rfl, ?_⟩
      · rw [List.length_append, List.length_singleton]; show t.k + 1 + 4 = _; omega
      · show (t.c <<< 8 ||| (D.getD t.k 0).setWidth 32).toNat + num (s.low ++ [0#8]) = num (F.take (s.low ++ [0#8]).length)
        have hq := (F.getD s.low.length 0).isLt
        rw [or8, hn, List.length_append, List.length_singleton, num_take F _ (by omega), g2, hk, Nat.mod_eq_of_lt (by omega)]
        omega
/-- the document's coder's states that come up -/
def RT (s : RS) : Prop := ∃ e, RelE e s
theorem RT.top {s : RS} (h : RT s) : num s.low + s.rng.toNat ≤ 256 ^ s.low.length ∧ 16777216 ≤ s.rng.toNat := by
  obtain ⟨e, h1, h2⟩ := h
  exact ⟨h1.top, by rw [← h1.sz]; exact h2⟩
theorem DR.bit {F D : List (BitVec 8)} (hA : Agr F D) {s : RS} {p : BitVec 16} (p1 : 1 ≤ p.toNat) (p2 : p.toNat ≤ 2047) (hT : RT s) {bit : Bool} (hI : InF F (rbitE s p bit)) :
    InF F s ∧ ∀ t, DR F s t → (bitS D t p).1 = bit ∧ DR F (rbitE s p bit) (bitS D t p).2 := by
  obtain ⟨h1, h2⟩ := hT.top
  obtain ⟨b1, b2⟩ := bnd_range s.rng p p1 p2 h2
  have hM := hI.back 3
  cases bit with
  | false =>
    have hM : InF F ⟨s.low, bnd s.rng p⟩ := hM
    refine ⟨hM.part0 (by omega), fun t ht => ?_⟩
    obtain ⟨ho, hk, hr, hc⟩ := ht
    have hcd : _ ∧ num (F.take s.low.length) < num s.low + (bnd s.rng p).toNat := hM.code
    have he : bitS D t p = (false, scl D 3 ⟨t.k, t.c, bnd s.rng p, t.o⟩) := by rw [bitS, ho, hr, if_neg (by decide), if_pos (by omega)]
    rw [he]
    exact ⟨rfl, DR.scale hA 3 ⟨ho, hk, rfl, hc⟩ hI⟩
  | true =>
    have hM : InF F ⟨addB s.low (bnd s.rng p).toNat, s.rng - bnd s.rng p⟩ := hM
    have hsN := subN s.rng (bnd s.rng p) (by omega)
    have hn := addB_num s.low (bnd s.rng p).toNat (by omega)
    refine ⟨hM.part (by omega) (by omega), fun t ht => ?_⟩
    obtain ⟨ho, hk, hr, hc⟩ := ht
    have hcd : num (addB s.low (bnd s.rng p).toNat) ≤ num (F.take (addB s.low (bnd s.rng p).toNat).length) ∧ _ := hM.code
    rw [addB_len, hn] at hcd
    have hcs := subN t.c (bnd s.rng p) (by omega)
    have he : bitS D t p = (true, scl D 3 ⟨t.k, t.c - bnd s.rng p, s.rng - bnd s.rng p, t.o⟩) := by rw [bitS, ho, hr, if_neg (by decide), if_neg (by omega)]
    rw [he]
    refine ⟨rfl, DR.scale hA 3 ⟨ho, ?_, rfl, ?_⟩ hI⟩
    · show t.k + 4 = (addB _ _).length
      rw [addB_len]; exact hk
    · show (t.c - bnd s.rng p).toNat + num (addB _ _) = num (F.take (addB _ _).length)
      rw [addB_len, hn, hcs]; omega
theorem RT.plain {s : RS} (h : RT s) (q : Bool) : RT (rclE 3 (rp1 s q)) := by
  obtain ⟨e, h⟩ := h
  exact ⟨_, h.plain _ q rfl⟩
theorem DR.plain {F D : List (BitVec 8)} (hA : Agr F D) {s : RS} (hT : RT s) {q : Bool} (hI : InF F (rclE 3 (rp1 s q))) :
    InF F s ∧ ∀ t V, DR F s t → DR F (rclE 3 (rp1 s q)) (plnStep D (t, V)).1 ∧ (plnStep D (t, V)).2 = if q then V <<< 1 ||| 1#32 else V <<< 1 := by
  obtain ⟨h1, h2⟩ := hT.top
  have hh := half_nat s.rng
  have hM := hI.back 3
  cases q with
  | false =>
    have hM : InF F ⟨s.low, s.rng >>> 1⟩ := hM
    refine ⟨hM.part0 (by omega), fun t V ht => ?_⟩
    obtain ⟨ho, hk, hr, hc⟩ := ht
    have hcd : _ ∧ num (F.take s.low.length) < num s.low + (s.rng >>> 1).toNat := hM.code
    have he : plnStep D (t, V) = (scl D 3 ⟨t.k, t.c, s.rng >>> 1, t.o⟩, V <<< 1) := by
      rw [plnStep]; dsimp only; rw [ho, hr, if_neg (by decide), if_neg (by omega)]
    rw [he]
    exact ⟨DR.scale hA 3 ⟨ho, hk, rfl, hc⟩ hI, rfl⟩
  | true =>
    have hM : InF F ⟨addB s.low (s.rng >>> 1).toNat, s.rng >>> 1⟩ := hM
    have hn := addB_num s.low (s.rng >>> 1).toNat (by omega)
    refine ⟨hM.part (by omega) (by omega), fun t V ht => ?_⟩
    obtain ⟨ho, hk, hr, hc⟩ := ht
    have hcd : num (addB s.low (s.rng >>> 1).toNat) ≤ num (F.take (addB s.low (s.rng >>> 1).toNat).length) ∧ _ := hM.code
    rw [addB_len, hn] at hcd
    have hcs := subN t.c (s.rng >>> 1) (by omega)
    have he : plnStep D (t, V) = (scl D 3 ⟨t.k, t.c - s.rng >>> 1, s.rng >>> 1, t.o⟩, V <<< 1 ||| 1#32) := by
      rw [plnStep]; dsimp only; rw [ho, hr, if_neg (by decide), if_pos (by omega)]
    rw [he]
    refine ⟨DR.scale hA 3 ⟨ho, ?_, rfl, ?_⟩ hI, rfl⟩
    · show t.k + 4 = (addB _ _).length
      rw [addB_len]; exact hk
    · show (t.c - s.rng >>> 1).toNat + num (addB _ _) = num (F.take (addB _ _).length)
      rw [addB_len, hn, hcs]; omega
theorem DR.plains {F D : List (BitVec 8)} (hA : Agr F D) {s : RS} (hT : RT s) : ∀ (n : Nat) (v : BitVec 32), n ≤ 32 → InF F (rplE s n v) →
    RT (rplE s n v) ∧ InF F s ∧ ∀ t, DR F s t → DR F (rplE s n v) (pln D t n).1 ∧ (pln D t n).2.toNat = v.toNat % 2 ^ n
  | 0, v, _, hI => ⟨hT, hI, fun t ht => ⟨ht, by rw [Nat.pow_zero, Nat.mod_one]; rfl⟩⟩
  | n + 1, v, hn, hI => by
    rw [rplE] at hI ⊢
    have hT0 : RT (rplE s n (v / 2#32)) := by
      have : ∀ m w, RT (rplE s m w) := by
        intro m
        induction m with
        | zero => intro w; exact hT
        | succ m ih => intro w; exact (ih _).plain _
      exact this n _
    obtain ⟨h1, h2⟩ := DR.plain hA hT0 hI
    obtain ⟨_, h3, h4⟩ := DR.plains hA hT n (v / 2#32) (by omega) h1
    refine ⟨hT0.plain _, h3, fun t ht => ?_⟩
    obtain ⟨h5, h6⟩ := h4 t ht
    obtain ⟨h7, h8⟩ := h2 (pln D t n).1 (pln D t n).2 h5
    refine ⟨h7, ?_⟩
    show (plnStep D (pln D t n)).2.toNat = _
    have h8 : (plnStep D (pln D t n)).2 = _ := h8
    rw [h8]
    have hv2 : (v / 2#32).toNat = v.toNat / 2 := by rw [BitVec.toNat_udiv]; rfl
    have hvm : (v % 2#32).toNat = v.toNat % 2 := by rw [BitVec.toNat_umod]; rfl
    rw [hv2] at h6
    have hlt : (pln D t n).2.toNat < 2 ^ n := by rw [h6]; exact Nat.mod_lt _ (Nat.pow_pos (by decide))
    have hp : 2 ^ n * 2 ≤ 2 ^ 32 := by rw [← Nat.pow_succ]; exact Nat.pow_le_pow_right (by decide) hn
    have e : ((pln D t n).2 <<< 1).toNat = 2 ^ 1 * (pln D t n).2.toNat := by
      rw [BitVec.toNat_shiftLeft, Nat.shiftLeft_eq, Nat.mod_eq_of_lt (by omega)]; omega
    rw [show 2 ^ (n + 1) = 2 * 2 ^ n from by rw [Nat.pow_succ, Nat.mul_comm], Nat.mod_mul]
    by_cases hb : v % 2#32 = 1#32
    · rw [decide_eq_true hb, if_pos rfl, BitVec.toNat_or, e, show (1#32).toNat = 1 from rfl, ← Nat.two_pow_add_eq_or_of_lt (by decide : 1 < 2 ^ 1), h6, ← hvm, hb]
      show _ = 1 + _; omega
    · have hz : v.toNat % 2 = 0 := by
        have : ¬ (v % 2#32).toNat = 1 := fun h => hb (BitVec.eq_of_toNat_eq h)
        omega
      rw [decide_eq_false hb, if_neg (by decide), e, h6, hz]; omega
end Go.Proofs.Ytmnbbpckglppjaa
