/- Coding bits: a list of deeds, coded and read. -/
import Derived.Test.YtmnbbpckglppjaaEng26
import Derived.Test.YtmnbbpckglppjaaBka
set_option linter.unusedVariables false
set_option maxRecDepth 100000
namespace Go.Proofs.Ytmnbbpckglppjaa
open Go Go.Eng

def gotD (D : List (BitVec 8)) (t : DS) (d : Ded) : BitVec 32 := if d.1 = 0 then (if (bitS D t (fairV d.2.1)).1 then 1#32 else 0#32) else plnV (pln D t (nB d.2.2.2.2.1))
def wantD (d : Ded) : BitVec 32 := if d.1 = 0 then (if (d.2.2.1 != 0) then 1#32 else 0#32) else plO d.2.2.2.1 (nB d.2.2.2.2.1) (nB d.2.2.2.2.1)
theorem deed_back {F D : List (BitVec 8)} (hA : Agr F D) (x : ES × RS) (hT : RelE x.1 x.2) (d : Ded) (hI : InF F (rcS x d).2) :
    InF F x.2 ∧ ∀ t, DR F x.2 t → gotD D t d = wantD d ∧ DR F (rcS x d).2 (stepD D t d) := by
  have hR : RT x.2 := ⟨_, hT⟩
  obtain ⟨p1, p2⟩ := fairV_range d.2.1
  rcases Decidable.em (d.1 = 0) with h0 | h0
  · rw [rcS, if_pos h0] at hI
    obtain ⟨h1, h2⟩ := DR.bit hA p1 p2 hR hI
    refine ⟨h1, fun t ht => ?_⟩
    obtain ⟨h3, h4⟩ := h2 t ht
    rw [gotD, wantD, if_pos h0, if_pos h0, h3, rcS, stepD, if_pos h0, if_pos h0]
    exact ⟨rfl, h4⟩
  · rw [rcS, if_neg h0] at hI
    obtain ⟨_, h1, h2⟩ := DR.plains hA hR (nB d.2.2.2.2.1) d.2.2.2.1 (nB_le _) hI
    refine ⟨h1, fun t ht => ?_⟩
    obtain ⟨h3, h4⟩ := h2 t ht
    rw [gotD, wantD, if_neg h0, if_neg h0, rcS, stepD, if_neg h0, if_neg h0, plnV, h3.o, if_neg (by decide)]
    exact ⟨BitVec.eq_of_toNat_eq (by rw [h4, plO_val _ _ (nB_le _)]), h3⟩
theorem inF_end (s : RS) (h : RT s) : InF s.low s := by
  have := h.top
  refine ⟨Nat.le_refl _, ?_, ?_⟩
  · rw [Nat.sub_self, Nat.pow_zero, Nat.mul_one]; exact Nat.le_refl _
  · rw [Nat.sub_self, Nat.pow_zero, Nat.mul_one]; omega
theorem inF_all (L : List Ded) (n : Nat) : ∀ k, k ≤ n → InF (rcE L n).2.low (rcE L (n - k)).2
  | 0, _ => inF_end _ ⟨_, (rcE_ok L n).1⟩
  | k + 1, h => by
    have ih := inF_all L n k (by omega)
    rw [show n - k = n - (k + 1) + 1 by omega] at ih
    have hA : Agr (rcE L n).2.low ((rcE L n).2.low.drop 4) := fun i hi => ⟨by rw [List.length_drop]; omega, by simp [List.getD_eq_getElem?_getD, Nat.add_comm]⟩
    exact (deed_back hA (rcE L (n - (k + 1))) (rcE_ok L _).1 _ ih).1
theorem inF_all' (L : List Ded) (n j : Nat) (h : j ≤ n) : InF (rcE L n).2.low (rcE L j).2 := by
  have := inF_all L n (n - j) (by omega)
  rwa [show n - (n - j) = j by omega] at this
theorem dr_all (L : List Ded) (n : Nat) {D : List (BitVec 8)} (hA : Agr (rcE L n).2.low D) {t0 : DS} (h0 : DR (rcE L n).2.low newR t0) : ∀ j, j ≤ n → DR (rcE L n).2.low (rcE L j).2 (runD D t0 L j)
  | 0, _ => h0
  | j + 1, h => ((deed_back hA (rcE L j) (rcE_ok L j).1 (L.getD j dedD) (inF_all' L n (j + 1) h)).2 _ (dr_all L n hA h0 j (by omega))).2
theorem got_all (L : List Ded) (n : Nat) {D : List (BitVec 8)} (hA : Agr (rcE L n).2.low D) {t0 : DS} (h0 : DR (rcE L n).2.low newR t0) (j : Nat) (h : j < n) : gotD D (runD D t0 L j) (L.getD j dedD) = wantD (L.getD j dedD) :=
  ((deed_back hA (rcE L j) (rcE_ok L j).1 (L.getD j dedD) (inF_all' L n (j + 1) h)).2 _ (dr_all L n hA h0 j (by omega))).1
theorem code0_eq (b F : List (BitVec 8)) (hF : 4 ≤ F.length) (h : ∀ i, i < 4 → b.getD (i + 1) 0 = F.getD i 0) : (code0 b).toNat = num (F.take 4) := by
  rw [num_take F 3 (by omega), num_take F 2 (by omega), num_take F 1 (by omega), num_take F 0 (by omega), ← h 0 (by decide), ← h 1 (by decide), ← h 2 (by decide), ← h 3 (by decide), ← cdN_code]
  have h1 := (b.getD 1 0).isLt
  have h2 := (b.getD 2 0).isLt
  have h3 := (b.getD 3 0).isLt
  have h4 := (b.getD 4 0).isLt
  show (256#64 * (256#64 * (256#64 * (256#64 * 0#64 + (b.getD 1 0).setWidth 64) + (b.getD 2 0).setWidth 64) + (b.getD 3 0).setWidth 64) + (b.getD 4 0).setWidth 64).toNat = _
  simp only [BitVec.toNat_add, BitVec.toNat_mul, b64, show (256#64).toNat = 256 from rfl, show (0#64).toNat = 0 from rfl]
  show _ = 256 * (256 * (256 * (256 * 0 + (b.getD 1 0).toNat) + (b.getD 2 0).toNat) + (b.getD 3 0).toNat) + (b.getD 4 0).toNat
  omega
theorem start_dr (b F : List (BitVec 8)) (hF : 4 ≤ F.length) (h : ∀ i, i < 4 → b.getD (i + 1) 0 = F.getD i 0) : DR F newR (start b) := by
  refine ⟨rfl, rfl, rfl, ?_⟩
  show (code0 b).toNat + 0 = num (F.take 4)
  rw [code0_eq b F hF h, Nat.add_zero]
/-! with less to read -/
def Les (D2 D : List (BitVec 8)) : Prop := D2.length ≤ D.length ∧ ∀ k, k < D2.length → D2.getD k 0 = D.getD k 0
def LR (D2 : List (BitVec 8)) (t2 t : DS) : Prop := t2.o = true ∨ (t2 = t ∧ t.k ≤ D2.length)
theorem LR.scl {D2 D : List (BitVec 8)} (hD : Les D2 D) : ∀ (f : Nat) (t : DS), t.k ≤ D2.length → LR D2 (scl D2 f t) (scl D f t)
  | 0, t, h => .inr ⟨rfl, h⟩
  | f + 1, t, h => by
    rw [Go.Proofs.Ytmnbbpckglppjaa.scl, Go.Proofs.Ytmnbbpckglppjaa.scl]
    split
    · exact .inr ⟨rfl, h⟩
    · rcases Nat.lt_or_ge t.k D2.length with g | g
      · have := hD.1
        rw [if_neg (by omega), if_neg (by omega), hD.2 _ g]
        exact LR.scl hD f _ g
      · rw [if_pos g]; exact .inl rfl
theorem LR.bit {D2 D : List (BitVec 8)} (hD : Les D2 D) {t2 t : DS} (h : LR D2 t2 t) (p : BitVec 16) : LR D2 (bitS D2 t2 p).2 (bitS D t p).2 := by
  rcases h with h | ⟨rfl, h⟩
  · rw [bitS, if_pos h]; exact .inl h
  · rw [bitS, bitS]
    split
    · exact .inr ⟨rfl, h⟩
    · split
      · exact LR.scl hD 3 _ h
      · exact LR.scl hD 3 _ h
theorem LR.pln {D2 D : List (BitVec 8)} (hD : Les D2 D) {t2 t : DS} (h : LR D2 t2 t) : ∀ n, (pln D2 t2 n).1.o = true ∨ (pln D2 t2 n = pln D t n ∧ (pln D t n).1.k ≤ D2.length)
  | 0 => by
    rcases h with h | ⟨rfl, h⟩
    · exact .inl h
    · exact .inr ⟨rfl, h⟩
  | n + 1 => by
    rw [Go.Proofs.Ytmnbbpckglppjaa.pln, Go.Proofs.Ytmnbbpckglppjaa.pln]
    rcases LR.pln hD h n with h | ⟨e, h⟩
    · rw [plnStep, if_pos h]; exact .inl h
    · rw [e]
      generalize Go.Proofs.Ytmnbbpckglppjaa.pln D t n = x at *
      rw [plnStep, plnStep]
      split
      · exact .inr ⟨rfl, h⟩
      · split
        · rcases LR.scl hD 3 ⟨x.1.k, x.1.c - x.1.r >>> 1, x.1.r >>> 1, x.1.o⟩ h with g | ⟨g1, g2⟩
          · exact .inl g
          · exact .inr ⟨by rw [g1], g2⟩
        · rcases LR.scl hD 3 ⟨x.1.k, x.1.c, x.1.r >>> 1, x.1.o⟩ h with g | ⟨g1, g2⟩
          · exact .inl g
          · exact .inr ⟨by rw [g1], g2⟩
theorem LR.run {D2 D : List (BitVec 8)} (hD : Les D2 D) {t0 : DS} (h0 : t0.k ≤ D2.length) (L : List Ded) : ∀ j, LR D2 (runD D2 t0 L j) (runD D t0 L j)
  | 0 => .inr ⟨rfl, h0⟩
  | j + 1 => by
    have ih := LR.run hD h0 L j
    rw [runD, runD, stepD, stepD]
    split
    · exact ih.bit hD _
    · rcases ih.pln hD (nB (L.getD j dedD).2.2.2.2.1) with g | ⟨g1, g2⟩
      · exact .inl g
      · exact .inr ⟨by rw [g1], g2⟩
/-! the ends -/
theorem done_same (L : List Ded) (n : Nat) {F : List (BitVec 8)} (hF : (rcE L n).2.low = F) (h4 : 4 ≤ F.length) : doneS (F.drop 4) (runD (F.drop 4) (start (0#8 :: F)) L n) = true ∧ (∀ j, j < n → gotD (F.drop 4) (runD (F.drop 4) (start (0#8 :: F)) L j) (L.getD j dedD) = wantD (L.getD j dedD)) := by
  subst hF
  have hA : Agr (rcE L n).2.low ((rcE L n).2.low.drop 4) := fun i hi => ⟨by rw [List.length_drop]; omega, by simp [List.getD_eq_getElem?_getD, Nat.add_comm]⟩
  have h0 := start_dr (0#8 :: (rcE L n).2.low) (rcE L n).2.low h4 (fun i _ => rfl)
  refine ⟨?_, fun j hj => got_all L n hA h0 j hj⟩
  obtain ⟨o, k, r, c⟩ := dr_all L n hA h0 n (Nat.le_refl _)
  have e9 : num (List.take (rcE L n).2.low.length (rcE L n).2.low) = num (rcE L n).2.low := by rw [List.take_length]
  rw [e9] at c
  have hc : (runD ((rcE L n).2.low.drop 4) (start (0#8 :: (rcE L n).2.low)) L n).c = 0#32 := BitVec.eq_of_toNat_eq (by show _ = 0; omega)
  rw [doneS, o, hc, decide_eq_true (by rw [List.length_drop]; omega)]
  rfl
theorem done_more (L : List Ded) (n : Nat) {F : List (BitVec 8)} (hF : (rcE L n).2.low = F) (h4 : 4 ≤ F.length) (q : BitVec 8) (b : List (BitVec 8)) (hb : b = 0#8 :: F ++ [q]) :
    doneS (b.drop 5) (runD (b.drop 5) (start b) L n) = false ∧ (runD (b.drop 5) (start b) L n).o = false ∧ (∀ j, j < n → gotD (b.drop 5) (runD (b.drop 5) (start b) L j) (L.getD j dedD) = wantD (L.getD j dedD)) := by
  subst hF
  have hD : b.drop 5 = (rcE L n).2.low.drop 4 ++ [q] := by
    rw [hb, List.cons_append, List.drop_succ_cons, List.drop_append_of_le_length h4]
  have hA : Agr (rcE L n).2.low (b.drop 5) := fun i hi => ⟨by rw [hD, List.length_append, List.length_drop, List.length_singleton]; omega, by
    rw [hD, List.getD_eq_getElem?_getD, List.getElem?_append_left (by rw [List.length_drop]; omega), List.getElem?_drop, Nat.add_comm, List.getD_eq_getElem?_getD]⟩
  have h0 := start_dr b (rcE L n).2.low h4 (fun i hi => by rw [hb, List.getD_eq_getElem?_getD, List.cons_append, List.getElem?_cons_succ, List.getElem?_append_left (by omega), List.getD_eq_getElem?_getD])
  obtain ⟨o, k, r, c⟩ := dr_all L n hA h0 n (Nat.le_refl _)
  refine ⟨?_, o, fun j hj => got_all L n hA h0 j hj⟩
  have hl : (b.drop 5).length = (rcE L n).2.low.length - 4 + 1 := by rw [hD, List.length_append, List.length_drop, List.length_singleton]
  rw [doneS, decide_eq_false (by omega)]
  simp
theorem done_less (L : List Ded) (n : Nat) {F : List (BitVec 8)} (hF : (rcE L n).2.low = F) (h5 : 5 ≤ F.length) (b : List (BitVec 8)) (hb : b = (0#8 :: F).take F.length) :
    doneS (b.drop 5) (runD (b.drop 5) (start b) L n) = false := by
  subst hF
  have hA : Agr (rcE L n).2.low ((rcE L n).2.low.drop 4) := fun i hi => ⟨by rw [List.length_drop]; omega, by simp [List.getD_eq_getElem?_getD, Nat.add_comm]⟩
  have hg : ∀ i, i < 4 → b.getD (i + 1) 0 = (rcE L n).2.low.getD i 0 := fun i hi => by
    rw [hb, List.getD_eq_getElem?_getD, List.getElem?_take_of_lt (by omega), List.getElem?_cons_succ, List.getD_eq_getElem?_getD]
  have h0 := start_dr b (rcE L n).2.low (by omega) hg
  obtain ⟨o, k, r, c⟩ := dr_all L n hA h0 n (Nat.le_refl _)
  have hl : (b.drop 5).length = (rcE L n).2.low.length - 5 := by rw [List.length_drop, hb, List.length_take, List.length_cons]; omega
  have hLes : Les (b.drop 5) ((rcE L n).2.low.drop 4) := by
    refine ⟨by rw [hl, List.length_drop]; omega, fun i hi => ?_⟩
    rw [hl] at hi
    rw [List.getD_eq_getElem?_getD, List.getD_eq_getElem?_getD, List.getElem?_drop, List.getElem?_drop, hb, List.getElem?_take_of_lt (by omega), show 5 + i = (4 + i) + 1 by omega, List.getElem?_cons_succ]
  rcases LR.run hLes (t0 := start b) (Nat.zero_le _) L n with h | ⟨_, h⟩
  · rw [doneS, h]; rfl
  · rw [hl] at h; omega
end Go.Proofs.Ytmnbbpckglppjaa
