/- Coding bits: the coder and the document's say the same. -/
import Derived.Test.YtmnbbpckglppjaaEng26
import Derived.Test.YtmnbbpckglppjaaRrd
import Derived.Test.YtmnbbpckglppjaaReh
set_option linter.unusedVariables false
set_option maxRecDepth 100000
namespace Go.Proofs.Ytmnbbpckglppjaa
open Go Go.Eng

/-- the coder's state and the document's -/
structure RelW (e : ES) (s : RS) : Prop where
  val : valN e = num s.low
  len : s.low.length = e.out.length + e.full + 4
  sz : e.size = s.rng
  inv : InvE e e.size.toNat
  top : num s.low + s.rng.toNat ≤ 256 ^ s.low.length
def RelE (e : ES) (s : RS) : Prop := RelW e s ∧ 16777216 ≤ e.size.toNat
def newR : RS := ⟨[0#8, 0#8, 0#8, 0#8], 4294967295#32⟩
theorem newRel : RelE newS newR := ⟨⟨rfl, rfl, rfl, ⟨by decide, by decide, by decide⟩, by decide⟩, by decide⟩
theorem InvE.less {e : ES} {g g' : Nat} (h : InvE e g) (h1 : 1 ≤ g') (h2 : g' ≤ g) : InvE e g' := by
  obtain ⟨a, b, c⟩ := h
  exact ⟨by omega, by omega, h1⟩
/-- the state goes over to a part of its stretch -/
theorem RelW.part {e : ES} {s : RS} (h : RelW e s) (o g : BitVec 32) (h1 : 1 ≤ g.toNat) (h2 : o.toNat + g.toNat ≤ e.size.toNat) :
    RelW ⟨e.low + o.setWidth 64, g, e.held, e.full, e.out⟩ ⟨addB s.low o.toNat, g⟩ := by
  obtain ⟨v, l, z, ⟨i1, i2, i3⟩, t⟩ := h
  have hlow : (e.low + o.setWidth 64).toNat = e.low.toNat + o.toNat := by
    rw [BitVec.toNat_add, BitVec.toNat_setWidth]
    have := o.isLt
    omega
  rw [← z] at t
  have hn : num (addB s.low o.toNat) = num s.low + o.toNat := addB_num _ _ (by omega)
  refine ⟨?_, ?_, rfl, ⟨?_, ?_, h1⟩, ?_⟩
  · have a := valN_eq e
    have b := valN_eq ⟨e.low + o.setWidth 64, g, e.held, e.full, e.out⟩
    have c : tailN ⟨e.low + o.setWidth 64, g, e.held, e.full, e.out⟩ = tailN e := rfl
    rw [c] at b
    dsimp only at b
    rw [b, hn, ← v, a, hlow, Nat.add_assoc]
  · rw [addB_len]; exact l
  · show tailN e * _ + (e.low + o.setWidth 64).toNat + g.toNat ≤ _
    rw [hlow]
    show _ ≤ 256 ^ (e.full + 1) * _
    omega
  · show (e.low + o.setWidth 64).toNat + g.toNat ≤ _
    rw [hlow]; omega
  · rw [addB_len, hn]
    show _ + g.toNat ≤ _
    omega
theorem RelW.part0 {e : ES} {s : RS} (h : RelW e s) (g : BitVec 32) (h1 : 1 ≤ g.toNat) (h2 : g.toNat ≤ e.size.toNat) : RelW ⟨e.low, g, e.held, e.full, e.out⟩ ⟨s.low, g⟩ := by
  obtain ⟨v, l, z, i, t⟩ := h
  rw [← z] at t
  exact ⟨v, l, rfl, (show InvE e e.size.toNat from i).less h1 h2, by show num s.low + g.toNat ≤ 256 ^ s.low.length; omega⟩
theorem RelW.scale : ∀ (f : Nat) {e : ES} {s : RS}, RelW e s → RelW (sclE f e) (rclE f s)
  | 0, e, s, h => h
  | f + 1, e, s, h => by
    rw [sclE, rclE, ← h.sz]
    rcases Decidable.em (16777216 ≤ e.size.toNat) with hs | hs
    · rw [if_pos hs, if_pos hs]; exact h
    · rw [if_neg hs, if_neg hs]
      refine RelW.scale f ?_
      obtain ⟨v, l, z, i, t⟩ := h
      obtain ⟨p1, p2, p3, p4⟩ := putS_inv (szE e (e.size <<< 8)) e.size.toNat i (by omega)
      have hsh := shl8 e.size (by omega)
      have hz : (putS (szE e (e.size <<< 8))).size = e.size <<< 8 := p4
      have hv : valN (szE e (e.size <<< 8)) = valN e := rfl
      refine ⟨?_, ?_, hz, ?_, ?_⟩
      · rw [p2, hv, v, num_app, List.length_singleton, num, num]
        show _ = num s.low * 256 ^ 1 + (0 * _ + 0)
        omega
      · have : (putS (szE e (e.size <<< 8))).out.length + (putS (szE e (e.size <<< 8))).full = e.out.length + e.full + 1 := p3
        rw [List.length_append, List.length_singleton]; omega
      · rw [hz, hsh, Nat.mul_comm]; exact p1
      · rw [List.length_append, List.length_singleton, Nat.pow_succ, num_app, List.length_singleton, num, num]
        show num s.low * 256 ^ 1 + (0 * _ + 0) + (e.size <<< 8).toNat ≤ _
        rw [hsh]
        rw [← z] at t
        omega
theorem RelW.big {e : ES} {s : RS} (h : RelW e s) (h1 : 1 ≤ e.size.toNat) : RelE (sclE 3 e) (rclE 3 s) := ⟨h.scale 3, sclE_size3 e h1⟩
theorem RelE.bit {e : ES} {s : RS} (h : RelE e s) (p : BitVec 16) (h1 : 1 ≤ p.toNat) (h2 : p.toNat ≤ 2047) (bit : Bool) : RelE (bitE e p bit) (rbitE s p bit) := by
  obtain ⟨hw, hb⟩ := h
  obtain ⟨b1, b2⟩ := bnd_range e.size p h1 h2 hb
  rw [bitE, rbitE, ← hw.sz]
  cases bit with
  | false => exact (hw.part0 (bnd e.size p) (by omega) (by omega)).big (by show 1 ≤ (bnd e.size p).toNat; omega)
  | true =>
    have hs := subN e.size (bnd e.size p) (by omega)
    have := (hw.part (bnd e.size p) (e.size - bnd e.size p) (by omega) (by omega)).big (by show 1 ≤ (e.size - bnd e.size p).toNat; omega)
    rw [show rb1 s (bnd e.size p) true = ⟨addB s.low (bnd e.size p).toNat, e.size - bnd e.size p⟩ from by rw [hw.sz]; rfl]
    exact this
theorem RelE.plain {e : ES} {s : RS} (h : RelE e s) (b : BitVec 32) (q : Bool) (hb : b = if q then 1#32 else 0#32) : RelE (sclE 3 (pl1 e b)) (rclE 3 (rp1 s q)) := by
  obtain ⟨hw, hb'⟩ := h
  have hh := half_nat e.size
  cases q with
  | false =>
    have hb : b = 0#32 := hb
    subst hb
    have : pl1 e 0#32 = ⟨e.low, e.size >>> 1, e.held, e.full, e.out⟩ := by rw [pl1, show -(0#32) = 0#32 from rfl, BitVec.and_zero]; simp
    rw [this, rp1, ← hw.sz]
    exact (hw.part0 (e.size >>> 1) (by omega) (by omega)).big (by show 1 ≤ (e.size >>> 1).toNat; omega)
  | true =>
    have hb : b = 1#32 := hb
    subst hb
    have : pl1 e 1#32 = ⟨e.low + (e.size >>> 1).setWidth 64, e.size >>> 1, e.held, e.full, e.out⟩ := by rw [pl1, show -(1#32) = BitVec.allOnes 32 from rfl, BitVec.and_allOnes]
    rw [this, rp1, ← hw.sz]
    exact (hw.part (e.size >>> 1) (e.size >>> 1) (by omega) (by omega)).big (by show 1 ≤ (e.size >>> 1).toNat; omega)
theorem shr_nat (v : BitVec 32) (k : Nat) : (v >>> k).toNat = v.toNat / 2 ^ k := by rw [BitVec.toNat_ushiftRight, Nat.shiftRight_eq_div_pow]
theorem plB_nat (v : BitVec 32) (n j : Nat) : (plB v n j).toNat = v.toNat / 2 ^ (n - 1 - j) % 2 := by
  rw [plB, BitVec.toNat_and, shr_nat]
  exact Nat.and_two_pow_sub_one_eq_mod _ 1
theorem RelE.plains {e : ES} {s : RS} (h : RelE e s) (v : BitVec 32) (n : Nat) : ∀ j, j ≤ n → RelE (plE e v n j) (rplE s j (v >>> (n - j)))
  | 0, _ => h
  | j + 1, hj => by
    have ih := RelE.plains h v n j (by omega)
    have e1 : (v >>> (n - (j + 1))) / 2#32 = v >>> (n - j) := by
      refine BitVec.eq_of_toNat_eq ?_
      rw [BitVec.toNat_udiv, shr_nat, shr_nat, show n - j = n - (j + 1) + 1 by omega, Nat.pow_succ, ← Nat.div_div_eq_div_mul]
      rfl
    rw [plE, rplE, e1]
    refine ih.plain _ _ ?_
    have h2 := plB_nat v n j
    rw [show n - 1 - j = n - (j + 1) by omega] at h2
    have h3 : ((v >>> (n - (j + 1))) % 2#32).toNat = (plB v n j).toNat := by
      rw [BitVec.toNat_umod, shr_nat, h2]; rfl
    have h4 : (v >>> (n - (j + 1))) % 2#32 = plB v n j := BitVec.eq_of_toNat_eq h3
    rw [h4]
    have h5 : (plB v n j).toNat < 2 := by rw [h2]; omega
    rcases Nat.lt_or_ge (plB v n j).toNat 1 with g | g
    · have : plB v n j = 0#32 := BitVec.eq_of_toNat_eq (by show _ = 0; omega)
      rw [this]; rfl
    · have : plB v n j = 1#32 := BitVec.eq_of_toNat_eq (by show _ = 1; omega)
      rw [this]; rfl
theorem plO_nat (v : BitVec 32) (n : Nat) (hn : n ≤ 32) : ∀ j, j ≤ n → (plO v n j).toNat = v.toNat / 2 ^ (n - j) % 2 ^ j
  | 0, _ => by rw [plO, Nat.pow_zero, Nat.mod_one]; rfl
  | j + 1, hj => by
    have ih := plO_nat v n hn j (by omega)
    have hb := plB_nat v n j
    rw [show n - 1 - j = n - (j + 1) by omega] at hb
    have hlt : (plO v n j).toNat < 2 ^ j := by rw [ih]; exact Nat.mod_lt _ (Nat.pow_pos (by decide))
    have hp : 2 ^ j * 2 ≤ 2 ^ 32 := by rw [← Nat.pow_succ]; exact Nat.pow_le_pow_right (by decide) (by omega)
    have hb1 : (plB v n j).toNat < 2 ^ 1 := by rw [hb]; exact Nat.mod_lt _ (by decide)
    have e : (plO v n j <<< 1).toNat = 2 ^ 1 * (plO v n j).toNat := by
      rw [BitVec.toNat_shiftLeft, Nat.shiftLeft_eq, Nat.mod_eq_of_lt (by omega)]; omega
    rw [plO, BitVec.toNat_or, e, ← Nat.two_pow_add_eq_or_of_lt hb1, hb, ih]
    have hd : v.toNat / 2 ^ (n - j) = v.toNat / 2 ^ (n - (j + 1)) / 2 := by
      rw [Nat.div_div_eq_div_mul, show n - j = n - (j + 1) + 1 by omega, Nat.pow_succ]
    rw [hd, show 2 ^ (j + 1) = 2 * 2 ^ j from by rw [Nat.pow_succ, Nat.mul_comm], Nat.mod_mul]
    omega
theorem plO_val (v : BitVec 32) (n : Nat) (hn : n ≤ 32) : (plO v n n).toNat = v.toNat % 2 ^ n := by
  rw [plO_nat v n hn n (Nat.le_refl _), Nat.sub_self, Nat.pow_zero, Nat.div_one]
theorem putN_inv {e : ES} (h : InvE e 1) : ∀ n, InvE (putN' e n) 1 ∧ valN (putN' e n) = 256 ^ n * valN e
  | 0 => ⟨h, by rw [Nat.pow_zero, Nat.one_mul]; rfl⟩
  | n + 1 => by
    obtain ⟨h1, h2⟩ := putN_inv h n
    obtain ⟨p1, p2, _⟩ := putS_inv (putN' e n) 1 h1 (by decide)
    refine ⟨p1.less (by decide) (by decide), ?_⟩
    rw [putN', p2, h2, Nat.pow_succ, Nat.mul_comm (256 ^ n) 256, Nat.mul_assoc]
theorem putS_low (e : ES) : (putS e).low.toNat = e.low.toNat % 16777216 * 256 := by
  rw [← lowN_nat, putS]
  split <;> rfl
theorem bytE_eq {e : ES} {s : RS} (h : RelW e s) (h1 : 1 ≤ e.size.toNat) : bytE e = 0#8 :: s.low := by
  have hi : InvE e 1 := h.inv.less (Nat.le_refl _) h1
  have l1 := putS_low (putN' e 0)
  have l2 := putS_low (putN' e 1)
  have l3 := putS_low (putN' e 2)
  have l4 := putS_low (putN' e 3)
  have l5 := putS_low (putN' e 4)
  change (putN' e 1).low.toNat = _ at l1
  change (putN' e 2).low.toNat = _ at l2
  change (putN' e 3).low.toNat = _ at l3
  change (putN' e 4).low.toNat = _ at l4
  change (putN' e 5).low.toNat = _ at l5
  have z4 : (putN' e 4).low.toNat = 0 := by omega
  have z4' : (putN' e 4).low = 0#64 := BitVec.eq_of_toNat_eq z4
  have hP : putN' e 5 = ⟨lowN (putN' e 4).low, (putN' e 4).size, ((putN' e 4).low >>> 24).setWidth 8, 0, (putN' e 4).out ++ [(putN' e 4).held + carry (putN' e 4)] ++ List.replicate (putN' e 4).full (255#8 + carry (putN' e 4))⟩ := by
    show putS (putN' e 4) = _
    rw [putS, if_pos (.inr (by rw [z4]; decide))]
  have f5 : (putN' e 5).full = 0 := by rw [hP]
  have k5 : (putN' e 5).held = 0#8 := by rw [hP, z4']; rfl
  have hlen := putN_len e 5
  rw [f5] at hlen
  obtain ⟨_, hv⟩ := putN_inv hi 5
  have ht : tailN (putN' e 5) = 0 := by rw [tailN, f5, k5]; rfl
  have hv5 := valN_eq (putN' e 5)
  rw [ht, f5, l5, z4, hv, h.val] at hv5
  refine num_inj _ _ ?_ ?_
  · show (putN' e 5).out.length = s.low.length + 1
    rw [h.len]; omega
  · show num (putN' e 5).out = num (0#8 :: s.low)
    rw [num]
    show _ = 0 * _ + _
    have e5 : (256 : Nat) ^ 5 = 1099511627776 := by decide
    rw [e5] at hv5
    omega
end Go.Proofs.Ytmnbbpckglppjaa
