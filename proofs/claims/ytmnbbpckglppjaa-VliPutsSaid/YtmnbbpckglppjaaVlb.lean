/- Numbers of a variable length: the digits, one by one. -/
import Derived.Test.YtmnbbpckglppjaaVla
import Derived.Test.YtmnbbpckglppjaaProg
set_option linter.unusedVariables false
set_option maxRecDepth 100000
namespace Go.Proofs.Ytmnbbpckglppjaa
open Go Go.RowKit Go.Shelf

attribute [local go_sem] Oper.semAt_some
/-- the digits, the lowest first, and whether more come -/
def digs : Nat → BitVec 64 → List (BitVec 8 × Bool)
  | 0, m => []
  | f + 1, m => if 128 ≤ m.toNat then ((m % 128#64).setWidth 8, true) :: digs f (m >>> 7) else [(m.setWidth 8, false)]
def encD (x : BitVec 8 × Bool) : Array Value := #[.int .u8 (x.1.toNat : Int), .bool x.2]
set_option maxHeartbeats 2000000 in
theorem digits_in (F : Fence) (n : Nat) (h : F.fn 67) (hro : F.round = none) (m : BitVec 64) (w : World) :
    CallsIn F n Try.prog 67 #[.int .u64 (m.toNat : Int)] w fun e w' => e = .returned (.func (.func 90) #[] #[.pointer (some ⟨w.heap.size, 0, none⟩)]) ∧ w' = w.alloc (.cells #[.int .u64 (m.toNat : Int)] 22) := by
  refine callsIn_of_wp Try.func67 rfl h ?_ hro
  simp only [Try.ntmps67, List.size_toArray, List.length_cons, List.length_nil, Nat.reduceAdd, Nat.reduceSub, Array.replicate_succ, Array.replicate_zero, List.push_toArray, List.append_toArray, List.nil_append, List.cons_append]
  gi_wp2
  go_ret
  exact ⟨rfl, rfl⟩
set_option maxHeartbeats 2000000 in
theorem digs_in (F : Fence) (n : Nat) (hF : F.fn 90) (hro : F.round = none) (hn : 1 ≤ n) (f : Nat) (m : BitVec 64) (hf1 : 1 ≤ f) (hm : m.toNat < 128 ^ f) (Bn : Nat) (w : World) (hb : Boxed w Bn 22 (.int .u64 (m.toNat : Int))) :
    BoxSeq F n Try.prog 90 #[.pointer (some ⟨Bn, 0, none⟩)] encD Bn (digs f m) w := by
  intro l J W hJ hY h0 hW
  have hb0 : Boxed W Bn 22 (.int .u64 (m.toNat : Int)) := hW.trans hb
  refine callsIn_of_wp Try.func90 rfl hF ?_ hro
  simp only [Try.ntmps90, List.size_toArray, List.length_cons, List.length_nil, Nat.reduceAdd, Nat.reduceSub, Array.replicate_succ, Array.replicate_zero, List.push_toArray, List.append_toArray, List.nil_append, List.cons_append]
  gi_wp2
  gi_loopw [] (fun wr => ∃ (pre : List (BitVec 8 × Bool)) (g : Nat) (u : BitVec 64), digs f m = pre ++ digs g u ∧ 1 ≤ g ∧ u.toNat < 128 ^ g ∧ Boxed wr Bn 22 (.int .u64 (u.toNat : Int)) ∧ J pre wr)
    (fun wr => match wr.cell? ⟨Bn, 0, none⟩ with | some (.int _ v) => v.toNat | _ => 0)
  case atStart => exact ⟨[], f, m, rfl, hf1, hm, hb0, h0⟩
  case round =>
    obtain ⟨pre, g, u, hx, hg, hu, hbx, hJs⟩ := hrel
    have hc := hbx.cell
    have hfz := hbx.frozen
    obtain ⟨g, rfl⟩ : ∃ g', g = g' + 1 := ⟨g - 1, by omega⟩
    rcases Nat.lt_or_ge u.toNat 128 with h | h
    · have hlt : ¬ (128 : Int) ≤ (u.toNat : Int) := by omega
      have hx2 : digs f m = pre ++ (u.setWidth 8, false) :: [] := by rw [hx, digs, if_neg (by omega)]
      obtain ⟨fn, tmps, assign, body, hy, hR⟩ := hY pre _ _ wr hx2 hJs
      have e1 : (((u.setWidth 8).toNat : Nat) : Int) = (u.toNat : Int) := by rw [BitVec.toNat_setWidth]; omega
      rw [encD, e1] at hy
      gi_wp2
      refine ⟨fun _ h => (by cases h), ?_⟩
      gi_wp2
      refine hR.mono ?_
      rintro e W3 ⟨rfl, hJ3, hk3⟩
      gi_wp2
      go_end0
      exact ⟨⟨_, rfl⟩, by rw [hx2]; exact hJ3⟩
    · have hge : (128 : Int) ≤ (u.toNat : Int) := by omega
      have hx2 : digs f m = pre ++ ((u % 128#64).setWidth 8, true) :: digs g (u >>> 7) := by rw [hx, digs, if_pos (by omega)]
      obtain ⟨fn, tmps, assign, body, hy, hR⟩ := hY pre _ _ wr hx2 hJs
      have e1 : ((((u % 128#64).setWidth 8).toNat : Nat) : Int) = (u.toNat : Int) % 128 := by rw [BitVec.toNat_setWidth, BitVec.toNat_umod]; show (((u.toNat % 128) % 256 : Nat) : Int) = _; omega
      rw [encD, e1] at hy
      gi_wp2
      refine hR.mono ?_
      rintro e W3 ⟨rfl, hJ3, hk3⟩
      have hb3 : Boxed W3 Bn 22 (.int .u64 (u.toNat : Int)) := hk3.trans hbx
      have hc3 := hb3.cell
      have hf3 := hb3.frozen
      gi_wp2
      have e2 : (((u >>> 7).toNat : Nat) : Int) = (u.toNat : Int) / 128 := by rw [BitVec.toNat_ushiftRight, Nat.shiftRight_eq_div_pow]; omega
      have hg1 : 1 ≤ g := by
        rcases Nat.eq_zero_or_pos g with h0 | h0
        · subst h0; omega
        · exact h0
      refine ⟨⟨pre ++ [((u % 128#64).setWidth 8, true)], g, u >>> 7, by rw [hx2, List.append_assoc]; rfl, hg1, ?_, by rw [e2]; exact hb3.set _, hJ _ _ _ hJ3⟩, ?_⟩
      · rw [BitVec.toNat_ushiftRight, Nat.shiftRight_eq_div_pow]
        rw [Nat.pow_succ] at hu
        exact Nat.div_lt_of_lt_mul (by rw [Nat.mul_comm]; exact hu)
      · rw [(hb3.set _).cell, hc]
        show ((u.toNat : Int) / 128).toNat < (u.toNat : Int).toNat
        omega
end Go.Proofs.Ytmnbbpckglppjaa
