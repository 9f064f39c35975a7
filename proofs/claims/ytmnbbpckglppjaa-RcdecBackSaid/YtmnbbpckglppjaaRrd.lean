/- Coding bits: the document's coder: plain bits. -/
import Derived.Test.YtmnbbpckglppjaaEng19
import Derived.Test.YtmnbbpckglppjaaEng26
import Derived.Test.YtmnbbpckglppjaaRrc
set_option linter.unusedVariables false
set_option linter.unusedSimpArgs false
set_option maxRecDepth 100000
namespace Go.Eng
open Go
/-- where the slice is, as a contract of such a kind goes on: where it was (none), or a new row -/
def zRef (x : AV × Mem × Nat) (X : List (BitVec 8)) : Option (Nat × Nat × List Value) → AV
  | none => x.1
  | some (n, cap, _) => .sl n 0 X.length cap
def zRest (x : AV × Mem × Nat) (X : List (BitVec 8)) : Option (Nat × Nat × List Value) → Mem
  | none => x.2.1
  | some (n, _, sp) => [(n, rowO X sp)]
def zQ (x : AV × Mem × Nat) (X0 X : List (BitVec 8)) (nx : Nat) : Option (Nat × Nat × List Value) → Prop
  | none => X = X0 ∧ nx = x.2.2
  | some (n, cap, sp) => x.2.2 ≤ n ∧ n < nx ∧ X.length + sp.length = cap ∧ cap ≤ maxI
theorem zQ0 {x : AV × Mem × Nat} {X : List (BitVec 8)} : zQ x X X x.2.2 none := ⟨rfl, rfl⟩
theorem SlT.useZ {T : SlT} {P : Program} {fz : Bool} {g : FuncId} {args0 : List AV} {V : AV} {s0 s s' : T.σ} {nx : Nat} {K : Kv} {x : AV × Mem × Nat} (h : T.Ok P g args0 V s s') (hx : T.Start s0 x) (hf : ∀ f, renL f args0 = args0) (hV : ∀ f, renA f V = V) {z : Option (Nat × Nat × List Value)} (hq : zQ x (T.out s0) (T.out s) nx z)
    (hK : ∀ z' nx', zQ x (T.out s0) (T.out s') nx' z' → K V ((0, T.obj (zRef x (T.out s') z') s') :: zRest x (T.out s') z') nx') : CallG fz P g (.ptr 0 0 :: args0) (fun _ => true) ((0, T.obj (zRef x (T.out s) z) s) :: zRest x (T.out s) z) nx K := by
  have hpos := SlT.pos hx
  rcases z with _ | ⟨n, cap, sp⟩
  · obtain ⟨e, rfl⟩ := hq
    refine CallG.any (CallG.weak (h x (SlT.start_of hx e)) ?_)
    rintro v m nx ⟨rfl, ⟨c0, rfl, rfl⟩ | ⟨cap, sp, c1, c2, rfl, rfl⟩⟩
    · exact hK none _ ⟨c0.trans e, rfl⟩
    · exact hK (some (x.2.2, cap, sp)) _ ⟨Nat.le_refl _, Nat.lt_succ_self _, c1, c2⟩
  · obtain ⟨q1, q2, q3, q4⟩ := hq
    have hne : 0 ≠ n := by omega
    have hd : ∀ a b, del (del [(0, a), (n, b)] 0) n = [] := by intro a b; simp [del, Ne.symm hne]
    refine SlT.useS h hf hV hne (n := n) (cap := cap) (sp := sp) rfl (by simp [zRest, look, hne]) q3 q4 rfl rfl ?_ ?_
    · intro c0
      have := hK (some (n, cap, sp)) nx ⟨q1, q2, by rw [c0]; exact q3, q4⟩
      simp only [zRest, hd]
      simp only [zRest, zRef, c0] at this
      exact this
    · intro cap2 sp2 c3 c4
      have := hK (some (nx, cap2, sp2)) (nx + 1) ⟨by omega, by omega, c3, c4⟩
      simp only [zRest, hd]
      exact this
theorem SlT.finZ {T : SlT} {V : AV} {s0 s : T.σ} {nx : Nat} {x : AV × Mem × Nat} (hx : T.Start s0 x) (hV : ∀ f, renA f V = V) {z : Option (Nat × Nat × List Value)} (hq : zQ x (T.out s0) (T.out s) nx z) :
    Fin x.2.2 (fun _ => true) ((0, T.obj (zRef x (T.out s) z) s) :: zRest x (T.out s) z) nx (T.C V s0 s x) V := by
  have hpos := SlT.pos hx
  rcases z with _ | ⟨n, cap, sp⟩
  · exact SlT.finU' hx hq.1 hV rfl (SlT.looks hx _)
  · obtain ⟨q1, q2, q3, q4⟩ := hq
    have hne : 0 ≠ n := by omega
    exact SlT.finC hx hV (n := n) (Ne.symm hne) rfl (by simp [zRest, look, hne]) q3 q4
end Go.Eng
namespace Go.Proofs.Ytmnbbpckglppjaa
open Go Go.Eng
def rp1 (t : RS) (bit : Bool) : RS := ⟨if bit then addB t.low (t.rng >>> 1).toNat else t.low, t.rng >>> 1⟩
def rplE (s : RS) : Nat → BitVec 32 → RS
  | 0, v => s
  | n + 1, v => rclE 3 (rp1 (rplE s n (v / 2#32)) (decide (v % 2#32 = 1#32)))
theorem rp1_len (t : RS) (bit : Bool) : (rp1 t bit).low.length = t.low.length := by
  cases bit
  · rfl
  · exact addB_len _ _
theorem rclE_rng : ∀ (f : Nat) (e : RS), 16777216 ≤ e.rng.toNat * 256 ^ f → 16777216 ≤ (rclE f e).rng.toNat
  | 0, e, h => by rw [Nat.pow_zero, Nat.mul_one] at h; exact h
  | f + 1, e, h => by
    rw [rclE]
    split
    · assumption
    · refine rclE_rng f _ ?_
      show _ ≤ (e.rng <<< 8).toNat * _
      rw [shl8 e.rng (by omega), Nat.mul_assoc, show 256 * 256 ^ f = 256 ^ (f + 1) by rw [Nat.pow_succ, Nat.mul_comm]]
      exact h
theorem rclE_rng3 (e : RS) (h : 1 ≤ e.rng.toNat) : 16777216 ≤ (rclE 3 e).rng.toNat := rclE_rng 3 e (by show _ ≤ _ * 16777216; omega)
theorem rplE_len (s : RS) : ∀ (n : Nat) (v : BitVec 32), s.low.length ≤ (rplE s n v).low.length ∧ (rplE s n v).low.length ≤ s.low.length + 3 * n
  | 0, v => ⟨Nat.le_refl _, Nat.le_refl _⟩
  | n + 1, v => by
    have h1 := rclE_len 3 (rp1 (rplE s n (v / 2#32)) (decide (v % 2#32 = 1#32)))
    have h2 := rplE_len s n (v / 2#32)
    rw [rp1_len] at h1
    rw [rplE]; omega
theorem rplE_rng (s : RS) (h : 16777216 ≤ s.rng.toNat) : ∀ (n : Nat) (v : BitVec 32), 16777216 ≤ (rplE s n v).rng.toNat
  | 0, _ => h
  | n + 1, v => by
    have := rplE_rng s h n (v / 2#32)
    have := half_nat (rplE s n (v / 2#32)).rng
    exact rclE_rng3 _ (by show 1 ≤ ((rplE s n (v / 2#32)).rng >>> 1).toNat; omega)
theorem half64 (r : BitVec 32) : (BitVec.setWidth 64 r / 2#64).toNat = (r >>> 1).toNat := by
  rw [BitVec.toNat_udiv, w64, half_nat]; rfl
set_option maxHeartbeats 2000000 in
theorem rplEOk (s : RS) (hr : 16777216 ≤ s.rng.toNat) : ∀ (n : Nat) (v : BitVec 32), 1 ≤ s.low.length ∧ s.low.length + 3 * n + 3 ≤ 1000000 →
    rET.Ok Try.prog 41 [.int .u32 (v.toNat : Int), .int .i64 (n : Int)] (.tup []) s (rplE s n v)
  | 0, v, hl => by
    intro x hx
    refine fn_okG Try.func41 rfl (by show 3 ≤ _; decide) ?_
    simp (config := { maxSteps := 1000000, implicitDefEqProofs := false }) only [-List.reduceReplicate, Nat.reduceBEq, renA, renL, renM, renO, evx, evs, evp, Eng.look, cst, cst1, putd, dstOk, params, loadx, partx, loI, hiI, bltx, mmI, boxx, srcx, calx, nilx, upd, del, resv, fillA, setMany, Nat.reduceLT, Nat.reduceLeDiff, Nat.reduceEqDiff, Nat.reduceAdd, Nat.reduceMul, Nat.reduceSub, reduceIte, reduceCtorEq, if_true, if_false, ite_true, ite_false, eq_self, forall_const, implies_true, Int.reduceLT, Int.reduceLE, Int.reduceToNat, Int.reduceAdd, Int.reduceSub, Int.reduceNeg, ne_eq, Int.reduceEq, Int.reduceNe, Int.reduceBEq, Int.reduceBNe, beq_self_eq_true, bne_self_eq_false, BitVec.reduceBEq, BitVec.reduceBNe, BitVec.reduceOfInt, BitVec.reduceSetWidth, wrD, engS0, engS1, engS2, engS3, engS4, engS5, engS6, engS7, engS8, engS9, engT0, engT1, engT2, Fx.t1, Fx.t3, Fx.t4, Fx.t5, Fx.t22, Fx.t23, Fx.t53, Fx.t67, Fx.t125, Fx.t126, Fx.en41, Fx.en80, Fx.en81, Try.results41, Try.ntmps41, rET_obj]
    exact SlT.finZ (T := rET) hx (fun _ => rfl) zQ0
  | n + 1, v, hl => by
    intro x hx
    have g1 : (((n + 1 : Nat) : Int) == 0) = false := by simp; omega
    have wn : IntKind.i64.wrap (((n + 1 : Nat) : Int) - 1) = (n : Int) := by rw [wrap_i64] <;> omega
    have ih := rplEOk s hr n (v / 2#32) (by omega)
    have hlen := rplE_len s n (v / 2#32)
    have hrng := rplE_rng s hr n (v / 2#32)
    have hh := half_nat (rplE s n (v / 2#32)).rng
    have hh64 := half64 (rplE s n (v / 2#32)).rng
    have hnx : rplE s (n + 1) v = rclE 3 (rp1 (rplE s n (v / 2#32)) (decide (v % 2#32 = 1#32))) := rfl
    rw [hnx]
    refine fn_okG Try.func41 rfl (by show 3 ≤ _; decide) ?_
    simp (config := { maxSteps := 1000000, implicitDefEqProofs := false }) only [-List.reduceReplicate, Nat.reduceBEq, renA, renL, renM, renO, evx, evs, evp, Eng.look, cst, cst1, putd, dstOk, params, loadx, partx, loI, hiI, bltx, mmI, boxx, srcx, calx, nilx, upd, del, resv, fillA, setMany, Nat.reduceLT, Nat.reduceLeDiff, Nat.reduceEqDiff, Nat.reduceAdd, Nat.reduceMul, Nat.reduceSub, reduceIte, reduceCtorEq, if_true, if_false, ite_true, ite_false, eq_self, forall_const, implies_true, Int.reduceLT, Int.reduceLE, Int.reduceToNat, Int.reduceAdd, Int.reduceSub, Int.reduceNeg, ne_eq, Int.reduceEq, Int.reduceNe, Int.reduceBEq, Int.reduceBNe, beq_self_eq_true, bne_self_eq_false, BitVec.reduceBEq, BitVec.reduceBNe, BitVec.reduceOfInt, BitVec.reduceSetWidth, wrD, engS0, engS1, engS2, engS3, engS4, engS5, engS6, engS7, engS8, engS9, engT0, engT1, engT2, Fx.t1, Fx.t3, Fx.t4, Fx.t5, Fx.t22, Fx.t23, Fx.t53, Fx.t67, Fx.t125, Fx.t126, Fx.en41, Fx.en80, Fx.en81, Try.results41, Try.ntmps41, rET_obj, g1, wn]
    refine SlT.useZ (T := rET) ih hx (fun _ => rfl) (fun _ => rfl) (z := none) zQ0 ?_
    generalize rplE s n (v / 2#32) = t at *
    intro z nx hq
    by_cases hb : v % 2#32 = 1#32
    · have hA := addOk ⟨t.low, t.rng >>> 1⟩ (by show 1 ≤ t.low.length ∧ t.low.length ≤ _; omega) (t.rng >>> 1).toNat (t.rng >>> 1).isLt
      have hS := rclOk (rp1 t true) (by rw [rp1_len]; omega) (by show 1 ≤ (t.rng >>> 1).toNat; omega)
      rw [decide_eq_true hb]
      simp (config := { maxSteps := 1000000, implicitDefEqProofs := false }) only [-List.reduceReplicate, Nat.reduceBEq, renA, renL, renM, renO, evx, evs, evp, Eng.look, cst, cst1, putd, dstOk, params, loadx, partx, loI, hiI, bltx, mmI, boxx, srcx, calx, nilx, upd, del, resv, fillA, setMany, Nat.reduceLT, Nat.reduceLeDiff, Nat.reduceEqDiff, Nat.reduceAdd, Nat.reduceMul, Nat.reduceSub, reduceIte, reduceCtorEq, if_true, if_false, ite_true, ite_false, eq_self, forall_const, implies_true, Int.reduceLT, Int.reduceLE, Int.reduceToNat, Int.reduceAdd, Int.reduceSub, Int.reduceNeg, ne_eq, Int.reduceEq, Int.reduceNe, Int.reduceBEq, Int.reduceBNe, beq_self_eq_true, bne_self_eq_false, BitVec.reduceBEq, BitVec.reduceBNe, BitVec.reduceOfInt, BitVec.reduceSetWidth, wrD, engS0, engS1, engS2, engS3, engS4, engS5, engS6, engS7, engS8, engS9, engT0, engT1, engT2, Fx.t1, Fx.t3, Fx.t4, Fx.t5, Fx.t22, Fx.t23, Fx.t53, Fx.t67, Fx.t125, Fx.t126, Fx.en41, Fx.en80, Fx.en81, rET_obj, rEO, hh64, hb]
      refine SlT.useZ (T := rET) (s := ⟨t.low, t.rng >>> 1⟩) hA hx (fun _ => rfl) (fun _ => rfl) (z := z) hq ?_
      intro z1 nx1 hq1
      simp (config := { maxSteps := 1000000, implicitDefEqProofs := false }) only [-List.reduceReplicate, Nat.reduceBEq, renA, renL, renM, renO, evx, evs, evp, Eng.look, cst, cst1, putd, dstOk, params, loadx, partx, loI, hiI, bltx, mmI, boxx, srcx, calx, nilx, upd, del, resv, fillA, setMany, Nat.reduceLT, Nat.reduceLeDiff, Nat.reduceEqDiff, Nat.reduceAdd, Nat.reduceMul, Nat.reduceSub, reduceIte, reduceCtorEq, if_true, if_false, ite_true, ite_false, eq_self, forall_const, implies_true, Int.reduceLT, Int.reduceLE, Int.reduceToNat, Int.reduceAdd, Int.reduceSub, Int.reduceNeg, ne_eq, Int.reduceEq, Int.reduceNe, Int.reduceBEq, Int.reduceBNe, beq_self_eq_true, bne_self_eq_false, BitVec.reduceBEq, BitVec.reduceBNe, BitVec.reduceOfInt, BitVec.reduceSetWidth, wrD, engS0, engS1, engS2, engS3, engS4, engS5, engS6, engS7, engS8, engS9, engT0, engT1, engT2, Fx.t1, Fx.t3, Fx.t4, Fx.t5, Fx.t22, Fx.t23, Fx.t53, Fx.t67, Fx.t125, Fx.t126, Fx.en41, Fx.en80, Fx.en81]
      refine SlT.useZ (T := rET) (s := rp1 t true) hS hx (fun _ => rfl) (fun _ => rfl) (z := z1) hq1 ?_
      intro z2 nx2 hq2
      simp (config := { maxSteps := 1000000, implicitDefEqProofs := false }) only [-List.reduceReplicate, Nat.reduceBEq, renA, renL, renM, renO, evx, evs, evp, Eng.look, cst, cst1, putd, dstOk, params, loadx, partx, loI, hiI, bltx, mmI, boxx, srcx, calx, nilx, upd, del, resv, fillA, setMany, Nat.reduceLT, Nat.reduceLeDiff, Nat.reduceEqDiff, Nat.reduceAdd, Nat.reduceMul, Nat.reduceSub, reduceIte, reduceCtorEq, if_true, if_false, ite_true, ite_false, eq_self, forall_const, implies_true, Int.reduceLT, Int.reduceLE, Int.reduceToNat, Int.reduceAdd, Int.reduceSub, Int.reduceNeg, ne_eq, Int.reduceEq, Int.reduceNe, Int.reduceBEq, Int.reduceBNe, beq_self_eq_true, bne_self_eq_false, BitVec.reduceBEq, BitVec.reduceBNe, BitVec.reduceOfInt, BitVec.reduceSetWidth, wrD, engS0, engS1, engS2, engS3, engS4, engS5, engS6, engS7, engS8, engS9, engT0, engT1, engT2, Fx.t1, Fx.t3, Fx.t4, Fx.t5, Fx.t22, Fx.t23, Fx.t53, Fx.t67, Fx.t125, Fx.t126, Fx.en41, Fx.en80, Fx.en81]
      exact SlT.finZ (T := rET) hx (fun _ => rfl) hq2
    · have hS := rclOk (rp1 t false) (by rw [rp1_len]; omega) (by show 1 ≤ (t.rng >>> 1).toNat; omega)
      have g2 : (v % 2#32 == 1#32) = false := by simpa using hb
      rw [decide_eq_false hb]
      simp (config := { maxSteps := 1000000, implicitDefEqProofs := false }) only [-List.reduceReplicate, Nat.reduceBEq, renA, renL, renM, renO, evx, evs, evp, Eng.look, cst, cst1, putd, dstOk, params, loadx, partx, loI, hiI, bltx, mmI, boxx, srcx, calx, nilx, upd, del, resv, fillA, setMany, Nat.reduceLT, Nat.reduceLeDiff, Nat.reduceEqDiff, Nat.reduceAdd, Nat.reduceMul, Nat.reduceSub, reduceIte, reduceCtorEq, if_true, if_false, ite_true, ite_false, eq_self, forall_const, implies_true, Int.reduceLT, Int.reduceLE, Int.reduceToNat, Int.reduceAdd, Int.reduceSub, Int.reduceNeg, ne_eq, Int.reduceEq, Int.reduceNe, Int.reduceBEq, Int.reduceBNe, beq_self_eq_true, bne_self_eq_false, BitVec.reduceBEq, BitVec.reduceBNe, BitVec.reduceOfInt, BitVec.reduceSetWidth, wrD, engS0, engS1, engS2, engS3, engS4, engS5, engS6, engS7, engS8, engS9, engT0, engT1, engT2, Fx.t1, Fx.t3, Fx.t4, Fx.t5, Fx.t22, Fx.t23, Fx.t53, Fx.t67, Fx.t125, Fx.t126, Fx.en41, Fx.en80, Fx.en81, rET_obj, rEO, hh64, g2]
      refine SlT.useZ (T := rET) (s := rp1 t false) hS hx (fun _ => rfl) (fun _ => rfl) (z := z) hq ?_
      intro z2 nx2 hq2
      simp (config := { maxSteps := 1000000, implicitDefEqProofs := false }) only [-List.reduceReplicate, Nat.reduceBEq, renA, renL, renM, renO, evx, evs, evp, Eng.look, cst, cst1, putd, dstOk, params, loadx, partx, loI, hiI, bltx, mmI, boxx, srcx, calx, nilx, upd, del, resv, fillA, setMany, Nat.reduceLT, Nat.reduceLeDiff, Nat.reduceEqDiff, Nat.reduceAdd, Nat.reduceMul, Nat.reduceSub, reduceIte, reduceCtorEq, if_true, if_false, ite_true, ite_false, eq_self, forall_const, implies_true, Int.reduceLT, Int.reduceLE, Int.reduceToNat, Int.reduceAdd, Int.reduceSub, Int.reduceNeg, ne_eq, Int.reduceEq, Int.reduceNe, Int.reduceBEq, Int.reduceBNe, beq_self_eq_true, bne_self_eq_false, BitVec.reduceBEq, BitVec.reduceBNe, BitVec.reduceOfInt, BitVec.reduceSetWidth, wrD, engS0, engS1, engS2, engS3, engS4, engS5, engS6, engS7, engS8, engS9, engT0, engT1, engT2, Fx.t1, Fx.t3, Fx.t4, Fx.t5, Fx.t22, Fx.t23, Fx.t53, Fx.t67, Fx.t125, Fx.t126, Fx.en41, Fx.en80, Fx.en81]
      exact SlT.finZ (T := rET) hx (fun _ => rfl) hq2
end Go.Proofs.Ytmnbbpckglppjaa
