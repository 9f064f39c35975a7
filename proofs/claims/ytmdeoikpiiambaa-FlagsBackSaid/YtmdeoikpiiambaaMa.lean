/- CRC-32 and CRC-64: what the program sums, and what the document does; they are alike. -/
import Derived.Test.YtmdeoikpiiambaaEng35
import Derived.Test.YtmdeoikpiiambaaFx
set_option linter.unusedVariables false
set_option linter.unusedSimpArgs false
set_option maxRecDepth 100000
/-! Crcm -/
namespace Go.Proofs.Ytmdeoikpiiambaa
set_option linter.unusedVariables false
/-- one shift of a register -/
def gs {w : Nat} (p r : BitVec w) : BitVec w := r >>> 1 ^^^ (if r.getLsbD 0 then p else 0#w)
def gn {w : Nat} (p : BitVec w) : Nat → BitVec w → BitVec w
  | 0, r => r
  | k + 1, r => gs p (gn p k r)
theorem gs_xor {w : Nat} (p u v : BitVec w) : gs p (u ^^^ v) = gs p u ^^^ gs p v := by
  unfold gs
  rw [BitVec.ushiftRight_xor_distrib, BitVec.getLsbD_xor]
  have h : (if (u.getLsbD 0 ^^ v.getLsbD 0) = true then p else 0#w) = (if u.getLsbD 0 = true then p else 0#w) ^^^ (if v.getLsbD 0 = true then p else 0#w) := by
    cases u.getLsbD 0 <;> cases v.getLsbD 0 <;> simp
  rw [h]
  ac_rfl
theorem gn_xor {w : Nat} (p : BitVec w) : ∀ (k : Nat) (u v : BitVec w), gn p k (u ^^^ v) = gn p k u ^^^ gn p k v
  | 0, u, v => rfl
  | k + 1, u, v => by simp only [gn, gn_xor p k, gs_xor]
theorem gn_high {w : Nat} (p : BitVec w) : ∀ (k : Nat) (r : BitVec w), (∀ j, j < k → r.getLsbD j = false) → gn p k r = r >>> k
  | 0, r, h => by simp [gn]
  | k + 1, r, h => by
    rw [gn, gn_high p k r fun j hj => h j (by omega), gs]
    have : (r >>> k).getLsbD 0 = false := by rw [BitVec.getLsbD_ushiftRight]; simpa using h k (by omega)
    rw [this]
    simp [← BitVec.shiftRight_add]
/-- a byte that comes to the register -/
theorem gn_byte {w : Nat} (hw : 8 ≤ w) (p r : BitVec w) (x : BitVec 8) : gn p 8 (r ^^^ x.setWidth w) = r >>> 8 ^^^ gn p 8 ((r.setWidth 8 ^^^ x).setWidth w) := by
  have h : r ^^^ x.setWidth w = (r ^^^ (r.setWidth 8).setWidth w) ^^^ (r.setWidth 8 ^^^ x).setWidth w := by
    rw [BitVec.setWidth_xor]
    rw [BitVec.xor_assoc, ← BitVec.xor_assoc ((r.setWidth 8).setWidth w), BitVec.xor_self, BitVec.zero_xor]
  rw [h, gn_xor]
  congr 1
  rw [gn_high]
  · apply BitVec.eq_of_getLsbD_eq
    intro i hi
    simp [BitVec.getLsbD_ushiftRight]
  · intro j hj
    simp only [BitVec.getLsbD_xor, BitVec.getLsbD_setWidth]
    simp [hj]
    intro h1
    omega
/-- the bit by bit way: a register and the byte that comes -/
def gb {w : Nat} (p : BitVec w) (q : BitVec w × BitVec 8) : BitVec w × BitVec 8 := ((if (q.1 ^^^ q.2.setWidth w).getLsbD 0 then q.1 >>> 1 ^^^ p else q.1 >>> 1), q.2 >>> 1)
def gbn {w : Nat} (p : BitVec w) : Nat → BitVec w × BitVec 8 → BitVec w × BitVec 8
  | 0, q => q
  | k + 1, q => gb p (gbn p k q)
theorem gbn_inv {w : Nat} (hw : 8 ≤ w) (p : BitVec w) (r : BitVec w) (x : BitVec 8) : ∀ k, (gbn p k (r, x)).2 = x >>> k ∧ (gbn p k (r, x)).1 ^^^ ((gbn p k (r, x)).2).setWidth w = gn p k (r ^^^ x.setWidth w)
  | 0 => by simp [gbn, gn]
  | k + 1 => by
    obtain ⟨h1, h2⟩ := gbn_inv hw p r x k
    simp only [gbn, gn, gb]
    generalize gbn p k (r, x) = q at *
    have hs : (q.2 >>> 1).setWidth w = q.2.setWidth w >>> 1 := by
      apply BitVec.eq_of_getLsbD_eq
      intro i hi
      simp only [BitVec.getLsbD_setWidth, BitVec.getLsbD_ushiftRight, hi, decide_true, Bool.true_and]
      by_cases h : 1 + i < w
      · simp [h]
      · have : q.2.getLsbD (1 + i) = false := BitVec.getLsbD_of_ge _ _ (by omega)
        simp [this]
    refine ⟨by rw [h1, ← BitVec.shiftRight_add], ?_⟩
    rw [← h2, gs, hs, BitVec.ushiftRight_xor_distrib]
    split
    · ac_rfl
    · simp
theorem gbn_eight {w : Nat} (hw : 8 ≤ w) (p : BitVec w) (r : BitVec w) (x : BitVec 8) : (gbn p 8 (r, x)).1 = gn p 8 (r ^^^ x.setWidth w) := by
  obtain ⟨h1, h2⟩ := gbn_inv hw p r x 8
  rw [← h2, h1]
  have : x >>> 8 = 0#8 := by
    apply BitVec.eq_of_toNat_eq
    simp [Nat.shiftRight_eq_div_pow]
    omega
  rw [this]
  simp
end Go.Proofs.Ytmdeoikpiiambaa
/-! Crc32 -/
namespace Go.Proofs.Ytmdeoikpiiambaa
open Go Go.Eng
theorem low_and {w : Nat} (hw : 0 < w) (r p : BitVec w) : p &&& (0#w - (r &&& 1#w)) = if r.getLsbD 0 then p else 0#w := by
  rw [BitVec.and_one_eq_setWidth_ofBool_getLsbD]
  cases r.getLsbD 0
  · simp
  · have h : BitVec.setWidth w (BitVec.ofBool true) = 1#w := by
      apply BitVec.eq_of_toNat_eq
      simp
    rw [h, BitVec.zero_sub, BitVec.neg_one_eq_allOnes]
    simp
theorem half {w : Nat} (hw : 1 < w) (x : BitVec w) : x / 2#w = x >>> 1 := by
  apply BitVec.eq_of_toNat_eq
  have h1 : (2 : Nat) % 2 ^ w = 2 := by
    refine Nat.mod_eq_of_lt ?_
    have := Nat.pow_lt_pow_right (a := 2) (by decide) hw
    omega
  simp [h1, Nat.shiftRight_eq_div_pow]
theorem odd {w : Nat} (hw : 1 < w) (x : BitVec w) : (x % 2#w = 1#w) = (x.getLsbD 0 = true) := by
  have h1 : (2 : Nat) % 2 ^ w = 2 := by
    refine Nat.mod_eq_of_lt ?_
    have := Nat.pow_lt_pow_right (a := 2) (by decide) hw
    omega
  have h2 : (1 : Nat) % 2 ^ w = 1 := Nat.mod_eq_of_lt (Nat.one_lt_two_pow (by omega))
  refine propext ⟨fun h => ?_, fun h => ?_⟩
  · have := congrArg BitVec.toNat h
    simp [h1, h2] at this
    simp [BitVec.getLsbD, Nat.testBit_zero, this]
  · apply BitVec.eq_of_toNat_eq
    simp [BitVec.getLsbD, Nat.testBit_zero] at h
    simp [h1, h2, h]
def poly32 : BitVec 32 := 3988292384#32
def steps32 (k : Nat) (r : BitVec 32) : BitVec 32 := gn poly32 k r
theorem steps32_succ (k : Nat) (r : BitVec 32) : steps32 (k + 1) r = steps32 k r >>> 1 ^^^ (3988292384#32 &&& (0#32 - (steps32 k r &&& 1#32))) := by
  rw [low_and (by decide)]
  rfl
theorem steps32_0 (r : BitVec 32) : steps32 0 r = r := rfl
theorem gn_add {w : Nat} (p : BitVec w) (j : Nat) : ∀ (k : Nat) (r : BitVec w), gn p (k + j) r = gn p k (gn p j r)
  | 0, r => by rw [Nat.zero_add]; rfl
  | k + 1, r => by rw [Nat.add_right_comm, gn, gn_add p j k, gn]
/-- what a byte comes to, with j / 256 bytes of zeros behind it -/
def tv (j : Nat) : BitVec 32 := gn poly32 (8 * (j / 256 + 1)) (BitVec.ofNat 32 (j % 256))
def tab32 (f : Nat → Bool) : List (BitVec 32) := (List.range 1024).map fun j => if f j then tv j else 0
theorem tab32_len (f : Nat → Bool) : (tab32 f).length = 1024 := by simp [tab32]
theorem tab32_none : tab32 (fun j => decide (j < 0)) = List.replicate 1024 0 := by simp [tab32, List.map_const']
theorem tab32_congr {f g : Nat → Bool} (h : ∀ i, i < 1024 → f i = g i) : tab32 f = tab32 g := by
  unfold tab32
  refine List.map_congr_left fun i hi => ?_
  rw [h i (List.mem_range.1 hi)]
theorem tab32_set {f g : Nat → Bool} {j : Nat} (hj : j < 1024) (hg : ∀ i, i < 1024 → g i = (f i || i == j)) {v : BitVec 32} (hv : v = tv j) : (tab32 f).set j v = tab32 g := by
  subst hv
  apply List.ext_getElem
  · simp [tab32]
  · intro i h1 h2
    have hi : i < 1024 := by simpa [tab32] using h2
    simp only [tab32, List.getElem_set, List.getElem_map, List.getElem_range, hg i hi]
    by_cases e : j = i
    · subst e; simp
    · have e' : (i == j) = false := by simp; omega
      simp [e, e']
theorem tab32_get {f : Nat → Bool} {j : Nat} (hj : j < 1024) (hf : f j = true) : (tab32 f).getD j 0 = tv j := by
  rw [List.getD_eq_getElem?_getD, List.getElem?_eq_getElem (by rw [tab32_len]; exact hj)]
  simp only [tab32, List.getElem_map, List.getElem_range, Option.getD_some, hf, if_true]
theorem tv_0 {i : Nat} (h : i < 256) : steps32 8 (BitVec.ofNat 32 i) = tv i := by
  unfold tv steps32
  rw [Nat.div_eq_of_lt h, Nat.mod_eq_of_lt h]
theorem tv_byte (x : BitVec 8) : tv x.toNat = gn poly32 8 (x.setWidth 32) := by
  have h : x.toNat < 256 := x.isLt
  rw [← tv_0 h, steps32, BitVec.ofNat_toNat]
theorem tv_next {k i : Nat} (h : i < 256) : tv ((k + 1) * 256 + i) = tv (k * 256 + i) >>> 8 ^^^ tv ((tv (k * 256 + i)).setWidth 8).toNat := by
  have h0 := gn_byte (w := 32) (by decide) poly32 (tv (k * 256 + i)) 0#8
  rw [show (0#8).setWidth 32 = 0#32 from rfl, BitVec.xor_zero, BitVec.xor_zero] at h0
  rw [tv_byte, ← h0]
  unfold tv
  rw [← gn_add]
  have e1 : ((k + 1) * 256 + i) / 256 = k + 1 := by omega
  have e2 : ((k + 1) * 256 + i) % 256 = i := by omega
  have e3 : (k * 256 + i) / 256 = k := by omega
  have e4 : (k * 256 + i) % 256 = i := by omega
  rw [e1, e2, e3, e4]
  congr 1
  omega
def f1 (n : Nat) : Nat → Bool := fun j => decide (j < n)
def f2 (n q : Nat) : Nat → Bool := fun j => decide (j < 256 ∨ j % 256 < n ∨ (j % 256 = n ∧ j / 256 < q))
theorem tab32_z : tab32 (f1 0) = List.replicate 1024 0#32 := tab32_none
theorem tab32_f2 : tab32 (f2 0 1) = tab32 (f1 256) := tab32_congr fun i hi => by simp only [f1, f2, decide_eq_decide]; omega
theorem tab32_f2' (n : Nat) : tab32 (f2 n 4) = tab32 (f2 (n + 1) 1) := tab32_congr fun i hi => by simp only [f1, f2, decide_eq_decide]; omega
theorem tab32_full : tab32 (f2 256 1) = tab32 (fun _ => true) := tab32_congr fun i hi => by simp only [f2, decide_eq_true_eq]; omega
theorem tab32_take (f : Nat → Bool) : List.take 1024 (tab32 f) = tab32 f := by rw [List.take_of_length_le]; simp [tab32]
set_option maxHeartbeats 400000 in
theorem table32 : CallOk Try.prog 197 [] (fun _ => true) [] 0 fun v m nx => v = .agg (bvs .u32 (tab32 fun _ => true)) ∧ m = [] ∧ nx = 0 := by
  refine fn_ok Try.func197 rfl (Nat.zero_le _) ?_
  simp (maxSteps := 1000000) -implicitDefEqProofs only [go_sem, Nat.reduceBEq, Nat.reduceLT, Nat.reduceLeDiff, Nat.reduceEqDiff, Nat.reduceAdd, Nat.reduceMul, Nat.reduceSub, reduceIte, reduceCtorEq, Int.reduceLT, Int.reduceLE, Int.reduceToNat, Int.reduceAdd, Int.reduceSub, Int.reduceNeg, Int.reduceEq, Int.reduceNe, Int.reduceBEq, Int.reduceBNe, BitVec.reduceBEq, BitVec.reduceBNe, BitVec.reduceOfInt, BitVec.reduceSetWidth, -List.reduceReplicate, Try.results197, Try.ntmps197]
  refine LoopOk.up 256 (fun n => ([(7, .int .i64 n), (1, .ptr 1 0), (0, .ptr 0 0)], [(1, .cells (bvs .u32 (tab32 (f1 n))) 255), (0, .cells (bvs .u32 (List.replicate 1024 (0 : BitVec 32))) 255)], 2)) (Le.sameT (by decide) (by simp only [-List.reduceReplicate, slotsSame, Eng.look, Nat.reduceEqDiff, tab32_z, reduceIte, reduceCtorEq, if_true, if_false, eq_self, true_and, and_true, Option.some.injEq, AV.int.injEq]; (try simp (disch := omega) only [wrap_i64]); (try simp [-List.reduceReplicate]); (try omega)) (by simp only [-List.reduceReplicate, memSame, Eng.look, Nat.reduceEqDiff, tab32_z, reduceIte, reduceCtorEq, if_true, if_false, eq_self, true_and, and_true, Option.some.injEq, AObj.cells.injEq, bvs_rep8, bvs_rep16, bvs_rep32, bvs_rep64, bvs_flat_rep, Nat.reduceMul, bvs_append, List.replicate_append_replicate, Nat.reduceAdd, bvs_inj]; try simp [-List.reduceReplicate]) (by simp [-List.reduceReplicate])) ?_
  intro i hi
  simp (maxSteps := 1000000) -implicitDefEqProofs only [go_sem, Nat.reduceBEq, Nat.reduceLT, Nat.reduceLeDiff, Nat.reduceEqDiff, Nat.reduceAdd, Nat.reduceMul, Nat.reduceSub, reduceIte, reduceCtorEq, Int.reduceLT, Int.reduceLE, Int.reduceToNat, Int.reduceAdd, Int.reduceSub, Int.reduceNeg, Int.reduceEq, Int.reduceNe, Int.reduceBEq, Int.reduceBNe, BitVec.reduceBEq, BitVec.reduceBNe, BitVec.reduceOfInt, BitVec.reduceSetWidth, -List.reduceReplicate]
  refine cndv_split (fun h => ?_) (fun h => ?_)
  · have h' : (i : Int) < 256 := by simpa using h
    simp (maxSteps := 1000000) -implicitDefEqProofs only [go_sem, Nat.reduceBEq, Nat.reduceLT, Nat.reduceLeDiff, Nat.reduceEqDiff, Nat.reduceAdd, Nat.reduceMul, Nat.reduceSub, reduceIte, reduceCtorEq, Int.reduceLT, Int.reduceLE, Int.reduceToNat, Int.reduceAdd, Int.reduceSub, Int.reduceNeg, Int.reduceEq, Int.reduceNe, Int.reduceBEq, Int.reduceBNe, BitVec.reduceBEq, BitVec.reduceBNe, BitVec.reduceOfInt, BitVec.reduceSetWidth, -List.reduceReplicate]
    refine LoopOk.up 8 (fun n => ([(12, .int .i64 n), (3, .int .u32 ((steps32 n (BitVec.ofNat 32 i)).toNat : Int)), (2, .int .i64 i), (7, .int .i64 i), (1, .ptr 1 0), (0, .ptr 0 0)], [(1, .cells (bvs .u32 (tab32 (f1 i))) 255), (0, .cells (bvs .u32 (List.replicate 1024 (0 : BitVec 32))) 255)], 2)) (Le.sameT (by decide) (by simp only [-List.reduceReplicate, slotsSame, Eng.look, Nat.reduceEqDiff, steps32_0, reduceIte, reduceCtorEq, if_true, if_false, eq_self, true_and, and_true, Option.some.injEq, AV.int.injEq]; (try simp (disch := omega) only [wrap_i64]); (try simp [-List.reduceReplicate]); (try omega)) (by simp only [-List.reduceReplicate, memSame, Eng.look, Nat.reduceEqDiff, steps32_0, reduceIte, reduceCtorEq, if_true, if_false, eq_self, true_and, and_true, Option.some.injEq, AObj.cells.injEq, bvs_rep8, bvs_rep16, bvs_rep32, bvs_rep64, bvs_flat_rep, Nat.reduceMul, bvs_append, List.replicate_append_replicate, Nat.reduceAdd, bvs_inj]; try simp [-List.reduceReplicate]) (by simp [-List.reduceReplicate])) ?_
    intro n hn
    simp (maxSteps := 1000000) -implicitDefEqProofs only [go_sem, Nat.reduceBEq, Nat.reduceLT, Nat.reduceLeDiff, Nat.reduceEqDiff, Nat.reduceAdd, Nat.reduceMul, Nat.reduceSub, reduceIte, reduceCtorEq, Int.reduceLT, Int.reduceLE, Int.reduceToNat, Int.reduceAdd, Int.reduceSub, Int.reduceNeg, Int.reduceEq, Int.reduceNe, Int.reduceBEq, Int.reduceBNe, BitVec.reduceBEq, BitVec.reduceBNe, BitVec.reduceOfInt, BitVec.reduceSetWidth, -List.reduceReplicate]
    refine cndv_split (fun h => ?_) (fun h => ?_)
    · have h' : (n : Int) < 8 := by simpa using h
      simp (maxSteps := 1000000) -implicitDefEqProofs only [go_sem, Nat.reduceBEq, Nat.reduceLT, Nat.reduceLeDiff, Nat.reduceEqDiff, Nat.reduceAdd, Nat.reduceMul, Nat.reduceSub, reduceIte, reduceCtorEq, Int.reduceLT, Int.reduceLE, Int.reduceToNat, Int.reduceAdd, Int.reduceSub, Int.reduceNeg, Int.reduceEq, Int.reduceNe, Int.reduceBEq, Int.reduceBNe, BitVec.reduceBEq, BitVec.reduceBNe, BitVec.reduceOfInt, BitVec.reduceSetWidth, -List.reduceReplicate]
      exact UpK_normal (by omega) (Le.sameT (by decide) (by simp only [-List.reduceReplicate, slotsSame, Eng.look, Nat.reduceEqDiff, steps32_succ, reduceIte, reduceCtorEq, if_true, if_false, eq_self, true_and, and_true, Option.some.injEq, AV.int.injEq]; (try simp (disch := omega) only [wrap_i64]); (try simp [-List.reduceReplicate]); (try omega)) (by simp only [-List.reduceReplicate, memSame, Eng.look, Nat.reduceEqDiff, steps32_succ, reduceIte, reduceCtorEq, if_true, if_false, eq_self, true_and, and_true, Option.some.injEq, AObj.cells.injEq, bvs_rep8, bvs_rep16, bvs_rep32, bvs_rep64, bvs_flat_rep, Nat.reduceMul, bvs_append, List.replicate_append_replicate, Nat.reduceAdd, bvs_inj]; try simp [-List.reduceReplicate]) (by simp [-List.reduceReplicate]))
    · have h' : n = 8 := by simp at h; omega
      subst h'
      simp (maxSteps := 1000000) -implicitDefEqProofs only [go_sem, Nat.reduceBEq, Nat.reduceLT, Nat.reduceLeDiff, Nat.reduceEqDiff, Nat.reduceAdd, Nat.reduceMul, Nat.reduceSub, reduceIte, reduceCtorEq, Int.reduceLT, Int.reduceLE, Int.reduceToNat, Int.reduceAdd, Int.reduceSub, Int.reduceNeg, Int.reduceEq, Int.reduceNe, Int.reduceBEq, Int.reduceBNe, BitVec.reduceBEq, BitVec.reduceBNe, BitVec.reduceOfInt, BitVec.reduceSetWidth, -List.reduceReplicate, tab32_len]
      refine ⟨by omega, by omega, UpK_normal (by omega) ?_⟩
      rw [tab32_set (f := f1 i) (g := f1 (i + 1)) (j := i) (by omega) (fun j _ => by rw [Bool.eq_iff_iff]; simp [f1]; omega) (tv_0 (by omega))]
      exact (Le.sameT (by decide) (by simp only [-List.reduceReplicate, slotsSame, Eng.look, Nat.reduceEqDiff, reduceIte, reduceCtorEq, if_true, if_false, eq_self, true_and, and_true, Option.some.injEq, AV.int.injEq]; (try simp (disch := omega) only [wrap_i64]); (try simp [-List.reduceReplicate]); (try omega)) (by simp only [-List.reduceReplicate, memSame, Eng.look, Nat.reduceEqDiff, reduceIte, reduceCtorEq, if_true, if_false, eq_self, true_and, and_true, Option.some.injEq, AObj.cells.injEq, bvs_rep8, bvs_rep16, bvs_rep32, bvs_rep64, bvs_flat_rep, Nat.reduceMul, bvs_append, List.replicate_append_replicate, Nat.reduceAdd, bvs_inj]; try simp [-List.reduceReplicate]) (by simp [-List.reduceReplicate]))
  · have h' : i = 256 := by simp at h; omega
    subst h'
    simp (maxSteps := 1000000) -implicitDefEqProofs only [go_sem, Nat.reduceBEq, Nat.reduceLT, Nat.reduceLeDiff, Nat.reduceEqDiff, Nat.reduceAdd, Nat.reduceMul, Nat.reduceSub, reduceIte, reduceCtorEq, Int.reduceLT, Int.reduceLE, Int.reduceToNat, Int.reduceAdd, Int.reduceSub, Int.reduceNeg, Int.reduceEq, Int.reduceNe, Int.reduceBEq, Int.reduceBNe, BitVec.reduceBEq, BitVec.reduceBNe, BitVec.reduceOfInt, BitVec.reduceSetWidth, -List.reduceReplicate]
    refine LoopOk.up 256 (fun n => ([(27, .int .i64 n), (1, .ptr 1 0), (0, .ptr 0 0)], [(1, .cells (bvs .u32 (tab32 (f2 n 1))) 255), (0, .cells (bvs .u32 (List.replicate 1024 (0 : BitVec 32))) 255)], 2)) (Le.sameT (by decide) (by simp only [-List.reduceReplicate, slotsSame, Eng.look, Nat.reduceEqDiff, tab32_f2, reduceIte, reduceCtorEq, if_true, if_false, eq_self, true_and, and_true, Option.some.injEq, AV.int.injEq]; (try simp (disch := omega) only [wrap_i64]); (try simp [-List.reduceReplicate]); (try omega)) (by simp only [-List.reduceReplicate, memSame, Eng.look, Nat.reduceEqDiff, tab32_f2, reduceIte, reduceCtorEq, if_true, if_false, eq_self, true_and, and_true, Option.some.injEq, AObj.cells.injEq, bvs_rep8, bvs_rep16, bvs_rep32, bvs_rep64, bvs_flat_rep, Nat.reduceMul, bvs_append, List.replicate_append_replicate, Nat.reduceAdd, bvs_inj]; try simp [-List.reduceReplicate]) (by simp [-List.reduceReplicate])) ?_
    intro i hi
    simp (maxSteps := 1000000) -implicitDefEqProofs only [go_sem, Nat.reduceBEq, Nat.reduceLT, Nat.reduceLeDiff, Nat.reduceEqDiff, Nat.reduceAdd, Nat.reduceMul, Nat.reduceSub, reduceIte, reduceCtorEq, Int.reduceLT, Int.reduceLE, Int.reduceToNat, Int.reduceAdd, Int.reduceSub, Int.reduceNeg, Int.reduceEq, Int.reduceNe, Int.reduceBEq, Int.reduceBNe, BitVec.reduceBEq, BitVec.reduceBNe, BitVec.reduceOfInt, BitVec.reduceSetWidth, -List.reduceReplicate]
    refine cndv_split (fun h => ?_) (fun h => ?_)
    · have h' : (i : Int) < 256 := by simpa using h
      simp (maxSteps := 1000000) -implicitDefEqProofs only [go_sem, Nat.reduceBEq, Nat.reduceLT, Nat.reduceLeDiff, Nat.reduceEqDiff, Nat.reduceAdd, Nat.reduceMul, Nat.reduceSub, reduceIte, reduceCtorEq, Int.reduceLT, Int.reduceLE, Int.reduceToNat, Int.reduceAdd, Int.reduceSub, Int.reduceNeg, Int.reduceEq, Int.reduceNe, Int.reduceBEq, Int.reduceBNe, BitVec.reduceBEq, BitVec.reduceBNe, BitVec.reduceOfInt, BitVec.reduceSetWidth, -List.reduceReplicate]
      refine LoopOk.up 3 (fun k => ([(5, .int .i64 ((k + 1 : Nat) : Int)), (4, .int .i64 i), (27, .int .i64 i), (1, .ptr 1 0), (0, .ptr 0 0)], [(1, .cells (bvs .u32 (tab32 (f2 i (k + 1)))) 255), (0, .cells (bvs .u32 (List.replicate 1024 (0 : BitVec 32))) 255)], 2)) (Le.sameT (by decide) (by simp only [-List.reduceReplicate, slotsSame, Eng.look, Nat.reduceEqDiff, reduceIte, reduceCtorEq, if_true, if_false, eq_self, true_and, and_true, Option.some.injEq, AV.int.injEq]; (try simp (disch := omega) only [wrap_i64]); (try simp [-List.reduceReplicate]); (try omega)) (by simp only [-List.reduceReplicate, memSame, Eng.look, Nat.reduceEqDiff, reduceIte, reduceCtorEq, if_true, if_false, eq_self, true_and, and_true, Option.some.injEq, AObj.cells.injEq, bvs_rep8, bvs_rep16, bvs_rep32, bvs_rep64, bvs_flat_rep, Nat.reduceMul, bvs_append, List.replicate_append_replicate, Nat.reduceAdd, bvs_inj]; try simp [-List.reduceReplicate]) (by simp [-List.reduceReplicate])) ?_
      intro k hk
      have hw : IntKind.i64.wrap (((k + 1 : Nat) : Int) - 1) = (k : Int) := by rw [wrap_i64] <;> omega
      simp (maxSteps := 1000000) -implicitDefEqProofs only [go_sem, Nat.reduceBEq, Nat.reduceLT, Nat.reduceLeDiff, Nat.reduceEqDiff, Nat.reduceAdd, Nat.reduceMul, Nat.reduceSub, reduceIte, reduceCtorEq, Int.reduceLT, Int.reduceLE, Int.reduceToNat, Int.reduceAdd, Int.reduceSub, Int.reduceNeg, Int.reduceEq, Int.reduceNe, Int.reduceBEq, Int.reduceBNe, BitVec.reduceBEq, BitVec.reduceBNe, BitVec.reduceOfInt, BitVec.reduceSetWidth, -List.reduceReplicate]
      refine cndv_split (fun h => ?_) (fun h => ?_)
      · have h' : k < 3 := by simp at h; omega
        have hg : (tab32 (f2 i (k + 1))).getD (k * 256 + i) 0 = tv (k * 256 + i) := tab32_get (by omega) (by simp only [f2, decide_eq_true_eq]; omega)
        simp (maxSteps := 1000000) -implicitDefEqProofs only [go_sem, Nat.reduceBEq, Nat.reduceLT, Nat.reduceLeDiff, Nat.reduceEqDiff, Nat.reduceAdd, Nat.reduceMul, Nat.reduceSub, reduceIte, reduceCtorEq, Int.reduceLT, Int.reduceLE, Int.reduceToNat, Int.reduceAdd, Int.reduceSub, Int.reduceNeg, Int.reduceEq, Int.reduceNe, Int.reduceBEq, Int.reduceBNe, BitVec.reduceBEq, BitVec.reduceBNe, BitVec.reduceOfInt, BitVec.reduceSetWidth, -List.reduceReplicate, hw, tab32_len, hg]
        refine ⟨by omega, by omega, by omega, ?_⟩
        have hv : (tab32 (f2 i (k + 1))).getD ((tv (k * 256 + i)).setWidth 8).toNat 0 = tv ((tv (k * 256 + i)).setWidth 8).toNat := by
          have := ((tv (k * 256 + i)).setWidth 8).isLt
          exact tab32_get (by omega) (by simp only [f2, decide_eq_true_eq]; omega)
        refine ⟨Fx.mixed, .inl ⟨[(0, false), (1, false), (2, false), (3, false), (4, false), (5, false), (6, false), (7, false), (10, false), (8, true), (9, true), (11, true), (12, true)], [1], by kernel_rfl, (fun n hn => by cases List.mem_singleton.1 hn; exact ⟨rfl, rfl⟩), ?_⟩⟩
        simp (maxSteps := 1000000) -implicitDefEqProofs only [go_sem, Nat.reduceBEq, Nat.reduceLT, Nat.reduceLeDiff, Nat.reduceEqDiff, Nat.reduceAdd, Nat.reduceMul, Nat.reduceSub, reduceIte, reduceCtorEq, Int.reduceLT, Int.reduceLE, Int.reduceToNat, Int.reduceAdd, Int.reduceSub, Int.reduceNeg, Int.reduceEq, Int.reduceNe, Int.reduceBEq, Int.reduceBNe, BitVec.reduceBEq, BitVec.reduceBNe, BitVec.reduceOfInt, BitVec.reduceSetWidth, -List.reduceReplicate, hw, tab32_len, hv]
        refine ⟨by omega, by have := ((tv (k * 256 + i)).setWidth 8).isLt; omega, by omega, by omega, UpK_normal (by omega) ?_⟩
        rw [tab32_set (f := f2 i (k + 1)) (g := f2 i (k + 2)) (j := (k + 1) * 256 + i) (by omega) (fun j _ => by rw [Bool.eq_iff_iff]; simp [f2]; omega) (tv_next (by omega)).symm]
        exact (Le.sameT (by decide) (by simp only [-List.reduceReplicate, slotsSame, Eng.look, Nat.reduceEqDiff, reduceIte, reduceCtorEq, if_true, if_false, eq_self, true_and, and_true, Option.some.injEq, AV.int.injEq]; (try simp (disch := omega) only [wrap_i64]); (try simp [-List.reduceReplicate]); (try omega)) (by simp only [-List.reduceReplicate, memSame, Eng.look, Nat.reduceEqDiff, reduceIte, reduceCtorEq, if_true, if_false, eq_self, true_and, and_true, Option.some.injEq, AObj.cells.injEq, bvs_rep8, bvs_rep16, bvs_rep32, bvs_rep64, bvs_flat_rep, Nat.reduceMul, bvs_append, List.replicate_append_replicate, Nat.reduceAdd, bvs_inj]; try simp [-List.reduceReplicate]) (by simp [-List.reduceReplicate]))
      · have h' : k = 3 := by simp at h; omega
        subst h'
        simp (maxSteps := 1000000) -implicitDefEqProofs only [go_sem, Nat.reduceBEq, Nat.reduceLT, Nat.reduceLeDiff, Nat.reduceEqDiff, Nat.reduceAdd, Nat.reduceMul, Nat.reduceSub, reduceIte, reduceCtorEq, Int.reduceLT, Int.reduceLE, Int.reduceToNat, Int.reduceAdd, Int.reduceSub, Int.reduceNeg, Int.reduceEq, Int.reduceNe, Int.reduceBEq, Int.reduceBNe, BitVec.reduceBEq, BitVec.reduceBNe, BitVec.reduceOfInt, BitVec.reduceSetWidth, -List.reduceReplicate]
        exact UpK_normal (by omega) (Le.sameT (by decide) (by simp only [-List.reduceReplicate, slotsSame, Eng.look, Nat.reduceEqDiff, tab32_f2', reduceIte, reduceCtorEq, if_true, if_false, eq_self, true_and, and_true, Option.some.injEq, AV.int.injEq]; (try simp (disch := omega) only [wrap_i64]); (try simp [-List.reduceReplicate]); (try omega)) (by simp only [-List.reduceReplicate, memSame, Eng.look, Nat.reduceEqDiff, tab32_f2', reduceIte, reduceCtorEq, if_true, if_false, eq_self, true_and, and_true, Option.some.injEq, AObj.cells.injEq, bvs_rep8, bvs_rep16, bvs_rep32, bvs_rep64, bvs_flat_rep, Nat.reduceMul, bvs_append, List.replicate_append_replicate, Nat.reduceAdd, bvs_inj]; try simp [-List.reduceReplicate]) (by simp [-List.reduceReplicate]))
    · have h' : i = 256 := by simp at h; omega
      subst h'
      simp (maxSteps := 1000000) -implicitDefEqProofs only [go_sem, Nat.reduceBEq, Nat.reduceLT, Nat.reduceLeDiff, Nat.reduceEqDiff, Nat.reduceAdd, Nat.reduceMul, Nat.reduceSub, reduceIte, reduceCtorEq, Int.reduceLT, Int.reduceLE, Int.reduceToNat, Int.reduceAdd, Int.reduceSub, Int.reduceNeg, Int.reduceEq, Int.reduceNe, Int.reduceBEq, Int.reduceBNe, BitVec.reduceBEq, BitVec.reduceBNe, BitVec.reduceOfInt, BitVec.reduceSetWidth, -List.reduceReplicate, tab32_len, tab32_take, tab32_full]
      refine Fin.flatv (fun _ => rfl) (fun f => ?_) ⟨rfl, rfl, rfl⟩
      simp only [renA, bvs_ren]
end Go.Proofs.Ytmdeoikpiiambaa
/-! Crc32b -/
namespace Go.Proofs.Ytmdeoikpiiambaa
open Go Go.Eng
def byte32 (r : BitVec 32) (x : BitVec 8) : BitVec 32 := gn poly32 8 (r ^^^ x.setWidth 32)
theorem byte32_tv (r : BitVec 32) (x : BitVec 8) : r >>> 8 ^^^ tv (r.setWidth 8 ^^^ x).toNat = byte32 r x := by
  rw [tv_byte, byte32, gn_byte (by decide)]
theorem tv_row (k : Nat) (x : BitVec 8) : tv (k * 256 + x.toNat) = gn poly32 (8 * (k + 1)) (x.setWidth 32) := by
  have h : x.toNat < 256 := x.isLt
  unfold tv
  have e1 : (k * 256 + x.toNat) / 256 = k := by omega
  have e2 : (k * 256 + x.toNat) % 256 = x.toNat := by omega
  rw [e1, e2, BitVec.ofNat_toNat]
/-- a byte that lies higher comes down by shifts -/
theorem gn_down (x : BitVec 8) (c : Nat) (hc : c ≤ 24) : gn poly32 c (x.setWidth 32 <<< c) = x.setWidth 32 := by
  rw [gn_high]
  · apply BitVec.eq_of_getLsbD_eq
    intro i hi
    simp only [BitVec.getLsbD_ushiftRight, BitVec.getLsbD_shiftLeft, BitVec.getLsbD_setWidth]
    have h1 : ¬ (c + i < c) := by omega
    have h2 : c + i - c = i := by omega
    by_cases h3 : c + i < 32
    · simp [h1, h2, h3, hi]
    · have : x.getLsbD i = false := BitVec.getLsbD_of_ge _ _ (by omega)
      simp [h2, this]
  · intro j hj
    simp [BitVec.getLsbD_shiftLeft, hj]
theorem gn_from (x : BitVec 8) (c d : Nat) (hc : c ≤ 24) : gn poly32 (d + c) (x.setWidth 32 <<< c) = gn poly32 d (x.setWidth 32) := by
  rw [gn_add, gn_down x c hc]
def word32 (a b c d : BitVec 8) : BitVec 32 := a.setWidth 32 ||| b.setWidth 32 <<< 8 ||| c.setWidth 32 <<< 16 ||| d.setWidth 32 <<< 24
theorem fold32 (a b c d : BitVec 8) : (a.setWidth 32 ||| b.setWidth 32 <<< 8 ||| c.setWidth 32 <<< 16 ||| d.setWidth 32 <<< 24) = word32 a b c d := rfl
theorem word32_xor (a b c d : BitVec 8) : word32 a b c d = a.setWidth 32 ^^^ b.setWidth 32 <<< 8 ^^^ c.setWidth 32 <<< 16 ^^^ d.setWidth 32 <<< 24 := by
  apply BitVec.eq_of_getLsbD_eq
  intro i hi
  simp only [word32, BitVec.getLsbD_or, BitVec.getLsbD_xor, BitVec.getLsbD_shiftLeft, BitVec.getLsbD_setWidth, hi, decide_true, Bool.true_and]
  have hz : ∀ (x : BitVec 8) (j : Nat), 8 ≤ j → x.getLsbD j = false := fun x j h => BitVec.getLsbD_of_ge _ _ h
  rcases Nat.lt_or_ge i 8 with h | h
  · have g1 : decide (i < 8) = true := by simp [h]
    have g2 : decide (i < 16) = true := by simp; omega
    have g3 : decide (i < 24) = true := by simp; omega
    simp [g1, g2, g3]
  · rcases Nat.lt_or_ge i 16 with h' | h'
    · have g2 : decide (i < 16) = true := by simp; omega
      have g3 : decide (i < 24) = true := by simp; omega
      simp [hz a i h, g2, g3]
    · rcases Nat.lt_or_ge i 24 with h'' | h''
      · have g3 : decide (i < 24) = true := by simp; omega
        simp [hz a i h, hz b (i - 8) (by omega), g3]
      · simp [hz a i h, hz b (i - 8) (by omega), hz c (i - 16) (by omega)]
theorem four_bytes (r : BitVec 32) (a b c d : BitVec 8) : byte32 (byte32 (byte32 (byte32 r a) b) c) d = gn poly32 32 (r ^^^ word32 a b c d) := by
  rw [word32_xor]
  unfold byte32
  have e1 : ∀ v : BitVec 32, gn poly32 8 v ^^^ b.setWidth 32 = gn poly32 8 (v ^^^ b.setWidth 32 <<< 8) := fun v => by rw [gn_xor, gn_down b 8 (by decide)]
  have e2 : ∀ v : BitVec 32, gn poly32 16 v ^^^ c.setWidth 32 = gn poly32 16 (v ^^^ c.setWidth 32 <<< 16) := fun v => by rw [gn_xor, gn_down c 16 (by decide)]
  have e3 : ∀ v : BitVec 32, gn poly32 24 v ^^^ d.setWidth 32 = gn poly32 24 (v ^^^ d.setWidth 32 <<< 24) := fun v => by rw [gn_xor, gn_down d 24 (by decide)]
  rw [e1, ← gn_add, e2, ← gn_add, e3, ← gn_add]
  congr 1
  simp only [BitVec.xor_assoc]
theorem split32 (r : BitVec 32) : r = (r.setWidth 8).setWidth 32 ^^^ ((r >>> 8).setWidth 8).setWidth 32 <<< 8 ^^^ ((r >>> 16).setWidth 8).setWidth 32 <<< 16 ^^^ ((r >>> 24).setWidth 8).setWidth 32 <<< 24 := by
  apply BitVec.eq_of_getLsbD_eq
  intro i hi
  rw [BitVec.getLsbD_xor, BitVec.getLsbD_xor, BitVec.getLsbD_xor]
  rw [BitVec.getLsbD_shiftLeft, BitVec.getLsbD_shiftLeft, BitVec.getLsbD_shiftLeft]
  rw [BitVec.getLsbD_setWidth, BitVec.getLsbD_setWidth, BitVec.getLsbD_setWidth, BitVec.getLsbD_setWidth, BitVec.getLsbD_setWidth, BitVec.getLsbD_setWidth, BitVec.getLsbD_setWidth, BitVec.getLsbD_setWidth]
  rw [BitVec.getLsbD_ushiftRight, BitVec.getLsbD_ushiftRight, BitVec.getLsbD_ushiftRight]
  rcases Nat.lt_or_ge i 8 with h | h
  · have g0 : decide (i < 8) = true := by simp [h]
    have g2 : decide (i < 16) = true := by simp; omega
    have g3 : decide (i < 24) = true := by simp; omega
    have g4 : decide (i < 32) = true := by simp [hi]
    simp only [g0, g2, g3, g4, Bool.true_and, Bool.not_true, Bool.false_and, Bool.and_false, Bool.xor_false]
  · have g0 : decide (i < 8) = false := by simp; omega
    have g4 : decide (i < 32) = true := by simp [hi]
    have k1 : decide (i - 8 < 32) = true := by simp; omega
    have k2 : decide (i - 16 < 32) = true := by simp; omega
    have k3 : decide (i - 24 < 32) = true := by simp; omega
    rcases Nat.lt_or_ge i 16 with h' | h'
    · have g1 : decide (i - 8 < 8) = true := by simp; omega
      have g2 : decide (i < 16) = true := by simp; omega
      have g3 : decide (i < 24) = true := by simp; omega
      simp only [g0, g1, g2, g3, g4, k1, show 8 + (i - 8) = i by omega, Bool.true_and, Bool.not_true, Bool.not_false, Bool.false_and, Bool.and_false, Bool.xor_false, Bool.false_xor]
    · have g1 : decide (i - 8 < 8) = false := by simp; omega
      have g2' : decide (i < 16) = false := by simp; omega
      rcases Nat.lt_or_ge i 24 with h'' | h''
      · have g2 : decide (i - 16 < 8) = true := by simp; omega
        have g3 : decide (i < 24) = true := by simp; omega
        simp only [g0, g1, g2, g2', g3, g4, k1, k2, show 16 + (i - 16) = i by omega, Bool.true_and, Bool.not_true, Bool.not_false, Bool.false_and, Bool.and_false, Bool.xor_false, Bool.false_xor]
      · have g2 : decide (i - 16 < 8) = false := by simp; omega
        have g3 : decide (i - 24 < 8) = true := by simp; omega
        have g3' : decide (i < 24) = false := by simp; omega
        simp only [g0, g1, g2, g2', g3, g3', g4, k1, k2, k3, show 24 + (i - 24) = i by omega, Bool.true_and, Bool.not_true, Bool.not_false, Bool.false_and, Bool.and_false, Bool.xor_false, Bool.false_xor]
theorem slice32 (r : BitVec 32) : tv (3 * 256 + (r.setWidth 8).toNat) ^^^ tv (2 * 256 + ((r >>> 8).setWidth 8).toNat) ^^^ tv (1 * 256 + ((r >>> 16).setWidth 8).toNat) ^^^ tv (0 * 256 + ((r >>> 24).setWidth 8).toNat) = gn poly32 32 r := by
  rw [tv_row, tv_row, tv_row, tv_row]
  conv => rhs; rw [split32 r]
  rw [gn_xor, gn_xor, gn_xor]
  have f1 : ∀ x : BitVec 8, gn poly32 32 (x.setWidth 32 <<< 8) = gn poly32 24 (x.setWidth 32) := fun x => gn_from x 8 24 (by decide)
  have f2 : ∀ x : BitVec 8, gn poly32 32 (x.setWidth 32 <<< 16) = gn poly32 16 (x.setWidth 32) := fun x => gn_from x 16 16 (by decide)
  have f3 : ∀ x : BitVec 8, gn poly32 32 (x.setWidth 32 <<< 24) = gn poly32 8 (x.setWidth 32) := fun x => gn_from x 24 8 (by decide)
  rw [f1, f2, f3]
theorem slice32' (r : BitVec 32) : tv (768 + (r.setWidth 8).toNat) ^^^ tv (512 + ((r >>> 8).setWidth 8).toNat) ^^^ tv (256 + ((r >>> 16).setWidth 8).toNat) ^^^ tv ((r >>> 24).setWidth 8).toNat = gn poly32 32 r := by
  have := slice32 r
  rwa [Nat.zero_mul, Nat.zero_add, Nat.one_mul] at this
def on32 (sum : BitVec 32) (b : List (BitVec 8)) : BitVec 32 := ~~~ b.foldl byte32 (~~~ sum)
theorem tab_get (k : Nat) (hk : k < 4) (x : BitVec 8) : (tab32 fun _ => true).getD (k * 256 + x.toNat) 0 = tv (k * 256 + x.toNat) := by
  have h : x.toNat < 256 := x.isLt
  exact tab32_get (by omega) rfl
theorem tab_get0 (x : BitVec 8) : (tab32 fun _ => true).getD x.toNat 0 = tv (0 * 256 + x.toNat) := by
  have := tab_get 0 (by decide) x
  simpa using this
theorem tab_get1 (x : BitVec 8) : (tab32 fun _ => true).getD (256 + x.toNat) 0 = tv (1 * 256 + x.toNat) := by
  have := tab_get 1 (by decide) x
  simpa using this
theorem tab_get2 (x : BitVec 8) : (tab32 fun _ => true).getD (512 + x.toNat) 0 = tv (2 * 256 + x.toNat) := tab_get 2 (by decide) x
theorem tab_get3 (x : BitVec 8) : (tab32 fun _ => true).getD (768 + x.toNat) 0 = tv (3 * 256 + x.toNat) := tab_get 3 (by decide) x
theorem take4 (b : List (BitVec 8)) (n : Nat) (h : 4 * n + 4 ≤ b.length) (r : BitVec 32) : (b.take (4 * (n + 1))).foldl byte32 r = byte32 (byte32 (byte32 (byte32 ((b.take (4 * n)).foldl byte32 r) (b.getD (4 * n) 0)) (b.getD (4 * n + 1) 0)) (b.getD (4 * n + 2) 0)) (b.getD (4 * n + 3) 0) := by
  rw [show 4 * (n + 1) = 4 * n + 1 + 1 + 1 + 1 by omega, foldl_take_succ _ _ _ _ 0 (by omega), foldl_take_succ _ _ _ _ 0 (by omega), foldl_take_succ _ _ _ _ 0 (by omega), foldl_take_succ _ _ _ _ 0 (by omega)]
set_option maxHeartbeats 400000 in
theorem onOk32 (sum : BitVec 32) (b : List (BitVec 8)) (hb : b.length ≤ 4611686018427387904) : CallOk Try.prog 174 [.int .u32 (sum.toNat : Int), .ro b.length (bvs .u8 b)] (fun _ => true) [] 0 fun v m nx => v = .int .u32 ((on32 sum b).toNat : Int) ∧ m = [] ∧ nx = 0 := by
  refine fn_ok Try.func174 rfl (by show 2 ≤ 86; decide) ?_
  simp (maxSteps := 1000000) -implicitDefEqProofs only [go_sem, Nat.reduceBEq, Nat.reduceLT, Nat.reduceLeDiff, Nat.reduceEqDiff, Nat.reduceAdd, Nat.reduceMul, Nat.reduceSub, reduceIte, reduceCtorEq, Int.reduceLT, Int.reduceLE, Int.reduceToNat, Int.reduceAdd, Int.reduceSub, Int.reduceNeg, Int.reduceEq, Int.reduceNe, Int.reduceBEq, Int.reduceBNe, BitVec.reduceBEq, BitVec.reduceBNe, BitVec.reduceOfInt, BitVec.reduceSetWidth, -List.reduceReplicate, Try.results174, Try.ntmps174]
  refine table32.flatv trivial (fun f => by simp only [renA, bvs_ren]) (by simp only [noRo, bvs_noRo]) ?_
  simp (maxSteps := 1000000) -implicitDefEqProofs only [go_sem, Nat.reduceBEq, Nat.reduceLT, Nat.reduceLeDiff, Nat.reduceEqDiff, Nat.reduceAdd, Nat.reduceMul, Nat.reduceSub, reduceIte, reduceCtorEq, Int.reduceLT, Int.reduceLE, Int.reduceToNat, Int.reduceAdd, Int.reduceSub, Int.reduceNeg, Int.reduceEq, Int.reduceNe, Int.reduceBEq, Int.reduceBNe, BitVec.reduceBEq, BitVec.reduceBNe, BitVec.reduceOfInt, BitVec.reduceSetWidth, -List.reduceReplicate, tab32_len, List.drop_replicate]
  refine LoopOk.up (b.length / 4) (fun n => ([(1, .ro (b.drop (4 * n)).length (bvs .u8 (b.drop (4 * n)))), (6, .int .u32 (((b.take (4 * n)).foldl byte32 (~~~ sum)).toNat : Int)), (5, .ptr 0 0)], [(0, .cells (bvs .u32 (tab32 fun _ => true)) 255)], 1)) (Le.sameT (by decide) (by simp only [-List.reduceReplicate, slotsSame, Eng.look, Nat.reduceEqDiff, Nat.mul_zero, List.drop_zero, List.take_zero, List.foldl_nil, reduceIte, reduceCtorEq, if_true, if_false, eq_self, true_and, and_true, Option.some.injEq, AV.int.injEq]; (try simp (disch := omega) only [wrap_i64]); (try simp [-List.reduceReplicate]); (try omega)) (by simp only [-List.reduceReplicate, memSame, Eng.look, Nat.reduceEqDiff, Nat.mul_zero, List.drop_zero, List.take_zero, List.foldl_nil, reduceIte, reduceCtorEq, if_true, if_false, eq_self, true_and, and_true, Option.some.injEq, AObj.cells.injEq, bvs_rep8, bvs_rep16, bvs_rep32, bvs_rep64, bvs_flat_rep, Nat.reduceMul, bvs_append, List.replicate_append_replicate, Nat.reduceAdd, bvs_inj]; try simp [-List.reduceReplicate]) (by simp [-List.reduceReplicate])) ?_
  intro n hn
  simp (maxSteps := 1000000) -implicitDefEqProofs only [go_sem, Nat.reduceBEq, Nat.reduceLT, Nat.reduceLeDiff, Nat.reduceEqDiff, Nat.reduceAdd, Nat.reduceMul, Nat.reduceSub, reduceIte, reduceCtorEq, Int.reduceLT, Int.reduceLE, Int.reduceToNat, Int.reduceAdd, Int.reduceSub, Int.reduceNeg, Int.reduceEq, Int.reduceNe, Int.reduceBEq, Int.reduceBNe, BitVec.reduceBEq, BitVec.reduceBNe, BitVec.reduceOfInt, BitVec.reduceSetWidth, -List.reduceReplicate]
  refine cndv_split (fun h => ?_) (fun h => ?_)
  · have h' : 4 * n + 4 ≤ b.length := by simp at h; omega
    simp (maxSteps := 1000000) -implicitDefEqProofs only [go_sem, Nat.reduceBEq, Nat.reduceLT, Nat.reduceLeDiff, Nat.reduceEqDiff, Nat.reduceAdd, Nat.reduceMul, Nat.reduceSub, reduceIte, reduceCtorEq, Int.reduceLT, Int.reduceLE, Int.reduceToNat, Int.reduceAdd, Int.reduceSub, Int.reduceNeg, Int.reduceEq, Int.reduceNe, Int.reduceBEq, Int.reduceBNe, BitVec.reduceBEq, BitVec.reduceBNe, BitVec.reduceOfInt, BitVec.reduceSetWidth, -List.reduceReplicate]
    refine ⟨Fx.mixed, .inl ⟨[(0, false), (1, false), (2, false), (3, false), (4, false), (5, false), (6, false), (7, false), (8, false), (9, false), (10, false), (11, false), (12, false), (13, false), (14, false), (15, false), (16, false), (17, false), (18, false), (19, false), (20, false), (21, false), (22, false), (23, false), (24, false)], [], by kernel_rfl, (fun n hn => by cases hn), ?_⟩⟩
    simp (maxSteps := 1000000) -implicitDefEqProofs only [go_sem, Nat.reduceBEq, Nat.reduceLT, Nat.reduceLeDiff, Nat.reduceEqDiff, Nat.reduceAdd, Nat.reduceMul, Nat.reduceSub, reduceIte, reduceCtorEq, Int.reduceLT, Int.reduceLE, Int.reduceToNat, Int.reduceAdd, Int.reduceSub, Int.reduceNeg, Int.reduceEq, Int.reduceNe, Int.reduceBEq, Int.reduceBNe, BitVec.reduceBEq, BitVec.reduceBNe, BitVec.reduceOfInt, BitVec.reduceSetWidth, -List.reduceReplicate, List.length_drop, fold32]
    refine ⟨by omega, by omega, by omega, by omega, by omega, by omega, by omega, by omega, by omega, by omega, by omega, by omega, ?_⟩
    generalize hw : word32 (b.getD (4 * n) 0) (b.getD (4 * n + 1) 0) (b.getD (4 * n + 2) 0) (b.getD (4 * n + 3) 0) = wd
    generalize hr : ((b.take (4 * n)).foldl byte32 (~~~ sum)) = rr
    generalize hq : rr ^^^ wd = qq
    refine ⟨Fx.mixed, .inl ⟨[(0, false), (1, false), (2, false), (3, false), (4, false), (5, false), (6, false), (7, false), (8, false), (9, false), (10, false), (11, false), (12, false), (13, false), (14, false), (15, false), (16, false), (17, false), (18, false), (19, false), (20, false), (21, false), (22, false), (23, false), (24, false), (25, false), (26, false)], [], by kernel_rfl, (fun n hn => by cases hn), ?_⟩⟩
    simp (maxSteps := 1000000) -implicitDefEqProofs only [go_sem, Nat.reduceBEq, Nat.reduceLT, Nat.reduceLeDiff, Nat.reduceEqDiff, Nat.reduceAdd, Nat.reduceMul, Nat.reduceSub, reduceIte, reduceCtorEq, Int.reduceLT, Int.reduceLE, Int.reduceToNat, Int.reduceAdd, Int.reduceSub, Int.reduceNeg, Int.reduceEq, Int.reduceNe, Int.reduceBEq, Int.reduceBNe, BitVec.reduceBEq, BitVec.reduceBNe, BitVec.reduceOfInt, BitVec.reduceSetWidth, -List.reduceReplicate, List.length_drop, tab32_len, tab_get0, tab_get1, tab_get2, tab_get3, slice32']
    have l1 := (qq.setWidth 8).isLt
    have l2 := ((qq >>> 8).setWidth 8).isLt
    have l3 := ((qq >>> 16).setWidth 8).isLt
    have l4 := ((qq >>> 24).setWidth 8).isLt
    refine ⟨by omega, by omega, by omega, by omega, by omega, UpK_normal (by omega) ?_⟩
    have s1 : (b.take (4 * (n + 1))).foldl byte32 (~~~ sum) = gn poly32 32 qq := by rw [take4 b n h', four_bytes, hw, hr, hq]
    have s2 : List.take (b.length - 4 * (n + 1)) (List.drop 4 (List.drop (4 * n) b)) = List.drop (4 * (n + 1)) b := by
      rw [List.drop_drop, List.take_of_length_le (by rw [List.length_drop]; omega)]
      rfl
    have s3 : b.length - 4 * n - 4 = b.length - 4 * (n + 1) := by omega
    exact (Le.sameT (by decide) (by simp only [-List.reduceReplicate, slotsSame, Eng.look, Nat.reduceEqDiff, s1, s2, s3, reduceIte, reduceCtorEq, if_true, if_false, eq_self, true_and, and_true, Option.some.injEq, AV.int.injEq]; (try simp (disch := omega) only [wrap_i64]); (try simp [-List.reduceReplicate]); (try omega)) (by simp only [-List.reduceReplicate, memSame, Eng.look, Nat.reduceEqDiff, s1, s2, s3, reduceIte, reduceCtorEq, if_true, if_false, eq_self, true_and, and_true, Option.some.injEq, AObj.cells.injEq, bvs_rep8, bvs_rep16, bvs_rep32, bvs_rep64, bvs_flat_rep, Nat.reduceMul, bvs_append, List.replicate_append_replicate, Nat.reduceAdd, bvs_inj]; try simp [-List.reduceReplicate]) (by simp [-List.reduceReplicate]))
  · have h' : b.length < 4 * n + 4 := by simp at h; omega
    simp (maxSteps := 1000000) -implicitDefEqProofs only [go_sem, Nat.reduceBEq, Nat.reduceLT, Nat.reduceLeDiff, Nat.reduceEqDiff, Nat.reduceAdd, Nat.reduceMul, Nat.reduceSub, reduceIte, reduceCtorEq, Int.reduceLT, Int.reduceLE, Int.reduceToNat, Int.reduceAdd, Int.reduceSub, Int.reduceNeg, Int.reduceEq, Int.reduceNe, Int.reduceBEq, Int.reduceBNe, BitVec.reduceBEq, BitVec.reduceBNe, BitVec.reduceOfInt, BitVec.reduceSetWidth, -List.reduceReplicate, List.length_drop]
    refine LoopOk.up (b.length - 4 * n) (fun k => ([(69, .int .i64 k), (68, .int .i64 ((b.length - 4 * n : Nat) : Int)), (67, .ro (b.length - 4 * n) (bvs .u8 (b.drop (4 * n)))), (6, .int .u32 ((((b.drop (4 * n)).take k).foldl byte32 ((b.take (4 * n)).foldl byte32 (~~~ sum))).toNat : Int)), (5, .ptr 0 0)], [(0, .cells (bvs .u32 (tab32 fun _ => true)) 255)], 1)) (Le.sameT (by decide) (by simp only [-List.reduceReplicate, slotsSame, Eng.look, Nat.reduceEqDiff, List.take_zero, List.foldl_nil, reduceIte, reduceCtorEq, if_true, if_false, eq_self, true_and, and_true, Option.some.injEq, AV.int.injEq]; (try simp (disch := omega) only [wrap_i64]); (try simp [-List.reduceReplicate]); (try omega)) (by simp only [-List.reduceReplicate, memSame, Eng.look, Nat.reduceEqDiff, List.take_zero, List.foldl_nil, reduceIte, reduceCtorEq, if_true, if_false, eq_self, true_and, and_true, Option.some.injEq, AObj.cells.injEq, bvs_rep8, bvs_rep16, bvs_rep32, bvs_rep64, bvs_flat_rep, Nat.reduceMul, bvs_append, List.replicate_append_replicate, Nat.reduceAdd, bvs_inj]; try simp [-List.reduceReplicate]) (by simp [-List.reduceReplicate])) ?_
    intro k hk
    simp (maxSteps := 1000000) -implicitDefEqProofs only [go_sem, Nat.reduceBEq, Nat.reduceLT, Nat.reduceLeDiff, Nat.reduceEqDiff, Nat.reduceAdd, Nat.reduceMul, Nat.reduceSub, reduceIte, reduceCtorEq, Int.reduceLT, Int.reduceLE, Int.reduceToNat, Int.reduceAdd, Int.reduceSub, Int.reduceNeg, Int.reduceEq, Int.reduceNe, Int.reduceBEq, Int.reduceBNe, BitVec.reduceBEq, BitVec.reduceBNe, BitVec.reduceOfInt, BitVec.reduceSetWidth, -List.reduceReplicate]
    refine cndv_split (fun h => ?_) (fun h => ?_)
    · have h1 : k < b.length - 4 * n := by simp at h; omega
      have h2 : k < (b.drop (4 * n)).length := by rw [List.length_drop]; exact h1
      simp (maxSteps := 1000000) -implicitDefEqProofs only [go_sem, Nat.reduceBEq, Nat.reduceLT, Nat.reduceLeDiff, Nat.reduceEqDiff, Nat.reduceAdd, Nat.reduceMul, Nat.reduceSub, reduceIte, reduceCtorEq, Int.reduceLT, Int.reduceLE, Int.reduceToNat, Int.reduceAdd, Int.reduceSub, Int.reduceNeg, Int.reduceEq, Int.reduceNe, Int.reduceBEq, Int.reduceBNe, BitVec.reduceBEq, BitVec.reduceBNe, BitVec.reduceOfInt, BitVec.reduceSetWidth, -List.reduceReplicate, tab32_len, tab_get0, List.length_drop, Nat.zero_mul, Nat.zero_add, byte32_tv]
      have l1 := (BitVec.setWidth 8 (List.foldl byte32 (List.foldl byte32 (~~~sum) (List.take (4 * n) b)) (List.take k (List.drop (4 * n) b))) ^^^ b.getD (4 * n + k) 0).isLt
      have s1 : (List.take (k + 1) (List.drop (4 * n) b)).foldl byte32 (List.foldl byte32 (~~~sum) (List.take (4 * n) b)) = byte32 ((List.take k (List.drop (4 * n) b)).foldl byte32 (List.foldl byte32 (~~~sum) (List.take (4 * n) b))) (b.getD (4 * n + k) 0) := by
        rw [foldl_take_succ _ _ _ _ 0 h2, drop_getD]
      refine ⟨by omega, by omega, by omega, by omega, UpK_normal h1 (Le.sameT (by decide) (by simp only [-List.reduceReplicate, slotsSame, Eng.look, Nat.reduceEqDiff, s1, reduceIte, reduceCtorEq, if_true, if_false, eq_self, true_and, and_true, Option.some.injEq, AV.int.injEq]; (try simp (disch := omega) only [wrap_i64]); (try simp [-List.reduceReplicate]); (try omega)) (by simp only [-List.reduceReplicate, memSame, Eng.look, Nat.reduceEqDiff, s1, reduceIte, reduceCtorEq, if_true, if_false, eq_self, true_and, and_true, Option.some.injEq, AObj.cells.injEq, bvs_rep8, bvs_rep16, bvs_rep32, bvs_rep64, bvs_flat_rep, Nat.reduceMul, bvs_append, List.replicate_append_replicate, Nat.reduceAdd, bvs_inj]; try simp [-List.reduceReplicate]) (by simp [-List.reduceReplicate]))⟩
    · have h1 : k = b.length - 4 * n := by simp at h; omega
      subst h1
      have e : List.take (b.length - 4 * n) (b.drop (4 * n)) = b.drop (4 * n) := List.take_of_length_le (by rw [List.length_drop]; exact Nat.le_refl _)
      have e2 : (b.drop (4 * n)).foldl byte32 ((b.take (4 * n)).foldl byte32 (~~~ sum)) = b.foldl byte32 (~~~ sum) := by
        rw [← List.foldl_append, List.take_append_drop]
      simp (maxSteps := 1000000) -implicitDefEqProofs only [go_sem, Nat.reduceBEq, Nat.reduceLT, Nat.reduceLeDiff, Nat.reduceEqDiff, Nat.reduceAdd, Nat.reduceMul, Nat.reduceSub, reduceIte, reduceCtorEq, Int.reduceLT, Int.reduceLE, Int.reduceToNat, Int.reduceAdd, Int.reduceSub, Int.reduceNeg, Int.reduceEq, Int.reduceNe, Int.reduceBEq, Int.reduceBNe, BitVec.reduceBEq, BitVec.reduceBNe, BitVec.reduceOfInt, BitVec.reduceSetWidth, -List.reduceReplicate, e, e2]
      exact Fin.flatv (fun _ => rfl) (fun f => rfl) ⟨rfl, rfl, rfl⟩
theorem sumOk32 (b : List (BitVec 8)) (hb : b.length ≤ 4611686018427387904) : CallOk Try.prog 130 [.ro b.length (bvs .u8 b)] (fun _ => true) [] 0 fun v m nx => v = .int .u32 ((on32 0 b).toNat : Int) ∧ m = [] ∧ nx = 0 := by
  refine fn_ok Try.func130 rfl (by show 1 ≤ 5; decide) ?_
  simp (maxSteps := 1000000) -implicitDefEqProofs only [go_sem, Nat.reduceBEq, Nat.reduceLT, Nat.reduceLeDiff, Nat.reduceEqDiff, Nat.reduceAdd, Nat.reduceMul, Nat.reduceSub, reduceIte, reduceCtorEq, Int.reduceLT, Int.reduceLE, Int.reduceToNat, Int.reduceAdd, Int.reduceSub, Int.reduceNeg, Int.reduceEq, Int.reduceNe, Int.reduceBEq, Int.reduceBNe, BitVec.reduceBEq, BitVec.reduceBNe, BitVec.reduceOfInt, BitVec.reduceSetWidth, -List.reduceReplicate, Try.results130, Try.ntmps130]
  refine (onOk32 0 b hb).flatv (by simp only [argsx, argx_int, argx_bool, argx_fn, argx_ro, argx_nils, eq_self, true_and, and_true, and_self]; try trivial) (fun _ => rfl) rfl ?_
  simp (maxSteps := 1000000) -implicitDefEqProofs only [go_sem, Nat.reduceBEq, Nat.reduceLT, Nat.reduceLeDiff, Nat.reduceEqDiff, Nat.reduceAdd, Nat.reduceMul, Nat.reduceSub, reduceIte, reduceCtorEq, Int.reduceLT, Int.reduceLE, Int.reduceToNat, Int.reduceAdd, Int.reduceSub, Int.reduceNeg, Int.reduceEq, Int.reduceNe, Int.reduceBEq, Int.reduceBNe, BitVec.reduceBEq, BitVec.reduceBNe, BitVec.reduceOfInt, BitVec.reduceSetWidth, -List.reduceReplicate]
  exact Fin.flatv (fun _ => rfl) (fun f => rfl) ⟨rfl, rfl, rfl⟩
end Go.Proofs.Ytmdeoikpiiambaa
/-! Crc32c -/
namespace Go.Proofs.Ytmdeoikpiiambaa
open Go Go.Eng
/-- one bit of the document's register -/
def bit32 (p : BitVec 32 × BitVec 8) : BitVec 32 × BitVec 8 := (if (p.1 ^^^ p.2.setWidth 32) % 2#32 = 1#32 then p.1 / 2#32 ^^^ 3988292384#32 else p.1 / 2#32, p.2 / 2#8)
def bits32 : Nat → BitVec 32 × BitVec 8 → BitVec 32 × BitVec 8
  | 0, p => p
  | k + 1, p => bit32 (bits32 k p)
def come32 (r : BitVec 32) (b : List (BitVec 8)) : BitVec 32 := b.foldl (fun r x => (bits32 8 (r, x)).1) r
set_option maxHeartbeats 400000 in
theorem comeOk32 (r : BitVec 32) (b : List (BitVec 8)) (hb : b.length ≤ 4611686018427387904) : CallOk Try.prog 135 [.int .u32 (r.toNat : Int), .ro b.length (bvs .u8 b)] (fun _ => true) [] 0 fun v m nx => v = .int .u32 ((come32 r b).toNat : Int) ∧ m = [] ∧ nx = 0 := by
  refine fn_ok Try.func135 rfl (by show 2 ≤ 37; decide) ?_
  simp (maxSteps := 1000000) -implicitDefEqProofs only [go_sem, Nat.reduceBEq, Nat.reduceLT, Nat.reduceLeDiff, Nat.reduceEqDiff, Nat.reduceAdd, Nat.reduceMul, Nat.reduceSub, reduceIte, reduceCtorEq, Int.reduceLT, Int.reduceLE, Int.reduceToNat, Int.reduceAdd, Int.reduceSub, Int.reduceNeg, Int.reduceEq, Int.reduceNe, Int.reduceBEq, Int.reduceBNe, BitVec.reduceBEq, BitVec.reduceBNe, BitVec.reduceOfInt, BitVec.reduceSetWidth, -List.reduceReplicate, Try.results135, Try.ntmps135]
  refine LoopOk.up b.length (fun n => ([(5, .int .i64 n), (0, .int .u32 ((come32 r (b.take n)).toNat : Int)), (1, .ro b.length (bvs .u8 b))], [], 0)) (Le.sameT (by decide) (by simp only [-List.reduceReplicate, slotsSame, Eng.look, Nat.reduceEqDiff, List.take_zero, come32, List.foldl_nil, reduceIte, reduceCtorEq, if_true, if_false, eq_self, true_and, and_true, Option.some.injEq, AV.int.injEq]; (try simp (disch := omega) only [wrap_i64]); (try simp [-List.reduceReplicate]); (try omega)) (by simp only [-List.reduceReplicate, memSame, Eng.look, Nat.reduceEqDiff, List.take_zero, come32, List.foldl_nil, reduceIte, reduceCtorEq, if_true, if_false, eq_self, true_and, and_true, Option.some.injEq, AObj.cells.injEq, bvs_rep8, bvs_rep16, bvs_rep32, bvs_rep64, bvs_flat_rep, Nat.reduceMul, bvs_append, List.replicate_append_replicate, Nat.reduceAdd, bvs_inj]; try simp [-List.reduceReplicate]) (by simp [-List.reduceReplicate])) ?_
  intro n hn
  simp (maxSteps := 1000000) -implicitDefEqProofs only [go_sem, Nat.reduceBEq, Nat.reduceLT, Nat.reduceLeDiff, Nat.reduceEqDiff, Nat.reduceAdd, Nat.reduceMul, Nat.reduceSub, reduceIte, reduceCtorEq, Int.reduceLT, Int.reduceLE, Int.reduceToNat, Int.reduceAdd, Int.reduceSub, Int.reduceNeg, Int.reduceEq, Int.reduceNe, Int.reduceBEq, Int.reduceBNe, BitVec.reduceBEq, BitVec.reduceBNe, BitVec.reduceOfInt, BitVec.reduceSetWidth, -List.reduceReplicate]
  refine cndv_split (fun h => ?_) (fun h => ?_)
  · have h' : n < b.length := by simpa using h
    simp (maxSteps := 1000000) -implicitDefEqProofs only [go_sem, Nat.reduceBEq, Nat.reduceLT, Nat.reduceLeDiff, Nat.reduceEqDiff, Nat.reduceAdd, Nat.reduceMul, Nat.reduceSub, reduceIte, reduceCtorEq, Int.reduceLT, Int.reduceLE, Int.reduceToNat, Int.reduceAdd, Int.reduceSub, Int.reduceNeg, Int.reduceEq, Int.reduceNe, Int.reduceBEq, Int.reduceBNe, BitVec.reduceBEq, BitVec.reduceBNe, BitVec.reduceOfInt, BitVec.reduceSetWidth, -List.reduceReplicate, List.length_drop]
    refine ⟨by omega, h', by omega, ?_⟩
    refine LoopOk.up 8 (fun k => ([(7, .int .i64 k), (5, .int .i64 n), (0, .int .u32 ((bits32 k (come32 r (b.take n), b.getD n 0)).1.toNat : Int)), (6, .int .u8 ((bits32 k (come32 r (b.take n), b.getD n 0)).2.toNat : Int)), (1, .ro b.length (bvs .u8 b))], [], 0)) (Le.sameT (by decide) (by simp only [-List.reduceReplicate, slotsSame, Eng.look, Nat.reduceEqDiff, bits32, reduceIte, reduceCtorEq, if_true, if_false, eq_self, true_and, and_true, Option.some.injEq, AV.int.injEq]; (try simp (disch := omega) only [wrap_i64]); (try simp [-List.reduceReplicate]); (try omega)) (by simp only [-List.reduceReplicate, memSame, Eng.look, Nat.reduceEqDiff, bits32, reduceIte, reduceCtorEq, if_true, if_false, eq_self, true_and, and_true, Option.some.injEq, AObj.cells.injEq, bvs_rep8, bvs_rep16, bvs_rep32, bvs_rep64, bvs_flat_rep, Nat.reduceMul, bvs_append, List.replicate_append_replicate, Nat.reduceAdd, bvs_inj]; try simp [-List.reduceReplicate]) (by simp [-List.reduceReplicate])) ?_
    intro k hk
    simp (maxSteps := 1000000) -implicitDefEqProofs only [go_sem, Nat.reduceBEq, Nat.reduceLT, Nat.reduceLeDiff, Nat.reduceEqDiff, Nat.reduceAdd, Nat.reduceMul, Nat.reduceSub, reduceIte, reduceCtorEq, Int.reduceLT, Int.reduceLE, Int.reduceToNat, Int.reduceAdd, Int.reduceSub, Int.reduceNeg, Int.reduceEq, Int.reduceNe, Int.reduceBEq, Int.reduceBNe, BitVec.reduceBEq, BitVec.reduceBNe, BitVec.reduceOfInt, BitVec.reduceSetWidth, -List.reduceReplicate]
    refine cndv_split (fun h => ?_) (fun h => ?_)
    · have hk' : (k : Int) < 8 := by simpa using h
      simp (maxSteps := 1000000) -implicitDefEqProofs only [go_sem, Nat.reduceBEq, Nat.reduceLT, Nat.reduceLeDiff, Nat.reduceEqDiff, Nat.reduceAdd, Nat.reduceMul, Nat.reduceSub, reduceIte, reduceCtorEq, Int.reduceLT, Int.reduceLE, Int.reduceToNat, Int.reduceAdd, Int.reduceSub, Int.reduceNeg, Int.reduceEq, Int.reduceNe, Int.reduceBEq, Int.reduceBNe, BitVec.reduceBEq, BitVec.reduceBNe, BitVec.reduceOfInt, BitVec.reduceSetWidth, -List.reduceReplicate]
      refine cndv_split (fun h => ?_) (fun h => ?_)
      · simp (maxSteps := 1000000) -implicitDefEqProofs only [go_sem, Nat.reduceBEq, Nat.reduceLT, Nat.reduceLeDiff, Nat.reduceEqDiff, Nat.reduceAdd, Nat.reduceMul, Nat.reduceSub, reduceIte, reduceCtorEq, Int.reduceLT, Int.reduceLE, Int.reduceToNat, Int.reduceAdd, Int.reduceSub, Int.reduceNeg, Int.reduceEq, Int.reduceNe, Int.reduceBEq, Int.reduceBNe, BitVec.reduceBEq, BitVec.reduceBNe, BitVec.reduceOfInt, BitVec.reduceSetWidth, -List.reduceReplicate]
        rw [beq_iff_eq] at h
        exact UpK_normal (by omega) (Le.sameT (by decide) (by simp only [-List.reduceReplicate, slotsSame, Eng.look, Nat.reduceEqDiff, bits32, bit32, if_pos h, reduceIte, reduceCtorEq, if_true, if_false, eq_self, true_and, and_true, Option.some.injEq, AV.int.injEq]; (try simp (disch := omega) only [wrap_i64]); (try simp [-List.reduceReplicate]); (try omega)) (by simp only [-List.reduceReplicate, memSame, Eng.look, Nat.reduceEqDiff, bits32, bit32, if_pos h, reduceIte, reduceCtorEq, if_true, if_false, eq_self, true_and, and_true, Option.some.injEq, AObj.cells.injEq, bvs_rep8, bvs_rep16, bvs_rep32, bvs_rep64, bvs_flat_rep, Nat.reduceMul, bvs_append, List.replicate_append_replicate, Nat.reduceAdd, bvs_inj]; try simp [-List.reduceReplicate]) (by simp [-List.reduceReplicate]))
      · simp (maxSteps := 1000000) -implicitDefEqProofs only [go_sem, Nat.reduceBEq, Nat.reduceLT, Nat.reduceLeDiff, Nat.reduceEqDiff, Nat.reduceAdd, Nat.reduceMul, Nat.reduceSub, reduceIte, reduceCtorEq, Int.reduceLT, Int.reduceLE, Int.reduceToNat, Int.reduceAdd, Int.reduceSub, Int.reduceNeg, Int.reduceEq, Int.reduceNe, Int.reduceBEq, Int.reduceBNe, BitVec.reduceBEq, BitVec.reduceBNe, BitVec.reduceOfInt, BitVec.reduceSetWidth, -List.reduceReplicate]
        rw [beq_eq_false_iff_ne] at h
        exact UpK_normal (by omega) (Le.sameT (by decide) (by simp only [-List.reduceReplicate, slotsSame, Eng.look, Nat.reduceEqDiff, bits32, bit32, if_neg h, reduceIte, reduceCtorEq, if_true, if_false, eq_self, true_and, and_true, Option.some.injEq, AV.int.injEq]; (try simp (disch := omega) only [wrap_i64]); (try simp [-List.reduceReplicate]); (try omega)) (by simp only [-List.reduceReplicate, memSame, Eng.look, Nat.reduceEqDiff, bits32, bit32, if_neg h, reduceIte, reduceCtorEq, if_true, if_false, eq_self, true_and, and_true, Option.some.injEq, AObj.cells.injEq, bvs_rep8, bvs_rep16, bvs_rep32, bvs_rep64, bvs_flat_rep, Nat.reduceMul, bvs_append, List.replicate_append_replicate, Nat.reduceAdd, bvs_inj]; try simp [-List.reduceReplicate]) (by simp [-List.reduceReplicate]))
    · have hk' : k = 8 := by simp at h; omega
      subst hk'
      simp (maxSteps := 1000000) -implicitDefEqProofs only [go_sem, Nat.reduceBEq, Nat.reduceLT, Nat.reduceLeDiff, Nat.reduceEqDiff, Nat.reduceAdd, Nat.reduceMul, Nat.reduceSub, reduceIte, reduceCtorEq, Int.reduceLT, Int.reduceLE, Int.reduceToNat, Int.reduceAdd, Int.reduceSub, Int.reduceNeg, Int.reduceEq, Int.reduceNe, Int.reduceBEq, Int.reduceBNe, BitVec.reduceBEq, BitVec.reduceBNe, BitVec.reduceOfInt, BitVec.reduceSetWidth, -List.reduceReplicate]
      refine UpK_normal h' (Le.sameT (by decide) (by simp only [-List.reduceReplicate, slotsSame, Eng.look, Nat.reduceEqDiff, come32, foldl_take_succ _ _ _ _ 0 h', reduceIte, reduceCtorEq, if_true, if_false, eq_self, true_and, and_true, Option.some.injEq, AV.int.injEq]; (try simp (disch := omega) only [wrap_i64]); (try simp [-List.reduceReplicate]); (try omega)) (by simp only [-List.reduceReplicate, memSame, Eng.look, Nat.reduceEqDiff, come32, foldl_take_succ _ _ _ _ 0 h', reduceIte, reduceCtorEq, if_true, if_false, eq_self, true_and, and_true, Option.some.injEq, AObj.cells.injEq, bvs_rep8, bvs_rep16, bvs_rep32, bvs_rep64, bvs_flat_rep, Nat.reduceMul, bvs_append, List.replicate_append_replicate, Nat.reduceAdd, bvs_inj]; try simp [-List.reduceReplicate]) (by simp [-List.reduceReplicate]))
  · have h' : n = b.length := by simp at h; omega
    subst h'
    simp (maxSteps := 1000000) -implicitDefEqProofs only [go_sem, Nat.reduceBEq, Nat.reduceLT, Nat.reduceLeDiff, Nat.reduceEqDiff, Nat.reduceAdd, Nat.reduceMul, Nat.reduceSub, reduceIte, reduceCtorEq, Int.reduceLT, Int.reduceLE, Int.reduceToNat, Int.reduceAdd, Int.reduceSub, Int.reduceNeg, Int.reduceEq, Int.reduceNe, Int.reduceBEq, Int.reduceBNe, BitVec.reduceBEq, BitVec.reduceBNe, BitVec.reduceOfInt, BitVec.reduceSetWidth, -List.reduceReplicate, List.take_length]
    exact Fin.flatv (fun _ => rfl) (fun f => rfl) ⟨rfl, rfl, rfl⟩
def ron32 (sum : BitVec 32) (b : List (BitVec 8)) : BitVec 32 := 4294967295#32 - come32 (4294967295#32 - sum) b
theorem rsumOk32 (b : List (BitVec 8)) (hb : b.length ≤ 4611686018427387904) : CallOk Try.prog 78 [.ro b.length (bvs .u8 b)] (fun _ => true) [] 0 fun v m nx => v = .int .u32 ((ron32 0 b).toNat : Int) ∧ m = [] ∧ nx = 0 := by
  refine fn_ok Try.func78 rfl (by show 1 ≤ 6; decide) ?_
  simp (maxSteps := 1000000) -implicitDefEqProofs only [go_sem, Nat.reduceBEq, Nat.reduceLT, Nat.reduceLeDiff, Nat.reduceEqDiff, Nat.reduceAdd, Nat.reduceMul, Nat.reduceSub, reduceIte, reduceCtorEq, Int.reduceLT, Int.reduceLE, Int.reduceToNat, Int.reduceAdd, Int.reduceSub, Int.reduceNeg, Int.reduceEq, Int.reduceNe, Int.reduceBEq, Int.reduceBNe, BitVec.reduceBEq, BitVec.reduceBNe, BitVec.reduceOfInt, BitVec.reduceSetWidth, -List.reduceReplicate, Try.results78, Try.ntmps78]
  refine (comeOk32 4294967295#32 b hb).flatv (by simp only [argsx, argx_int, argx_bool, argx_fn, argx_ro, argx_nils, eq_self, true_and, and_true, and_self]; try trivial) (fun _ => rfl) rfl ?_
  simp (maxSteps := 1000000) -implicitDefEqProofs only [go_sem, Nat.reduceBEq, Nat.reduceLT, Nat.reduceLeDiff, Nat.reduceEqDiff, Nat.reduceAdd, Nat.reduceMul, Nat.reduceSub, reduceIte, reduceCtorEq, Int.reduceLT, Int.reduceLE, Int.reduceToNat, Int.reduceAdd, Int.reduceSub, Int.reduceNeg, Int.reduceEq, Int.reduceNe, Int.reduceBEq, Int.reduceBNe, BitVec.reduceBEq, BitVec.reduceBNe, BitVec.reduceOfInt, BitVec.reduceSetWidth, -List.reduceReplicate]
  exact Fin.flatv (fun _ => rfl) (fun f => rfl) ⟨rfl, rfl, rfl⟩
theorem bit32_gb (p : BitVec 32 × BitVec 8) : bit32 p = gb poly32 p := by
  unfold bit32 gb
  simp only [odd (w := 32) (by decide), half (w := 32) (by decide), half (w := 8) (by decide)]
  rfl
theorem bits32_gbn : ∀ (k : Nat) (p : BitVec 32 × BitVec 8), bits32 k p = gbn poly32 k p
  | 0, p => rfl
  | k + 1, p => by rw [bits32, gbn, bits32_gbn k, bit32_gb]
theorem come32_eq (r : BitVec 32) (b : List (BitVec 8)) : come32 r b = b.foldl byte32 r := by
  unfold come32
  congr 1
  funext r x
  rw [bits32_gbn, gbn_eight (by decide), byte32]
theorem not32 (x : BitVec 32) : 4294967295#32 - x = ~~~ x := by
  rw [← BitVec.allOnes_sub_eq_not]
  rfl
theorem ron32_eq (sum : BitVec 32) (b : List (BitVec 8)) : ron32 sum b = on32 sum b := by
  unfold ron32 on32
  rw [come32_eq, not32, not32]
theorem on32_append (sum : BitVec 32) (a b : List (BitVec 8)) : on32 (on32 sum a) b = on32 sum (a ++ b) := by
  unfold on32
  rw [BitVec.not_not, List.foldl_append]
end Go.Proofs.Ytmdeoikpiiambaa
/-! Crc64 -/
namespace Go.Proofs.Ytmdeoikpiiambaa
open Go Go.Eng
def step64 (r : BitVec 64) : BitVec 64 := r >>> 1 ^^^ (14514072000185962306#64 &&& (0#64 - (r &&& 1#64)))
def steps64 : Nat → BitVec 64 → BitVec 64
  | 0, r => r
  | k + 1, r => step64 (steps64 k r)
def tab64 (n : Nat) : List (BitVec 64) := (List.range 256).map fun i => if i < n then steps64 8 (BitVec.ofNat 64 i) else 0
theorem tab64_0 : tab64 0 = List.replicate 256 0 := by simp [tab64, List.map_const']
theorem tab64_len (n : Nat) : (tab64 n).length = 256 := by simp [tab64]
theorem tab64_set (n : Nat) (h : n < 256) : (tab64 n).set n (steps64 8 (BitVec.ofNat 64 n)) = tab64 (n + 1) := by
  apply List.ext_getElem
  · simp [tab64]
  · intro i h1 h2
    simp only [tab64, List.getElem_set, List.getElem_map, List.getElem_range]
    split
    · rename_i e; subst e; simp
    · rename_i e
      have : i < n + 1 ↔ i < n := by omega
      simp only [this]
theorem tab64_take (n : Nat) : List.take 256 (tab64 n) = tab64 n := by rw [List.take_of_length_le]; simp [tab64]
theorem tab64_drop (n : Nat) : List.drop 256 (List.replicate 256 (0 : BitVec 64)) = [] := by simp
set_option maxHeartbeats 400000 in
theorem table64 : CallOk Try.prog 198 [] (fun _ => true) [] 0 fun v m nx => v = .agg (bvs .u64 (tab64 256)) ∧ m = [] ∧ nx = 0 := by
  refine fn_ok Try.func198 rfl (Nat.zero_le _) ?_
  simp (maxSteps := 1000000) -implicitDefEqProofs only [go_sem, Nat.reduceBEq, Nat.reduceLT, Nat.reduceLeDiff, Nat.reduceEqDiff, Nat.reduceAdd, Nat.reduceMul, Nat.reduceSub, reduceIte, reduceCtorEq, Int.reduceLT, Int.reduceLE, Int.reduceToNat, Int.reduceAdd, Int.reduceSub, Int.reduceNeg, Int.reduceEq, Int.reduceNe, Int.reduceBEq, Int.reduceBNe, BitVec.reduceBEq, BitVec.reduceBNe, BitVec.reduceOfInt, BitVec.reduceSetWidth, -List.reduceReplicate, Try.results198, Try.ntmps198]
  refine LoopOk.up 256 (fun n => ([(4, .int .i64 n), (1, .ptr 1 0), (0, .ptr 0 0)], [(1, .cells (bvs .u64 (tab64 n)) 257), (0, .cells (bvs .u64 (List.replicate 256 (0 : BitVec 64))) 257)], 2)) (Le.sameT (by decide) (by simp only [-List.reduceReplicate, slotsSame, Eng.look, Nat.reduceEqDiff, tab64_0, reduceIte, reduceCtorEq, if_true, if_false, eq_self, true_and, and_true, Option.some.injEq, AV.int.injEq]; (try simp (disch := omega) only [wrap_i64]); (try simp [-List.reduceReplicate]); (try omega)) (by simp only [-List.reduceReplicate, memSame, Eng.look, Nat.reduceEqDiff, tab64_0, reduceIte, reduceCtorEq, if_true, if_false, eq_self, true_and, and_true, Option.some.injEq, AObj.cells.injEq, bvs_rep8, bvs_rep16, bvs_rep32, bvs_rep64, bvs_flat_rep, Nat.reduceMul, bvs_append, List.replicate_append_replicate, Nat.reduceAdd, bvs_inj]; try simp [-List.reduceReplicate]) (by simp [-List.reduceReplicate])) ?_
  intro i hi
  simp (maxSteps := 1000000) -implicitDefEqProofs only [go_sem, Nat.reduceBEq, Nat.reduceLT, Nat.reduceLeDiff, Nat.reduceEqDiff, Nat.reduceAdd, Nat.reduceMul, Nat.reduceSub, reduceIte, reduceCtorEq, Int.reduceLT, Int.reduceLE, Int.reduceToNat, Int.reduceAdd, Int.reduceSub, Int.reduceNeg, Int.reduceEq, Int.reduceNe, Int.reduceBEq, Int.reduceBNe, BitVec.reduceBEq, BitVec.reduceBNe, BitVec.reduceOfInt, BitVec.reduceSetWidth, -List.reduceReplicate]
  refine cndv_split (fun h => ?_) (fun h => ?_)
  · have h' : (i : Int) < 256 := by simpa using h
    simp (maxSteps := 1000000) -implicitDefEqProofs only [go_sem, Nat.reduceBEq, Nat.reduceLT, Nat.reduceLeDiff, Nat.reduceEqDiff, Nat.reduceAdd, Nat.reduceMul, Nat.reduceSub, reduceIte, reduceCtorEq, Int.reduceLT, Int.reduceLE, Int.reduceToNat, Int.reduceAdd, Int.reduceSub, Int.reduceNeg, Int.reduceEq, Int.reduceNe, Int.reduceBEq, Int.reduceBNe, BitVec.reduceBEq, BitVec.reduceBNe, BitVec.reduceOfInt, BitVec.reduceSetWidth, -List.reduceReplicate]
    refine LoopOk.up 8 (fun n => ([(9, .int .i64 n), (3, .int .u64 ((steps64 n (BitVec.ofNat 64 i)).toNat : Int)), (2, .int .i64 i), (4, .int .i64 i), (1, .ptr 1 0), (0, .ptr 0 0)], [(1, .cells (bvs .u64 (tab64 i)) 257), (0, .cells (bvs .u64 (List.replicate 256 (0 : BitVec 64))) 257)], 2)) (Le.sameT (by decide) (by simp only [-List.reduceReplicate, slotsSame, Eng.look, Nat.reduceEqDiff, steps64, reduceIte, reduceCtorEq, if_true, if_false, eq_self, true_and, and_true, Option.some.injEq, AV.int.injEq]; (try simp (disch := omega) only [wrap_i64]); (try simp [-List.reduceReplicate]); (try omega)) (by simp only [-List.reduceReplicate, memSame, Eng.look, Nat.reduceEqDiff, steps64, reduceIte, reduceCtorEq, if_true, if_false, eq_self, true_and, and_true, Option.some.injEq, AObj.cells.injEq, bvs_rep8, bvs_rep16, bvs_rep32, bvs_rep64, bvs_flat_rep, Nat.reduceMul, bvs_append, List.replicate_append_replicate, Nat.reduceAdd, bvs_inj]; try simp [-List.reduceReplicate]) (by simp [-List.reduceReplicate])) ?_
    intro n hn
    simp (maxSteps := 1000000) -implicitDefEqProofs only [go_sem, Nat.reduceBEq, Nat.reduceLT, Nat.reduceLeDiff, Nat.reduceEqDiff, Nat.reduceAdd, Nat.reduceMul, Nat.reduceSub, reduceIte, reduceCtorEq, Int.reduceLT, Int.reduceLE, Int.reduceToNat, Int.reduceAdd, Int.reduceSub, Int.reduceNeg, Int.reduceEq, Int.reduceNe, Int.reduceBEq, Int.reduceBNe, BitVec.reduceBEq, BitVec.reduceBNe, BitVec.reduceOfInt, BitVec.reduceSetWidth, -List.reduceReplicate]
    refine cndv_split (fun h => ?_) (fun h => ?_)
    · have h' : (n : Int) < 8 := by simpa using h
      simp (maxSteps := 1000000) -implicitDefEqProofs only [go_sem, Nat.reduceBEq, Nat.reduceLT, Nat.reduceLeDiff, Nat.reduceEqDiff, Nat.reduceAdd, Nat.reduceMul, Nat.reduceSub, reduceIte, reduceCtorEq, Int.reduceLT, Int.reduceLE, Int.reduceToNat, Int.reduceAdd, Int.reduceSub, Int.reduceNeg, Int.reduceEq, Int.reduceNe, Int.reduceBEq, Int.reduceBNe, BitVec.reduceBEq, BitVec.reduceBNe, BitVec.reduceOfInt, BitVec.reduceSetWidth, -List.reduceReplicate]
      exact UpK_normal (by omega) (Le.sameT (by decide) (by simp only [-List.reduceReplicate, slotsSame, Eng.look, Nat.reduceEqDiff, steps64, step64, reduceIte, reduceCtorEq, if_true, if_false, eq_self, true_and, and_true, Option.some.injEq, AV.int.injEq]; (try simp (disch := omega) only [wrap_i64]); (try simp [-List.reduceReplicate]); (try omega)) (by simp only [-List.reduceReplicate, memSame, Eng.look, Nat.reduceEqDiff, steps64, step64, reduceIte, reduceCtorEq, if_true, if_false, eq_self, true_and, and_true, Option.some.injEq, AObj.cells.injEq, bvs_rep8, bvs_rep16, bvs_rep32, bvs_rep64, bvs_flat_rep, Nat.reduceMul, bvs_append, List.replicate_append_replicate, Nat.reduceAdd, bvs_inj]; try simp [-List.reduceReplicate]) (by simp [-List.reduceReplicate]))
    · have h' : n = 8 := by simp at h; omega
      subst h'
      simp (maxSteps := 1000000) -implicitDefEqProofs only [go_sem, Nat.reduceBEq, Nat.reduceLT, Nat.reduceLeDiff, Nat.reduceEqDiff, Nat.reduceAdd, Nat.reduceMul, Nat.reduceSub, reduceIte, reduceCtorEq, Int.reduceLT, Int.reduceLE, Int.reduceToNat, Int.reduceAdd, Int.reduceSub, Int.reduceNeg, Int.reduceEq, Int.reduceNe, Int.reduceBEq, Int.reduceBNe, BitVec.reduceBEq, BitVec.reduceBNe, BitVec.reduceOfInt, BitVec.reduceSetWidth, -List.reduceReplicate, tab64_len]
      refine ⟨by omega, by omega, UpK_normal (by omega) ?_⟩
      rw [tab64_set i (by omega)]
      exact (Le.sameT (by decide) (by simp only [-List.reduceReplicate, slotsSame, Eng.look, Nat.reduceEqDiff, reduceIte, reduceCtorEq, if_true, if_false, eq_self, true_and, and_true, Option.some.injEq, AV.int.injEq]; (try simp (disch := omega) only [wrap_i64]); (try simp [-List.reduceReplicate]); (try omega)) (by simp only [-List.reduceReplicate, memSame, Eng.look, Nat.reduceEqDiff, reduceIte, reduceCtorEq, if_true, if_false, eq_self, true_and, and_true, Option.some.injEq, AObj.cells.injEq, bvs_rep8, bvs_rep16, bvs_rep32, bvs_rep64, bvs_flat_rep, Nat.reduceMul, bvs_append, List.replicate_append_replicate, Nat.reduceAdd, bvs_inj]; try simp [-List.reduceReplicate]) (by simp [-List.reduceReplicate]))
  · have h' : i = 256 := by simp at h; omega
    subst h'
    simp (maxSteps := 1000000) -implicitDefEqProofs only [go_sem, Nat.reduceBEq, Nat.reduceLT, Nat.reduceLeDiff, Nat.reduceEqDiff, Nat.reduceAdd, Nat.reduceMul, Nat.reduceSub, reduceIte, reduceCtorEq, Int.reduceLT, Int.reduceLE, Int.reduceToNat, Int.reduceAdd, Int.reduceSub, Int.reduceNeg, Int.reduceEq, Int.reduceNe, Int.reduceBEq, Int.reduceBNe, BitVec.reduceBEq, BitVec.reduceBNe, BitVec.reduceOfInt, BitVec.reduceSetWidth, -List.reduceReplicate, tab64_len, tab64_take, List.take_zero]

    refine Fin.flatv (fun _ => rfl) (fun f => ?_) ⟨rfl, rfl, rfl⟩
    simp only [renA, bvs_ren]
end Go.Proofs.Ytmdeoikpiiambaa
/-! Crc64b -/
namespace Go.Proofs.Ytmdeoikpiiambaa
open Go Go.Eng
def byte64 (r : BitVec 64) (x : BitVec 8) : BitVec 64 := r >>> 8 ^^^ steps64 8 ((r.setWidth 8 ^^^ x).setWidth 64)
def on64 (sum : BitVec 64) (b : List (BitVec 8)) : BitVec 64 := ~~~ b.foldl byte64 (~~~ sum)
theorem tab64_get (x : BitVec 8) : (tab64 256).getD x.toNat 0 = steps64 8 (x.setWidth 64) := by
  have h : x.toNat < 256 := x.isLt
  rw [List.getD_eq_getElem?_getD, List.getElem?_eq_getElem (by rw [tab64_len]; exact h)]
  simp only [tab64, List.getElem_map, List.getElem_range, Option.getD_some, h, if_true, BitVec.ofNat_toNat]
set_option maxHeartbeats 400000 in
theorem onOk64 (sum : BitVec 64) (b : List (BitVec 8)) (hb : b.length ≤ 4611686018427387904) : CallOk Try.prog 175 [.int .u64 (sum.toNat : Int), .ro b.length (bvs .u8 b)] (fun _ => true) [] 0 fun v m nx => v = .int .u64 ((on64 sum b).toNat : Int) ∧ m = [] ∧ nx = 0 := by
  refine fn_ok Try.func175 rfl (by show 2 ≤ 30; decide) ?_
  simp (maxSteps := 1000000) -implicitDefEqProofs only [go_sem, Nat.reduceBEq, Nat.reduceLT, Nat.reduceLeDiff, Nat.reduceEqDiff, Nat.reduceAdd, Nat.reduceMul, Nat.reduceSub, reduceIte, reduceCtorEq, Int.reduceLT, Int.reduceLE, Int.reduceToNat, Int.reduceAdd, Int.reduceSub, Int.reduceNeg, Int.reduceEq, Int.reduceNe, Int.reduceBEq, Int.reduceBNe, BitVec.reduceBEq, BitVec.reduceBNe, BitVec.reduceOfInt, BitVec.reduceSetWidth, -List.reduceReplicate, Try.results175, Try.ntmps175]
  refine table64.flatv trivial (fun f => by simp only [renA, bvs_ren]) (by simp only [noRo, bvs_noRo]) ?_
  simp (maxSteps := 1000000) -implicitDefEqProofs only [go_sem, Nat.reduceBEq, Nat.reduceLT, Nat.reduceLeDiff, Nat.reduceEqDiff, Nat.reduceAdd, Nat.reduceMul, Nat.reduceSub, reduceIte, reduceCtorEq, Int.reduceLT, Int.reduceLE, Int.reduceToNat, Int.reduceAdd, Int.reduceSub, Int.reduceNeg, Int.reduceEq, Int.reduceNe, Int.reduceBEq, Int.reduceBNe, BitVec.reduceBEq, BitVec.reduceBNe, BitVec.reduceOfInt, BitVec.reduceSetWidth, -List.reduceReplicate, tab64_len]
  refine LoopOk.up b.length (fun n => ([(14, .int .i64 n), (13, .int .i64 b.length), (12, .ro b.length (bvs .u8 b)), (6, .int .u64 (((b.take n).foldl byte64 (~~~ sum)).toNat : Int)), (5, .ptr 0 0)], [(0, .cells (bvs .u64 (tab64 256)) 257)], 1)) (Le.sameT (by decide) (by simp only [-List.reduceReplicate, slotsSame, Eng.look, Nat.reduceEqDiff, List.take_zero, List.foldl_nil, reduceIte, reduceCtorEq, if_true, if_false, eq_self, true_and, and_true, Option.some.injEq, AV.int.injEq]; (try simp (disch := omega) only [wrap_i64]); (try simp [-List.reduceReplicate]); (try omega)) (by simp only [-List.reduceReplicate, memSame, Eng.look, Nat.reduceEqDiff, List.take_zero, List.foldl_nil, reduceIte, reduceCtorEq, if_true, if_false, eq_self, true_and, and_true, Option.some.injEq, AObj.cells.injEq, bvs_rep8, bvs_rep16, bvs_rep32, bvs_rep64, bvs_flat_rep, Nat.reduceMul, bvs_append, List.replicate_append_replicate, Nat.reduceAdd, bvs_inj]; try simp [-List.reduceReplicate]) (by simp [-List.reduceReplicate])) ?_
  intro n hn
  simp (maxSteps := 1000000) -implicitDefEqProofs only [go_sem, Nat.reduceBEq, Nat.reduceLT, Nat.reduceLeDiff, Nat.reduceEqDiff, Nat.reduceAdd, Nat.reduceMul, Nat.reduceSub, reduceIte, reduceCtorEq, Int.reduceLT, Int.reduceLE, Int.reduceToNat, Int.reduceAdd, Int.reduceSub, Int.reduceNeg, Int.reduceEq, Int.reduceNe, Int.reduceBEq, Int.reduceBNe, BitVec.reduceBEq, BitVec.reduceBNe, BitVec.reduceOfInt, BitVec.reduceSetWidth, -List.reduceReplicate]
  refine cndv_split (fun h => ?_) (fun h => ?_)
  · have h' : n < b.length := by simpa using h
    simp (maxSteps := 1000000) -implicitDefEqProofs only [go_sem, Nat.reduceBEq, Nat.reduceLT, Nat.reduceLeDiff, Nat.reduceEqDiff, Nat.reduceAdd, Nat.reduceMul, Nat.reduceSub, reduceIte, reduceCtorEq, Int.reduceLT, Int.reduceLE, Int.reduceToNat, Int.reduceAdd, Int.reduceSub, Int.reduceNeg, Int.reduceEq, Int.reduceNe, Int.reduceBEq, Int.reduceBNe, BitVec.reduceBEq, BitVec.reduceBNe, BitVec.reduceOfInt, BitVec.reduceSetWidth, -List.reduceReplicate, tab64_len, tab64_get, List.length_drop]
    refine ⟨by omega, h', by omega, UpK_normal h' (Le.sameT (by decide) (by simp only [-List.reduceReplicate, slotsSame, Eng.look, Nat.reduceEqDiff, foldl_take_succ _ _ _ _ 0 h', byte64, reduceIte, reduceCtorEq, if_true, if_false, eq_self, true_and, and_true, Option.some.injEq, AV.int.injEq]; (try simp (disch := omega) only [wrap_i64]); (try simp [-List.reduceReplicate]); (try omega)) (by simp only [-List.reduceReplicate, memSame, Eng.look, Nat.reduceEqDiff, foldl_take_succ _ _ _ _ 0 h', byte64, reduceIte, reduceCtorEq, if_true, if_false, eq_self, true_and, and_true, Option.some.injEq, AObj.cells.injEq, bvs_rep8, bvs_rep16, bvs_rep32, bvs_rep64, bvs_flat_rep, Nat.reduceMul, bvs_append, List.replicate_append_replicate, Nat.reduceAdd, bvs_inj]; try simp [-List.reduceReplicate]) (by simp [-List.reduceReplicate]))⟩
  · have h' : n = b.length := by simp at h; omega
    subst h'
    simp (maxSteps := 1000000) -implicitDefEqProofs only [go_sem, Nat.reduceBEq, Nat.reduceLT, Nat.reduceLeDiff, Nat.reduceEqDiff, Nat.reduceAdd, Nat.reduceMul, Nat.reduceSub, reduceIte, reduceCtorEq, Int.reduceLT, Int.reduceLE, Int.reduceToNat, Int.reduceAdd, Int.reduceSub, Int.reduceNeg, Int.reduceEq, Int.reduceNe, Int.reduceBEq, Int.reduceBNe, BitVec.reduceBEq, BitVec.reduceBNe, BitVec.reduceOfInt, BitVec.reduceSetWidth, -List.reduceReplicate, List.take_length]
    exact Fin.flatv (fun _ => rfl) (fun f => rfl) ⟨rfl, rfl, rfl⟩
end Go.Proofs.Ytmdeoikpiiambaa
/-! Crc64c -/
namespace Go.Proofs.Ytmdeoikpiiambaa
open Go Go.Eng
theorem sumOk64 (b : List (BitVec 8)) (hb : b.length ≤ 4611686018427387904) : CallOk Try.prog 132 [.ro b.length (bvs .u8 b)] (fun _ => true) [] 0 fun v m nx => v = .int .u64 ((on64 0 b).toNat : Int) ∧ m = [] ∧ nx = 0 := by
  refine fn_ok Try.func132 rfl (by show 1 ≤ 5; decide) ?_
  simp (maxSteps := 1000000) -implicitDefEqProofs only [go_sem, Nat.reduceBEq, Nat.reduceLT, Nat.reduceLeDiff, Nat.reduceEqDiff, Nat.reduceAdd, Nat.reduceMul, Nat.reduceSub, reduceIte, reduceCtorEq, Int.reduceLT, Int.reduceLE, Int.reduceToNat, Int.reduceAdd, Int.reduceSub, Int.reduceNeg, Int.reduceEq, Int.reduceNe, Int.reduceBEq, Int.reduceBNe, BitVec.reduceBEq, BitVec.reduceBNe, BitVec.reduceOfInt, BitVec.reduceSetWidth, -List.reduceReplicate, Try.results132, Try.ntmps132]
  refine (onOk64 0 b hb).flatv (by simp only [argsx, argx_int, argx_bool, argx_fn, argx_ro, argx_nils, eq_self, true_and, and_true, and_self]; try trivial) (fun _ => rfl) rfl ?_
  simp (maxSteps := 1000000) -implicitDefEqProofs only [go_sem, Nat.reduceBEq, Nat.reduceLT, Nat.reduceLeDiff, Nat.reduceEqDiff, Nat.reduceAdd, Nat.reduceMul, Nat.reduceSub, reduceIte, reduceCtorEq, Int.reduceLT, Int.reduceLE, Int.reduceToNat, Int.reduceAdd, Int.reduceSub, Int.reduceNeg, Int.reduceEq, Int.reduceNe, Int.reduceBEq, Int.reduceBNe, BitVec.reduceBEq, BitVec.reduceBNe, BitVec.reduceOfInt, BitVec.reduceSetWidth, -List.reduceReplicate]
  exact Fin.flatv (fun _ => rfl) (fun f => rfl) ⟨rfl, rfl, rfl⟩
/-- one bit of the document's register -/
def bit64 (p : BitVec 64 × BitVec 8) : BitVec 64 × BitVec 8 := (if (p.1 ^^^ p.2.setWidth 64) % 2#64 = 1#64 then p.1 / 2#64 ^^^ 14514072000185962306#64 else p.1 / 2#64, p.2 / 2#8)
def bits64 : Nat → BitVec 64 × BitVec 8 → BitVec 64 × BitVec 8
  | 0, p => p
  | k + 1, p => bit64 (bits64 k p)
def come64 (r : BitVec 64) (b : List (BitVec 8)) : BitVec 64 := b.foldl (fun r x => (bits64 8 (r, x)).1) r
set_option maxHeartbeats 400000 in
theorem comeOk64 (r : BitVec 64) (b : List (BitVec 8)) (hb : b.length ≤ 4611686018427387904) : CallOk Try.prog 179 [.int .u64 (r.toNat : Int), .ro b.length (bvs .u8 b)] (fun _ => true) [] 0 fun v m nx => v = .int .u64 ((come64 r b).toNat : Int) ∧ m = [] ∧ nx = 0 := by
  refine fn_ok Try.func179 rfl (by show 2 ≤ 37; decide) ?_
  simp (maxSteps := 1000000) -implicitDefEqProofs only [go_sem, Nat.reduceBEq, Nat.reduceLT, Nat.reduceLeDiff, Nat.reduceEqDiff, Nat.reduceAdd, Nat.reduceMul, Nat.reduceSub, reduceIte, reduceCtorEq, Int.reduceLT, Int.reduceLE, Int.reduceToNat, Int.reduceAdd, Int.reduceSub, Int.reduceNeg, Int.reduceEq, Int.reduceNe, Int.reduceBEq, Int.reduceBNe, BitVec.reduceBEq, BitVec.reduceBNe, BitVec.reduceOfInt, BitVec.reduceSetWidth, -List.reduceReplicate, Try.results179, Try.ntmps179]
  refine LoopOk.up b.length (fun n => ([(5, .int .i64 n), (0, .int .u64 ((come64 r (b.take n)).toNat : Int)), (1, .ro b.length (bvs .u8 b))], [], 0)) (Le.sameT (by decide) (by simp only [-List.reduceReplicate, slotsSame, Eng.look, Nat.reduceEqDiff, List.take_zero, come64, List.foldl_nil, reduceIte, reduceCtorEq, if_true, if_false, eq_self, true_and, and_true, Option.some.injEq, AV.int.injEq]; (try simp (disch := omega) only [wrap_i64]); (try simp [-List.reduceReplicate]); (try omega)) (by simp only [-List.reduceReplicate, memSame, Eng.look, Nat.reduceEqDiff, List.take_zero, come64, List.foldl_nil, reduceIte, reduceCtorEq, if_true, if_false, eq_self, true_and, and_true, Option.some.injEq, AObj.cells.injEq, bvs_rep8, bvs_rep16, bvs_rep32, bvs_rep64, bvs_flat_rep, Nat.reduceMul, bvs_append, List.replicate_append_replicate, Nat.reduceAdd, bvs_inj]; try simp [-List.reduceReplicate]) (by simp [-List.reduceReplicate])) ?_
  intro n hn
  simp (maxSteps := 1000000) -implicitDefEqProofs only [go_sem, Nat.reduceBEq, Nat.reduceLT, Nat.reduceLeDiff, Nat.reduceEqDiff, Nat.reduceAdd, Nat.reduceMul, Nat.reduceSub, reduceIte, reduceCtorEq, Int.reduceLT, Int.reduceLE, Int.reduceToNat, Int.reduceAdd, Int.reduceSub, Int.reduceNeg, Int.reduceEq, Int.reduceNe, Int.reduceBEq, Int.reduceBNe, BitVec.reduceBEq, BitVec.reduceBNe, BitVec.reduceOfInt, BitVec.reduceSetWidth, -List.reduceReplicate]
  refine cndv_split (fun h => ?_) (fun h => ?_)
  · have h' : n < b.length := by simpa using h
    simp (maxSteps := 1000000) -implicitDefEqProofs only [go_sem, Nat.reduceBEq, Nat.reduceLT, Nat.reduceLeDiff, Nat.reduceEqDiff, Nat.reduceAdd, Nat.reduceMul, Nat.reduceSub, reduceIte, reduceCtorEq, Int.reduceLT, Int.reduceLE, Int.reduceToNat, Int.reduceAdd, Int.reduceSub, Int.reduceNeg, Int.reduceEq, Int.reduceNe, Int.reduceBEq, Int.reduceBNe, BitVec.reduceBEq, BitVec.reduceBNe, BitVec.reduceOfInt, BitVec.reduceSetWidth, -List.reduceReplicate, List.length_drop]
    refine ⟨by omega, h', by omega, ?_⟩
    refine LoopOk.up 8 (fun k => ([(7, .int .i64 k), (5, .int .i64 n), (0, .int .u64 ((bits64 k (come64 r (b.take n), b.getD n 0)).1.toNat : Int)), (6, .int .u8 ((bits64 k (come64 r (b.take n), b.getD n 0)).2.toNat : Int)), (1, .ro b.length (bvs .u8 b))], [], 0)) (Le.sameT (by decide) (by simp only [-List.reduceReplicate, slotsSame, Eng.look, Nat.reduceEqDiff, bits64, reduceIte, reduceCtorEq, if_true, if_false, eq_self, true_and, and_true, Option.some.injEq, AV.int.injEq]; (try simp (disch := omega) only [wrap_i64]); (try simp [-List.reduceReplicate]); (try omega)) (by simp only [-List.reduceReplicate, memSame, Eng.look, Nat.reduceEqDiff, bits64, reduceIte, reduceCtorEq, if_true, if_false, eq_self, true_and, and_true, Option.some.injEq, AObj.cells.injEq, bvs_rep8, bvs_rep16, bvs_rep32, bvs_rep64, bvs_flat_rep, Nat.reduceMul, bvs_append, List.replicate_append_replicate, Nat.reduceAdd, bvs_inj]; try simp [-List.reduceReplicate]) (by simp [-List.reduceReplicate])) ?_
    intro k hk
    simp (maxSteps := 1000000) -implicitDefEqProofs only [go_sem, Nat.reduceBEq, Nat.reduceLT, Nat.reduceLeDiff, Nat.reduceEqDiff, Nat.reduceAdd, Nat.reduceMul, Nat.reduceSub, reduceIte, reduceCtorEq, Int.reduceLT, Int.reduceLE, Int.reduceToNat, Int.reduceAdd, Int.reduceSub, Int.reduceNeg, Int.reduceEq, Int.reduceNe, Int.reduceBEq, Int.reduceBNe, BitVec.reduceBEq, BitVec.reduceBNe, BitVec.reduceOfInt, BitVec.reduceSetWidth, -List.reduceReplicate]
    refine cndv_split (fun h => ?_) (fun h => ?_)
    · have hk' : (k : Int) < 8 := by simpa using h
      simp (maxSteps := 1000000) -implicitDefEqProofs only [go_sem, Nat.reduceBEq, Nat.reduceLT, Nat.reduceLeDiff, Nat.reduceEqDiff, Nat.reduceAdd, Nat.reduceMul, Nat.reduceSub, reduceIte, reduceCtorEq, Int.reduceLT, Int.reduceLE, Int.reduceToNat, Int.reduceAdd, Int.reduceSub, Int.reduceNeg, Int.reduceEq, Int.reduceNe, Int.reduceBEq, Int.reduceBNe, BitVec.reduceBEq, BitVec.reduceBNe, BitVec.reduceOfInt, BitVec.reduceSetWidth, -List.reduceReplicate]
      refine cndv_split (fun h => ?_) (fun h => ?_)
      · simp (maxSteps := 1000000) -implicitDefEqProofs only [go_sem, Nat.reduceBEq, Nat.reduceLT, Nat.reduceLeDiff, Nat.reduceEqDiff, Nat.reduceAdd, Nat.reduceMul, Nat.reduceSub, reduceIte, reduceCtorEq, Int.reduceLT, Int.reduceLE, Int.reduceToNat, Int.reduceAdd, Int.reduceSub, Int.reduceNeg, Int.reduceEq, Int.reduceNe, Int.reduceBEq, Int.reduceBNe, BitVec.reduceBEq, BitVec.reduceBNe, BitVec.reduceOfInt, BitVec.reduceSetWidth, -List.reduceReplicate]
        rw [beq_iff_eq] at h
        exact UpK_normal (by omega) (Le.sameT (by decide) (by simp only [-List.reduceReplicate, slotsSame, Eng.look, Nat.reduceEqDiff, bits64, bit64, if_pos h, reduceIte, reduceCtorEq, if_true, if_false, eq_self, true_and, and_true, Option.some.injEq, AV.int.injEq]; (try simp (disch := omega) only [wrap_i64]); (try simp [-List.reduceReplicate]); (try omega)) (by simp only [-List.reduceReplicate, memSame, Eng.look, Nat.reduceEqDiff, bits64, bit64, if_pos h, reduceIte, reduceCtorEq, if_true, if_false, eq_self, true_and, and_true, Option.some.injEq, AObj.cells.injEq, bvs_rep8, bvs_rep16, bvs_rep32, bvs_rep64, bvs_flat_rep, Nat.reduceMul, bvs_append, List.replicate_append_replicate, Nat.reduceAdd, bvs_inj]; try simp [-List.reduceReplicate]) (by simp [-List.reduceReplicate]))
      · simp (maxSteps := 1000000) -implicitDefEqProofs only [go_sem, Nat.reduceBEq, Nat.reduceLT, Nat.reduceLeDiff, Nat.reduceEqDiff, Nat.reduceAdd, Nat.reduceMul, Nat.reduceSub, reduceIte, reduceCtorEq, Int.reduceLT, Int.reduceLE, Int.reduceToNat, Int.reduceAdd, Int.reduceSub, Int.reduceNeg, Int.reduceEq, Int.reduceNe, Int.reduceBEq, Int.reduceBNe, BitVec.reduceBEq, BitVec.reduceBNe, BitVec.reduceOfInt, BitVec.reduceSetWidth, -List.reduceReplicate]
        rw [beq_eq_false_iff_ne] at h
        exact UpK_normal (by omega) (Le.sameT (by decide) (by simp only [-List.reduceReplicate, slotsSame, Eng.look, Nat.reduceEqDiff, bits64, bit64, if_neg h, reduceIte, reduceCtorEq, if_true, if_false, eq_self, true_and, and_true, Option.some.injEq, AV.int.injEq]; (try simp (disch := omega) only [wrap_i64]); (try simp [-List.reduceReplicate]); (try omega)) (by simp only [-List.reduceReplicate, memSame, Eng.look, Nat.reduceEqDiff, bits64, bit64, if_neg h, reduceIte, reduceCtorEq, if_true, if_false, eq_self, true_and, and_true, Option.some.injEq, AObj.cells.injEq, bvs_rep8, bvs_rep16, bvs_rep32, bvs_rep64, bvs_flat_rep, Nat.reduceMul, bvs_append, List.replicate_append_replicate, Nat.reduceAdd, bvs_inj]; try simp [-List.reduceReplicate]) (by simp [-List.reduceReplicate]))
    · have hk' : k = 8 := by simp at h; omega
      subst hk'
      simp (maxSteps := 1000000) -implicitDefEqProofs only [go_sem, Nat.reduceBEq, Nat.reduceLT, Nat.reduceLeDiff, Nat.reduceEqDiff, Nat.reduceAdd, Nat.reduceMul, Nat.reduceSub, reduceIte, reduceCtorEq, Int.reduceLT, Int.reduceLE, Int.reduceToNat, Int.reduceAdd, Int.reduceSub, Int.reduceNeg, Int.reduceEq, Int.reduceNe, Int.reduceBEq, Int.reduceBNe, BitVec.reduceBEq, BitVec.reduceBNe, BitVec.reduceOfInt, BitVec.reduceSetWidth, -List.reduceReplicate]
      refine UpK_normal h' (Le.sameT (by decide) (by simp only [-List.reduceReplicate, slotsSame, Eng.look, Nat.reduceEqDiff, come64, foldl_take_succ _ _ _ _ 0 h', reduceIte, reduceCtorEq, if_true, if_false, eq_self, true_and, and_true, Option.some.injEq, AV.int.injEq]; (try simp (disch := omega) only [wrap_i64]); (try simp [-List.reduceReplicate]); (try omega)) (by simp only [-List.reduceReplicate, memSame, Eng.look, Nat.reduceEqDiff, come64, foldl_take_succ _ _ _ _ 0 h', reduceIte, reduceCtorEq, if_true, if_false, eq_self, true_and, and_true, Option.some.injEq, AObj.cells.injEq, bvs_rep8, bvs_rep16, bvs_rep32, bvs_rep64, bvs_flat_rep, Nat.reduceMul, bvs_append, List.replicate_append_replicate, Nat.reduceAdd, bvs_inj]; try simp [-List.reduceReplicate]) (by simp [-List.reduceReplicate]))
  · have h' : n = b.length := by simp at h; omega
    subst h'
    simp (maxSteps := 1000000) -implicitDefEqProofs only [go_sem, Nat.reduceBEq, Nat.reduceLT, Nat.reduceLeDiff, Nat.reduceEqDiff, Nat.reduceAdd, Nat.reduceMul, Nat.reduceSub, reduceIte, reduceCtorEq, Int.reduceLT, Int.reduceLE, Int.reduceToNat, Int.reduceAdd, Int.reduceSub, Int.reduceNeg, Int.reduceEq, Int.reduceNe, Int.reduceBEq, Int.reduceBNe, BitVec.reduceBEq, BitVec.reduceBNe, BitVec.reduceOfInt, BitVec.reduceSetWidth, -List.reduceReplicate, List.take_length]
    exact Fin.flatv (fun _ => rfl) (fun f => rfl) ⟨rfl, rfl, rfl⟩
def ron64 (sum : BitVec 64) (b : List (BitVec 8)) : BitVec 64 := 18446744073709551615#64 - come64 (18446744073709551615#64 - sum) b
theorem ronOk64 (sum : BitVec 64) (b : List (BitVec 8)) (hb : b.length ≤ 4611686018427387904) : CallOk Try.prog 136 [.int .u64 (sum.toNat : Int), .ro b.length (bvs .u8 b)] (fun _ => true) [] 0 fun v m nx => v = .int .u64 ((ron64 sum b).toNat : Int) ∧ m = [] ∧ nx = 0 := by
  refine fn_ok Try.func136 rfl (by show 2 ≤ 10; decide) ?_
  simp (maxSteps := 1000000) -implicitDefEqProofs only [go_sem, Nat.reduceBEq, Nat.reduceLT, Nat.reduceLeDiff, Nat.reduceEqDiff, Nat.reduceAdd, Nat.reduceMul, Nat.reduceSub, reduceIte, reduceCtorEq, Int.reduceLT, Int.reduceLE, Int.reduceToNat, Int.reduceAdd, Int.reduceSub, Int.reduceNeg, Int.reduceEq, Int.reduceNe, Int.reduceBEq, Int.reduceBNe, BitVec.reduceBEq, BitVec.reduceBNe, BitVec.reduceOfInt, BitVec.reduceSetWidth, -List.reduceReplicate, Try.results136, Try.ntmps136]
  refine (comeOk64 _ b hb).flatv (by simp only [argsx, argx_int, argx_bool, argx_fn, argx_ro, argx_nils, eq_self, true_and, and_true, and_self]; try trivial) (fun _ => rfl) rfl ?_
  simp (maxSteps := 1000000) -implicitDefEqProofs only [go_sem, Nat.reduceBEq, Nat.reduceLT, Nat.reduceLeDiff, Nat.reduceEqDiff, Nat.reduceAdd, Nat.reduceMul, Nat.reduceSub, reduceIte, reduceCtorEq, Int.reduceLT, Int.reduceLE, Int.reduceToNat, Int.reduceAdd, Int.reduceSub, Int.reduceNeg, Int.reduceEq, Int.reduceNe, Int.reduceBEq, Int.reduceBNe, BitVec.reduceBEq, BitVec.reduceBNe, BitVec.reduceOfInt, BitVec.reduceSetWidth, -List.reduceReplicate]
  exact Fin.flatv (fun _ => rfl) (fun f => rfl) ⟨rfl, rfl, rfl⟩
theorem rsumOk64 (b : List (BitVec 8)) (hb : b.length ≤ 4611686018427387904) : CallOk Try.prog 79 [.ro b.length (bvs .u8 b)] (fun _ => true) [] 0 fun v m nx => v = .int .u64 ((ron64 0 b).toNat : Int) ∧ m = [] ∧ nx = 0 := by
  refine fn_ok Try.func79 rfl (by show 1 ≤ 5; decide) ?_
  simp (maxSteps := 1000000) -implicitDefEqProofs only [go_sem, Nat.reduceBEq, Nat.reduceLT, Nat.reduceLeDiff, Nat.reduceEqDiff, Nat.reduceAdd, Nat.reduceMul, Nat.reduceSub, reduceIte, reduceCtorEq, Int.reduceLT, Int.reduceLE, Int.reduceToNat, Int.reduceAdd, Int.reduceSub, Int.reduceNeg, Int.reduceEq, Int.reduceNe, Int.reduceBEq, Int.reduceBNe, BitVec.reduceBEq, BitVec.reduceBNe, BitVec.reduceOfInt, BitVec.reduceSetWidth, -List.reduceReplicate, Try.results79, Try.ntmps79]
  refine (ronOk64 0 b hb).flatv (by simp only [argsx, argx_int, argx_bool, argx_fn, argx_ro, argx_nils, eq_self, true_and, and_true, and_self]; try trivial) (fun _ => rfl) rfl ?_
  simp (maxSteps := 1000000) -implicitDefEqProofs only [go_sem, Nat.reduceBEq, Nat.reduceLT, Nat.reduceLeDiff, Nat.reduceEqDiff, Nat.reduceAdd, Nat.reduceMul, Nat.reduceSub, reduceIte, reduceCtorEq, Int.reduceLT, Int.reduceLE, Int.reduceToNat, Int.reduceAdd, Int.reduceSub, Int.reduceNeg, Int.reduceEq, Int.reduceNe, Int.reduceBEq, Int.reduceBNe, BitVec.reduceBEq, BitVec.reduceBNe, BitVec.reduceOfInt, BitVec.reduceSetWidth, -List.reduceReplicate]
  exact Fin.flatv (fun _ => rfl) (fun f => rfl) ⟨rfl, rfl, rfl⟩
end Go.Proofs.Ytmdeoikpiiambaa
/-! Crc64d -/
namespace Go.Proofs.Ytmdeoikpiiambaa
open Go Go.Eng
def poly64 : BitVec 64 := 14514072000185962306#64
theorem step64_gs (r : BitVec 64) : step64 r = gs poly64 r := by
  unfold step64 gs
  rw [low_and (by decide)]
  rfl
theorem steps64_gn : ∀ (k : Nat) (r : BitVec 64), steps64 k r = gn poly64 k r
  | 0, r => rfl
  | k + 1, r => by rw [steps64, gn, steps64_gn k, step64_gs]
theorem bit64_gb (p : BitVec 64 × BitVec 8) : bit64 p = gb poly64 p := by
  unfold bit64 gb
  simp only [odd (w := 64) (by decide), half (w := 64) (by decide), half (w := 8) (by decide)]
  rfl
theorem bits64_gbn : ∀ (k : Nat) (p : BitVec 64 × BitVec 8), bits64 k p = gbn poly64 k p
  | 0, p => rfl
  | k + 1, p => by rw [bits64, gbn, bits64_gbn k, bit64_gb]
theorem byte64_eq (r : BitVec 64) (x : BitVec 8) : (bits64 8 (r, x)).1 = byte64 r x := by
  rw [bits64_gbn, gbn_eight (by decide), gn_byte (by decide), byte64, steps64_gn]
theorem come64_eq (r : BitVec 64) (b : List (BitVec 8)) : come64 r b = b.foldl byte64 r := by
  unfold come64
  congr 1
  funext r x
  exact byte64_eq r x
theorem not64 (x : BitVec 64) : 18446744073709551615#64 - x = ~~~ x := by
  rw [← BitVec.allOnes_sub_eq_not]
  rfl
theorem ron64_eq (sum : BitVec 64) (b : List (BitVec 8)) : ron64 sum b = on64 sum b := by
  unfold ron64 on64
  rw [come64_eq, not64, not64]
theorem on64_append (sum : BitVec 64) (a b : List (BitVec 8)) : on64 (on64 sum a) b = on64 sum (a ++ b) := by
  unfold on64
  rw [BitVec.not_not, List.foldl_append]
end Go.Proofs.Ytmdeoikpiiambaa
