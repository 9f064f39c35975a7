/- Part 4 of the proof of the statement IndexGets: Ma, Mb, Mc. -/
import Derived.Test.YtmdeoikpiiambaaIndexGetsZ3
section
/- CRC-32 and CRC-64: what the program sums, and what the document does; they are alike. -/
set_option linter.unusedVariables false
set_option linter.unusedSimpArgs false
set_option maxRecDepth 100000
/-! Crcm -/
namespace Go.Proofs.Ytmdeoikpiiambaa
set_option linter.unusedVariables false
/-- one shift of a register -/
def gs {w : Nat} (p r : BitVec w) : BitVec w := r >>> 1 ^^^ (if r.getLsbD 0 then p else 0#w)
def gn {w : Nat} (p : BitVec w) : Nat → BitVec w → BitVec w
  | 0, r => r
  | k + 1, r => gs p (gn p k r)
theorem gs_xor {w : Nat} (p u v : BitVec w) : gs p (u ^^^ v) = gs p u ^^^ gs p v := by
  unfold gs
  rw [BitVec.ushiftRight_xor_distrib, BitVec.getLsbD_xor]
  have h : (if (u.getLsbD 0 ^^ v.getLsbD 0) = true then p else 0#w) = (if u.getLsbD 0 = true then p else 0#w) ^^^ (if v.getLsbD 0 = true then p else 0#w) := by
    cases u.getLsbD 0 <;> cases v.getLsbD 0 <;> simp
  rw [h]
  ac_rfl
theorem gn_xor {w : Nat} (p : BitVec w) : ∀ (k : Nat) (u v : BitVec w), gn p k (u ^^^ v) = gn p k u ^^^ gn p k v
  | 0, u, v => rfl
  | k + 1, u, v => by simp only [gn, gn_xor p k, gs_xor]
theorem gn_high {w : Nat} (p : BitVec w) : ∀ (k : Nat) (r : BitVec w), (∀ j, j < k → r.getLsbD j = false) → gn p k r = r >>> k
  | 0, r, h => by simp [gn]
  | k + 1, r, h => by
    rw [gn, gn_high p k r fun j hj => h j (by omega), gs]
    have : (r >>> k).getLsbD 0 = false := by rw [BitVec.getLsbD_ushiftRight]; simpa using h k (by omega)
    rw [this]
    simp [← BitVec.shiftRight_add]
/-- a byte that comes to the register -/
theorem gn_byte {w : Nat} (hw : 8 ≤ w) (p r : BitVec w) (x : BitVec 8) : gn p 8 (r ^^^ x.setWidth w) = r >>> 8 ^^^ gn p 8 ((r.setWidth 8 ^^^ x).setWidth w) := by
  have h : r ^^^ x.setWidth w = (r ^^^ (r.setWidth 8).setWidth w) ^^^ (r.setWidth 8 ^^^ x).setWidth w := by
    rw [BitVec.setWidth_xor]
    rw [BitVec.xor_assoc, ← BitVec.xor_assoc ((r.setWidth 8).setWidth w), BitVec.xor_self, BitVec.zero_xor]
  rw [h, gn_xor]
  congr 1
  rw [gn_high]
  · apply BitVec.eq_of_getLsbD_eq
    intro i hi
    simp [BitVec.getLsbD_ushiftRight]
  · intro j hj
    simp only [BitVec.getLsbD_xor, BitVec.getLsbD_setWidth]
    simp [hj]
    intro h1
    omega
/-- the bit by bit way: a register and the byte that comes -/
def gb {w : Nat} (p : BitVec w) (q : BitVec w × BitVec 8) : BitVec w × BitVec 8 := ((if (q.1 ^^^ q.2.setWidth w).getLsbD 0 then q.1 >>> 1 ^^^ p else q.1 >>> 1), q.2 >>> 1)
def gbn {w : Nat} (p : BitVec w) : Nat → BitVec w × BitVec 8 → BitVec w × BitVec 8
  | 0, q => q
  | k + 1, q => gb p (gbn p k q)
theorem gbn_inv {w : Nat} (hw : 8 ≤ w) (p : BitVec w) (r : BitVec w) (x : BitVec 8) : ∀ k, (gbn p k (r, x)).2 = x >>> k ∧ (gbn p k (r, x)).1 ^^^ ((gbn p k (r, x)).2).setWidth w = gn p k (r ^^^ x.setWidth w)
  | 0 => by simp [gbn, gn]
  | k + 1 => by
    obtain ⟨h1, h2⟩ := gbn_inv hw p r x k
    simp only [gbn, gn, gb]
    generalize gbn p k (r, x) = q at *
    have hs : (q.2 >>> 1).setWidth w = q.2.setWidth w >>> 1 := by
      apply BitVec.eq_of_getLsbD_eq
      intro i hi
      simp only [BitVec.getLsbD_setWidth, BitVec.getLsbD_ushiftRight, hi, decide_true, Bool.true_and]
      by_cases h : 1 + i < w
      · simp [h]
      · have : q.2.getLsbD (1 + i) = false := BitVec.getLsbD_of_ge _ _ (by omega)
        simp [this]
    refine ⟨by rw [h1, ← BitVec.shiftRight_add], ?_⟩
    rw [← h2, gs, hs, BitVec.ushiftRight_xor_distrib]
    split
    · ac_rfl
    · simp
theorem gbn_eight {w : Nat} (hw : 8 ≤ w) (p : BitVec w) (r : BitVec w) (x : BitVec 8) : (gbn p 8 (r, x)).1 = gn p 8 (r ^^^ x.setWidth w) := by
  obtain ⟨h1, h2⟩ := gbn_inv hw p r x 8
  rw [← h2, h1]
  have : x >>> 8 = 0#8 := by
    apply BitVec.eq_of_toNat_eq
    simp [Nat.shiftRight_eq_div_pow]
    omega
  rw [this]
  simp
end Go.Proofs.Ytmdeoikpiiambaa
/-! Crc32 -/
namespace Go.Proofs.Ytmdeoikpiiambaa
open Go Go.Eng
theorem low_and {w : Nat} (hw : 0 < w) (r p : BitVec w) : p &&& (0#w - (r &&& 1#w)) = if r.getLsbD 0 then p else 0#w := by
  rw [BitVec.and_one_eq_setWidth_ofBool_getLsbD]
  cases r.getLsbD 0
  · simp
  · have h : BitVec.setWidth w (BitVec.ofBool true) = 1#w := by
      apply BitVec.eq_of_toNat_eq
      simp
    rw [h, BitVec.zero_sub, BitVec.neg_one_eq_allOnes]
    simp
theorem half {w : Nat} (hw : 1 < w) (x : BitVec w) : x / 2#w = x >>> 1 := by
  apply BitVec.eq_of_toNat_eq
  have h1 : (2 : Nat) % 2 ^ w = 2 := by
    refine Nat.mod_eq_of_lt ?_
    have := Nat.pow_lt_pow_right (a := 2) (by decide) hw
    omega
  simp [h1, Nat.shiftRight_eq_div_pow]
theorem odd {w : Nat} (hw : 1 < w) (x : BitVec w) : (x % 2#w = 1#w) = (x.getLsbD 0 = true) := by
  have h1 : (2 : Nat) % 2 ^ w = 2 := by
    refine Nat.mod_eq_of_lt ?_
    have := Nat.pow_lt_pow_right (a := 2) (by decide) hw
    omega
  have h2 : (1 : Nat) % 2 ^ w = 1 := Nat.mod_eq_of_lt (Nat.one_lt_two_pow (by omega))
  refine propext ⟨fun h => ?_, fun h => ?_⟩
  · have := congrArg BitVec.toNat h
    simp [h1, h2] at this
    simp [BitVec.getLsbD, Nat.testBit_zero, this]
  · apply BitVec.eq_of_toNat_eq
    simp [BitVec.getLsbD, Nat.testBit_zero] at h
    simp [h1, h2, h]
def poly32 : BitVec 32 := 3988292384#32
def steps32 (k : Nat) (r : BitVec 32) : BitVec 32 := gn poly32 k r
theorem steps32_succ (k : Nat) (r : BitVec 32) : steps32 (k + 1) r = steps32 k r >>> 1 ^^^ (3988292384#32 &&& (0#32 - (steps32 k r &&& 1#32))) := by
  rw [low_and (by decide)]
  rfl
theorem steps32_0 (r : BitVec 32) : steps32 0 r = r := rfl
theorem gn_add {w : Nat} (p : BitVec w) (j : Nat) : ∀ (k : Nat) (r : BitVec w), gn p (k + j) r = gn p k (gn p j r)
  | 0, r => by rw [Nat.zero_add]; rfl
  | k + 1, r => by rw [Nat.add_right_comm, gn, gn_add p j k, gn]
/-- what a byte comes to, with j / 256 bytes of zeros behind it -/
def tv (j : Nat) : BitVec 32 := gn poly32 (8 * (j / 256 + 1)) (BitVec.ofNat 32 (j % 256))
def tab32 (f : Nat → Bool) : List (BitVec 32) := (List.range 1024).map fun j => if f j then tv j else 0
theorem tab32_len (f : Nat → Bool) : (tab32 f).length = 1024 := by simp [tab32]
theorem tab32_none : tab32 (fun j => decide (j < 0)) = List.replicate 1024 0 := by simp [tab32, List.map_const']
theorem tab32_congr {f g : Nat → Bool} (h : ∀ i, i < 1024 → f i = g i) : tab32 f = tab32 g := by
  unfold tab32
  refine List.map_congr_left fun i hi => ?_
  rw [h i (List.mem_range.1 hi)]
theorem tab32_set {f g : Nat → Bool} {j : Nat} (hj : j < 1024) (hg : ∀ i, i < 1024 → g i = (f i || i == j)) {v : BitVec 32} (hv : v = tv j) : (tab32 f).set j v = tab32 g := by
  subst hv
  apply List.ext_getElem
  · simp [tab32]
  · intro i h1 h2
    have hi : i < 1024 := by simpa [tab32] using h2
    simp only [tab32, List.getElem_set, List.getElem_map, List.getElem_range, hg i hi]
    by_cases e : j = i
    · subst e; simp
    · have e' : (i == j) = false := by simp; omega
      simp [e, e']
theorem tab32_get {f : Nat → Bool} {j : Nat} (hj : j < 1024) (hf : f j = true) : (tab32 f).getD j 0 = tv j := by
  rw [List.getD_eq_getElem?_getD, List.getElem?_eq_getElem (by rw [tab32_len]; exact hj)]
  simp only [tab32, List.getElem_map, List.getElem_range, Option.getD_some, hf, if_true]
theorem tv_0 {i : Nat} (h : i < 256) : steps32 8 (BitVec.ofNat 32 i) = tv i := by
  unfold tv steps32
  rw [Nat.div_eq_of_lt h, Nat.mod_eq_of_lt h]
theorem tv_byte (x : BitVec 8) : tv x.toNat = gn poly32 8 (x.setWidth 32) := by
  have h : x.toNat < 256 := x.isLt
  rw [← tv_0 h, steps32, BitVec.ofNat_toNat]
theorem tv_next {k i : Nat} (h : i < 256) : tv ((k + 1) * 256 + i) = tv (k * 256 + i) >>> 8 ^^^ tv ((tv (k * 256 + i)).setWidth 8).toNat := by
  have h0 := gn_byte (w := 32) (by decide) poly32 (tv (k * 256 + i)) 0#8
  rw [show (0#8).setWidth 32 = 0#32 from rfl, BitVec.xor_zero, BitVec.xor_zero] at h0
  rw [tv_byte, ← h0]
  unfold tv
  rw [← gn_add]
  have e1 : ((k + 1) * 256 + i) / 256 = k + 1 := by omega
  have e2 : ((k + 1) * 256 + i) % 256 = i := by omega
  have e3 : (k * 256 + i) / 256 = k := by omega
  have e4 : (k * 256 + i) % 256 = i := by omega
  rw [e1, e2, e3, e4]
  congr 1
  omega
def f1 (n : Nat) : Nat → Bool := fun j => decide (j < n)
def f2 (n q : Nat) : Nat → Bool := fun j => decide (j < 256 ∨ j % 256 < n ∨ (j % 256 = n ∧ j / 256 < q))
theorem tab32_z : tab32 (f1 0) = List.replicate 1024 0#32 := tab32_none
theorem tab32_f2 : tab32 (f2 0 1) = tab32 (f1 256) := tab32_congr fun i hi => by simp only [f1, f2, decide_eq_decide]; omega
theorem tab32_f2' (n : Nat) : tab32 (f2 n 4) = tab32 (f2 (n + 1) 1) := tab32_congr fun i hi => by simp only [f1, f2, decide_eq_decide]; omega
theorem tab32_full : tab32 (f2 256 1) = tab32 (fun _ => true) := tab32_congr fun i hi => by simp only [f2, decide_eq_true_eq]; omega
theorem tab32_take (f : Nat → Bool) : List.take 1024 (tab32 f) = tab32 f := by rw [List.take_of_length_le]; simp [tab32]
set_option maxHeartbeats 400000 in
theorem table32 : CallOk Try.prog 197 [] (fun _ => true) [] 0 fun v m nx => v = .agg (bvs .u32 (tab32 fun _ => true)) ∧ m = [] ∧ nx = 0 := by
  refine fn_ok Try.func197 rfl (Nat.zero_le _) ?_
  simp (maxSteps := 1000000) -implicitDefEqProofs only [go_sem, Nat.reduceBEq, Nat.reduceLT, Nat.reduceLeDiff, Nat.reduceEqDiff, Nat.reduceAdd, Nat.reduceMul, Nat.reduceSub, reduceIte, reduceCtorEq, Int.reduceLT, Int.reduceLE, Int.reduceToNat, Int.reduceAdd, Int.reduceSub, Int.reduceNeg, Int.reduceEq, Int.reduceNe, Int.reduceBEq, Int.reduceBNe, BitVec.reduceBEq, BitVec.reduceBNe, BitVec.reduceOfInt, BitVec.reduceSetWidth, -List.reduceReplicate, Try.results197, Try.ntmps197]
  refine LoopOk.up 256 (fun n => ([(7, .int .i64 n), (1, .ptr 1 0), (0, .ptr 0 0)], [(1, .cells (bvs .u32 (tab32 (f1 n))) 255), (0, .cells (bvs .u32 (List.replicate 1024 (0 : BitVec 32))) 255)], 2)) (Le.sameT (by decide) (by simp only [-List.reduceReplicate, slotsSame, Eng.look, Nat.reduceEqDiff, tab32_z, reduceIte, reduceCtorEq, if_true, if_false, eq_self, true_and, and_true, Option.some.injEq, AV.int.injEq]; (try simp (disch := omega) only [wrap_i64]); (try simp [-List.reduceReplicate]); (try omega)) (by simp only [-List.reduceReplicate, memSame, Eng.look, Nat.reduceEqDiff, tab32_z, reduceIte, reduceCtorEq, if_true, if_false, eq_self, true_and, and_true, Option.some.injEq, AObj.cells.injEq, bvs_rep8, bvs_rep16, bvs_rep32, bvs_rep64, bvs_flat_rep, Nat.reduceMul, bvs_append, List.replicate_append_replicate, Nat.reduceAdd, bvs_inj]; try simp [-List.reduceReplicate]) (by simp [-List.reduceReplicate])) ?_
  intro i hi
  simp (maxSteps := 1000000) -implicitDefEqProofs only [go_sem, Nat.reduceBEq, Nat.reduceLT, Nat.reduceLeDiff, Nat.reduceEqDiff, Nat.reduceAdd, Nat.reduceMul, Nat.reduceSub, reduceIte, reduceCtorEq, Int.reduceLT, Int.reduceLE, Int.reduceToNat, Int.reduceAdd, Int.reduceSub, Int.reduceNeg, Int.reduceEq, Int.reduceNe, Int.reduceBEq, Int.reduceBNe, BitVec.reduceBEq, BitVec.reduceBNe, BitVec.reduceOfInt, BitVec.reduceSetWidth, -List.reduceReplicate]
  refine cndv_split (fun h => ?_) (fun h => ?_)
  · have h' : (i : Int) < 256 := by simpa using h
    simp (maxSteps := 1000000) -implicitDefEqProofs only [go_sem, Nat.reduceBEq, Nat.reduceLT, Nat.reduceLeDiff, Nat.reduceEqDiff, Nat.reduceAdd, Nat.reduceMul, Nat.reduceSub, reduceIte, reduceCtorEq, Int.reduceLT, Int.reduceLE, Int.reduceToNat, Int.reduceAdd, Int.reduceSub, Int.reduceNeg, Int.reduceEq, Int.reduceNe, Int.reduceBEq, Int.reduceBNe, BitVec.reduceBEq, BitVec.reduceBNe, BitVec.reduceOfInt, BitVec.reduceSetWidth, -List.reduceReplicate]
    refine LoopOk.up 8 (fun n => ([(12, .int .i64 n), (3, .int .u32 ((steps32 n (BitVec.ofNat 32 i)).toNat : Int)), (2, .int .i64 i), (7, .int .i64 i), (1, .ptr 1 0), (0, .ptr 0 0)], [(1, .cells (bvs .u32 (tab32 (f1 i))) 255), (0, .cells (bvs .u32 (List.replicate 1024 (0 : BitVec 32))) 255)], 2)) (Le.sameT (by decide) (by simp only [-List.reduceReplicate, slotsSame, Eng.look, Nat.reduceEqDiff, steps32_0, reduceIte, reduceCtorEq, if_true, if_false, eq_self, true_and, and_true, Option.some.injEq, AV.int.injEq]; (try simp (disch := omega) only [wrap_i64]); (try simp [-List.reduceReplicate]); (try omega)) (by simp only [-List.reduceReplicate, memSame, Eng.look, Nat.reduceEqDiff, steps32_0, reduceIte, reduceCtorEq, if_true, if_false, eq_self, true_and, and_true, Option.some.injEq, AObj.cells.injEq, bvs_rep8, bvs_rep16, bvs_rep32, bvs_rep64, bvs_flat_rep, Nat.reduceMul, bvs_append, List.replicate_append_replicate, Nat.reduceAdd, bvs_inj]; try simp [-List.reduceReplicate]) (by simp [-List.reduceReplicate])) ?_
    intro n hn
    simp (maxSteps := 1000000) -implicitDefEqProofs only [go_sem, Nat.reduceBEq, Nat.reduceLT, Nat.reduceLeDiff, Nat.reduceEqDiff, Nat.reduceAdd, Nat.reduceMul, Nat.reduceSub, reduceIte, reduceCtorEq, Int.reduceLT, Int.reduceLE, Int.reduceToNat, Int.reduceAdd, Int.reduceSub, Int.reduceNeg, Int.reduceEq, Int.reduceNe, Int.reduceBEq, Int.reduceBNe, BitVec.reduceBEq, BitVec.reduceBNe, BitVec.reduceOfInt, BitVec.reduceSetWidth, -List.reduceReplicate]
    refine cndv_split (fun h => ?_) (fun h => ?_)
    · have h' : (n : Int) < 8 := by simpa using h
      simp (maxSteps := 1000000) -implicitDefEqProofs only [go_sem, Nat.reduceBEq, Nat.reduceLT, Nat.reduceLeDiff, Nat.reduceEqDiff, Nat.reduceAdd, Nat.reduceMul, Nat.reduceSub, reduceIte, reduceCtorEq, Int.reduceLT, Int.reduceLE, Int.reduceToNat, Int.reduceAdd, Int.reduceSub, Int.reduceNeg, Int.reduceEq, Int.reduceNe, Int.reduceBEq, Int.reduceBNe, BitVec.reduceBEq, BitVec.reduceBNe, BitVec.reduceOfInt, BitVec.reduceSetWidth, -List.reduceReplicate]
      exact UpK_normal (by omega) (Le.sameT (by decide) (by simp only [-List.reduceReplicate, slotsSame, Eng.look, Nat.reduceEqDiff, steps32_succ, reduceIte, reduceCtorEq, if_true, if_false, eq_self, true_and, and_true, Option.some.injEq, AV.int.injEq]; (try simp (disch := omega) only [wrap_i64]); (try simp [-List.reduceReplicate]); (try omega)) (by simp only [-List.reduceReplicate, memSame, Eng.look, Nat.reduceEqDiff, steps32_succ, reduceIte, reduceCtorEq, if_true, if_false, eq_self, true_and, and_true, Option.some.injEq, AObj.cells.injEq, bvs_rep8, bvs_rep16, bvs_rep32, bvs_rep64, bvs_flat_rep, Nat.reduceMul, bvs_append, List.replicate_append_replicate, Nat.reduceAdd, bvs_inj]; try simp [-List.reduceReplicate]) (by simp [-List.reduceReplicate]))
    · have h' : n = 8 := by simp at h; omega
      subst h'
      simp (maxSteps := 1000000) -implicitDefEqProofs only [go_sem, Nat.reduceBEq, Nat.reduceLT, Nat.reduceLeDiff, Nat.reduceEqDiff, Nat.reduceAdd, Nat.reduceMul, Nat.reduceSub, reduceIte, reduceCtorEq, Int.reduceLT, Int.reduceLE, Int.reduceToNat, Int.reduceAdd, Int.reduceSub, Int.reduceNeg, Int.reduceEq, Int.reduceNe, Int.reduceBEq, Int.reduceBNe, BitVec.reduceBEq, BitVec.reduceBNe, BitVec.reduceOfInt, BitVec.reduceSetWidth, -List.reduceReplicate, tab32_len]
      refine ⟨by omega, by omega, UpK_normal (by omega) ?_⟩
      rw [tab32_set (f := f1 i) (g := f1 (i + 1)) (j := i) (by omega) (fun j _ => by rw [Bool.eq_iff_iff]; simp [f1]; omega) (tv_0 (by omega))]
      exact (Le.sameT (by decide) (by simp only [-List.reduceReplicate, slotsSame, Eng.look, Nat.reduceEqDiff, reduceIte, reduceCtorEq, if_true, if_false, eq_self, true_and, and_true, Option.some.injEq, AV.int.injEq]; (try simp (disch := omega) only [wrap_i64]); (try simp [-List.reduceReplicate]); (try omega)) (by simp only [-List.reduceReplicate, memSame, Eng.look, Nat.reduceEqDiff, reduceIte, reduceCtorEq, if_true, if_false, eq_self, true_and, and_true, Option.some.injEq, AObj.cells.injEq, bvs_rep8, bvs_rep16, bvs_rep32, bvs_rep64, bvs_flat_rep, Nat.reduceMul, bvs_append, List.replicate_append_replicate, Nat.reduceAdd, bvs_inj]; try simp [-List.reduceReplicate]) (by simp [-List.reduceReplicate]))
  · have h' : i = 256 := by simp at h; omega
    subst h'
    simp (maxSteps := 1000000) -implicitDefEqProofs only [go_sem, Nat.reduceBEq, Nat.reduceLT, Nat.reduceLeDiff, Nat.reduceEqDiff, Nat.reduceAdd, Nat.reduceMul, Nat.reduceSub, reduceIte, reduceCtorEq, Int.reduceLT, Int.reduceLE, Int.reduceToNat, Int.reduceAdd, Int.reduceSub, Int.reduceNeg, Int.reduceEq, Int.reduceNe, Int.reduceBEq, Int.reduceBNe, BitVec.reduceBEq, BitVec.reduceBNe, BitVec.reduceOfInt, BitVec.reduceSetWidth, -List.reduceReplicate]
    refine LoopOk.up 256 (fun n => ([(27, .int .i64 n), (1, .ptr 1 0), (0, .ptr 0 0)], [(1, .cells (bvs .u32 (tab32 (f2 n 1))) 255), (0, .cells (bvs .u32 (List.replicate 1024 (0 : BitVec 32))) 255)], 2)) (Le.sameT (by decide) (by simp only [-List.reduceReplicate, slotsSame, Eng.look, Nat.reduceEqDiff, tab32_f2, reduceIte, reduceCtorEq, if_true, if_false, eq_self, true_and, and_true, Option.some.injEq, AV.int.injEq]; (try simp (disch := omega) only [wrap_i64]); (try simp [-List.reduceReplicate]); (try omega)) (by simp only [-List.reduceReplicate, memSame, Eng.look, Nat.reduceEqDiff, tab32_f2, reduceIte, reduceCtorEq, if_true, if_false, eq_self, true_and, and_true, Option.some.injEq, AObj.cells.injEq, bvs_rep8, bvs_rep16, bvs_rep32, bvs_rep64, bvs_flat_rep, Nat.reduceMul, bvs_append, List.replicate_append_replicate, Nat.reduceAdd, bvs_inj]; try simp [-List.reduceReplicate]) (by simp [-List.reduceReplicate])) ?_
    intro i hi
    simp (maxSteps := 1000000) -implicitDefEqProofs only [go_sem, Nat.reduceBEq, Nat.reduceLT, Nat.reduceLeDiff, Nat.reduceEqDiff, Nat.reduceAdd, Nat.reduceMul, Nat.reduceSub, reduceIte, reduceCtorEq, Int.reduceLT, Int.reduceLE, Int.reduceToNat, Int.reduceAdd, Int.reduceSub, Int.reduceNeg, Int.reduceEq, Int.reduceNe, Int.reduceBEq, Int.reduceBNe, BitVec.reduceBEq, BitVec.reduceBNe, BitVec.reduceOfInt, BitVec.reduceSetWidth, -List.reduceReplicate]
    refine cndv_split (fun h => ?_) (fun h => ?_)
    · have h' : (i : Int) < 256 := by simpa using h
      simp (maxSteps := 1000000) -implicitDefEqProofs only [go_sem, Nat.reduceBEq, Nat.reduceLT, Nat.reduceLeDiff, Nat.reduceEqDiff, Nat.reduceAdd, Nat.reduceMul, Nat.reduceSub, reduceIte, reduceCtorEq, Int.reduceLT, Int.reduceLE, Int.reduceToNat, Int.reduceAdd, Int.reduceSub, Int.reduceNeg, Int.reduceEq, Int.reduceNe, Int.reduceBEq, Int.reduceBNe, BitVec.reduceBEq, BitVec.reduceBNe, BitVec.reduceOfInt, BitVec.reduceSetWidth, -List.reduceReplicate]
      refine LoopOk.up 3 (fun k => ([(5, .int .i64 ((k + 1 : Nat) : Int)), (4, .int .i64 i), (27, .int .i64 i), (1, .ptr 1 0), (0, .ptr 0 0)], [(1, .cells (bvs .u32 (tab32 (f2 i (k + 1)))) 255), (0, .cells (bvs .u32 (List.replicate 1024 (0 : BitVec 32))) 255)], 2)) (Le.sameT (by decide) (by simp only [-List.reduceReplicate, slotsSame, Eng.look, Nat.reduceEqDiff, reduceIte, reduceCtorEq, if_true, if_false, eq_self, true_and, and_true, Option.some.injEq, AV.int.injEq]; (try simp (disch := omega) only [wrap_i64]); (try simp [-List.reduceReplicate]); (try omega)) (by simp only [-List.reduceReplicate, memSame, Eng.look, Nat.reduceEqDiff, reduceIte, reduceCtorEq, if_true, if_false, eq_self, true_and, and_true, Option.some.injEq, AObj.cells.injEq, bvs_rep8, bvs_rep16, bvs_rep32, bvs_rep64, bvs_flat_rep, Nat.reduceMul, bvs_append, List.replicate_append_replicate, Nat.reduceAdd, bvs_inj]; try simp [-List.reduceReplicate]) (by simp [-List.reduceReplicate])) ?_
      intro k hk
      have hw : IntKind.i64.wrap (((k + 1 : Nat) : Int) - 1) = (k : Int) := by rw [wrap_i64] <;> omega
      simp (maxSteps := 1000000) -implicitDefEqProofs only [go_sem, Nat.reduceBEq, Nat.reduceLT, Nat.reduceLeDiff, Nat.reduceEqDiff, Nat.reduceAdd, Nat.reduceMul, Nat.reduceSub, reduceIte, reduceCtorEq, Int.reduceLT, Int.reduceLE, Int.reduceToNat, Int.reduceAdd, Int.reduceSub, Int.reduceNeg, Int.reduceEq, Int.reduceNe, Int.reduceBEq, Int.reduceBNe, BitVec.reduceBEq, BitVec.reduceBNe, BitVec.reduceOfInt, BitVec.reduceSetWidth, -List.reduceReplicate]
      refine cndv_split (fun h => ?_) (fun h => ?_)
      · have h' : k < 3 := by simp at h; omega
        have hg : (tab32 (f2 i (k + 1))).getD (k * 256 + i) 0 = tv (k * 256 + i) := tab32_get (by omega) (by simp only [f2, decide_eq_true_eq]; omega)
        simp (maxSteps := 1000000) -implicitDefEqProofs only [go_sem, Nat.reduceBEq, Nat.reduceLT, Nat.reduceLeDiff, Nat.reduceEqDiff, Nat.reduceAdd, Nat.reduceMul, Nat.reduceSub, reduceIte, reduceCtorEq, Int.reduceLT, Int.reduceLE, Int.reduceToNat, Int.reduceAdd, Int.reduceSub, Int.reduceNeg, Int.reduceEq, Int.reduceNe, Int.reduceBEq, Int.reduceBNe, BitVec.reduceBEq, BitVec.reduceBNe, BitVec.reduceOfInt, BitVec.reduceSetWidth, -List.reduceReplicate, hw, tab32_len, hg]
        refine ⟨by omega, by omega, by omega, ?_⟩
        have hv : (tab32 (f2 i (k + 1))).getD ((tv (k * 256 + i)).setWidth 8).toNat 0 = tv ((tv (k * 256 + i)).setWidth 8).toNat := by
          have := ((tv (k * 256 + i)).setWidth 8).isLt
          exact tab32_get (by omega) (by simp only [f2, decide_eq_true_eq]; omega)
        refine ⟨Fx.mixed, .inl ⟨[(0, false), (1, false), (2, false), (3, false), (4, false), (5, false), (6, false), (7, false), (10, false), (8, true), (9, true), (11, true), (12, true)], [1], by kernel_rfl, (fun n hn => by cases List.mem_singleton.1 hn; exact ⟨rfl, rfl⟩), ?_⟩⟩
        simp (maxSteps := 1000000) -implicitDefEqProofs only [go_sem, Nat.reduceBEq, Nat.reduceLT, Nat.reduceLeDiff, Nat.reduceEqDiff, Nat.reduceAdd, Nat.reduceMul, Nat.reduceSub, reduceIte, reduceCtorEq, Int.reduceLT, Int.reduceLE, Int.reduceToNat, Int.reduceAdd, Int.reduceSub, Int.reduceNeg, Int.reduceEq, Int.reduceNe, Int.reduceBEq, Int.reduceBNe, BitVec.reduceBEq, BitVec.reduceBNe, BitVec.reduceOfInt, BitVec.reduceSetWidth, -List.reduceReplicate, hw, tab32_len, hv]
        refine ⟨by omega, by have := ((tv (k * 256 + i)).setWidth 8).isLt; omega, by omega, by omega, UpK_normal (by omega) ?_⟩
        rw [tab32_set (f := f2 i (k + 1)) (g := f2 i (k + 2)) (j := (k + 1) * 256 + i) (by omega) (fun j _ => by rw [Bool.eq_iff_iff]; simp [f2]; omega) (tv_next (by omega)).symm]
        exact (Le.sameT (by decide) (by simp only [-List.reduceReplicate, slotsSame, Eng.look, Nat.reduceEqDiff, reduceIte, reduceCtorEq, if_true, if_false, eq_self, true_and, and_true, Option.some.injEq, AV.int.injEq]; (try simp (disch := omega) only [wrap_i64]); (try simp [-List.reduceReplicate]); (try omega)) (by simp only [-List.reduceReplicate, memSame, Eng.look, Nat.reduceEqDiff, reduceIte, reduceCtorEq, if_true, if_false, eq_self, true_and, and_true, Option.some.injEq, AObj.cells.injEq, bvs_rep8, bvs_rep16, bvs_rep32, bvs_rep64, bvs_flat_rep, Nat.reduceMul, bvs_append, List.replicate_append_replicate, Nat.reduceAdd, bvs_inj]; try simp [-List.reduceReplicate]) (by simp [-List.reduceReplicate]))
      · have h' : k = 3 := by simp at h; omega
        subst h'
        simp (maxSteps := 1000000) -implicitDefEqProofs only [go_sem, Nat.reduceBEq, Nat.reduceLT, Nat.reduceLeDiff, Nat.reduceEqDiff, Nat.reduceAdd, Nat.reduceMul, Nat.reduceSub, reduceIte, reduceCtorEq, Int.reduceLT, Int.reduceLE, Int.reduceToNat, Int.reduceAdd, Int.reduceSub, Int.reduceNeg, Int.reduceEq, Int.reduceNe, Int.reduceBEq, Int.reduceBNe, BitVec.reduceBEq, BitVec.reduceBNe, BitVec.reduceOfInt, BitVec.reduceSetWidth, -List.reduceReplicate]
        exact UpK_normal (by omega) (Le.sameT (by decide) (by simp only [-List.reduceReplicate, slotsSame, Eng.look, Nat.reduceEqDiff, tab32_f2', reduceIte, reduceCtorEq, if_true, if_false, eq_self, true_and, and_true, Option.some.injEq, AV.int.injEq]; (try simp (disch := omega) only [wrap_i64]); (try simp [-List.reduceReplicate]); (try omega)) (by simp only [-List.reduceReplicate, memSame, Eng.look, Nat.reduceEqDiff, tab32_f2', reduceIte, reduceCtorEq, if_true, if_false, eq_self, true_and, and_true, Option.some.injEq, AObj.cells.injEq, bvs_rep8, bvs_rep16, bvs_rep32, bvs_rep64, bvs_flat_rep, Nat.reduceMul, bvs_append, List.replicate_append_replicate, Nat.reduceAdd, bvs_inj]; try simp [-List.reduceReplicate]) (by simp [-List.reduceReplicate]))
    · have h' : i = 256 := by simp at h; omega
      subst h'
      simp (maxSteps := 1000000) -implicitDefEqProofs only [go_sem, Nat.reduceBEq, Nat.reduceLT, Nat.reduceLeDiff, Nat.reduceEqDiff, Nat.reduceAdd, Nat.reduceMul, Nat.reduceSub, reduceIte, reduceCtorEq, Int.reduceLT, Int.reduceLE, Int.reduceToNat, Int.reduceAdd, Int.reduceSub, Int.reduceNeg, Int.reduceEq, Int.reduceNe, Int.reduceBEq, Int.reduceBNe, BitVec.reduceBEq, BitVec.reduceBNe, BitVec.reduceOfInt, BitVec.reduceSetWidth, -List.reduceReplicate, tab32_len, tab32_take, tab32_full]
      refine Fin.flatv (fun _ => rfl) (fun f => ?_) ⟨rfl, rfl, rfl⟩
      simp only [renA, bvs_ren]
end Go.Proofs.Ytmdeoikpiiambaa
/-! Crc32b -/
namespace Go.Proofs.Ytmdeoikpiiambaa
open Go Go.Eng
def byte32 (r : BitVec 32) (x : BitVec 8) : BitVec 32 := gn poly32 8 (r ^^^ x.setWidth 32)
theorem byte32_tv (r : BitVec 32) (x : BitVec 8) : r >>> 8 ^^^ tv (r.setWidth 8 ^^^ x).toNat = byte32 r x := by
  rw [tv_byte, byte32, gn_byte (by decide)]
theorem tv_row (k : Nat) (x : BitVec 8) : tv (k * 256 + x.toNat) = gn poly32 (8 * (k + 1)) (x.setWidth 32) := by
  have h : x.toNat < 256 := x.isLt
  unfold tv
  have e1 : (k * 256 + x.toNat) / 256 = k := by omega
  have e2 : (k * 256 + x.toNat) % 256 = x.toNat := by omega
  rw [e1, e2, BitVec.ofNat_toNat]
/-- a byte that lies higher comes down by shifts -/
theorem gn_down (x : BitVec 8) (c : Nat) (hc : c ≤ 24) : gn poly32 c (x.setWidth 32 <<< c) = x.setWidth 32 := by
  rw [gn_high]
  · apply BitVec.eq_of_getLsbD_eq
    intro i hi
    simp only [BitVec.getLsbD_ushiftRight, BitVec.getLsbD_shiftLeft, BitVec.getLsbD_setWidth]
    have h1 : ¬ (c + i < c) := by omega
    have h2 : c + i - c = i := by omega
    by_cases h3 : c + i < 32
    · simp [h1, h2, h3, hi]
    · have : x.getLsbD i = false := BitVec.getLsbD_of_ge _ _ (by omega)
      simp [h2, this]
  · intro j hj
    simp [BitVec.getLsbD_shiftLeft, hj]
theorem gn_from (x : BitVec 8) (c d : Nat) (hc : c ≤ 24) : gn poly32 (d + c) (x.setWidth 32 <<< c) = gn poly32 d (x.setWidth 32) := by
  rw [gn_add, gn_down x c hc]
def word32 (a b c d : BitVec 8) : BitVec 32 := a.setWidth 32 ||| b.setWidth 32 <<< 8 ||| c.setWidth 32 <<< 16 ||| d.setWidth 32 <<< 24
theorem fold32 (a b c d : BitVec 8) : (a.setWidth 32 ||| b.setWidth 32 <<< 8 ||| c.setWidth 32 <<< 16 ||| d.setWidth 32 <<< 24) = word32 a b c d := rfl
theorem word32_xor (a b c d : BitVec 8) : word32 a b c d = a.setWidth 32 ^^^ b.setWidth 32 <<< 8 ^^^ c.setWidth 32 <<< 16 ^^^ d.setWidth 32 <<< 24 := by
  apply BitVec.eq_of_getLsbD_eq
  intro i hi
  simp only [word32, BitVec.getLsbD_or, BitVec.getLsbD_xor, BitVec.getLsbD_shiftLeft, BitVec.getLsbD_setWidth, hi, decide_true, Bool.true_and]
  have hz : ∀ (x : BitVec 8) (j : Nat), 8 ≤ j → x.getLsbD j = false := fun x j h => BitVec.getLsbD_of_ge _ _ h
  rcases Nat.lt_or_ge i 8 with h | h
  · have g1 : decide (i < 8) = true := by simp [h]
    have g2 : decide (i < 16) = true := by simp; omega
    have g3 : decide (i < 24) = true := by simp; omega
    simp [g1, g2, g3]
  · rcases Nat.lt_or_ge i 16 with h' | h'
    · have g2 : decide (i < 16) = true := by simp; omega
      have g3 : decide (i < 24) = true := by simp; omega
      simp [hz a i h, g2, g3]
    · rcases Nat.lt_or_ge i 24 with h'' | h''
      · have g3 : decide (i < 24) = true := by simp; omega
        simp [hz a i h, hz b (i - 8) (by omega), g3]
      · simp [hz a i h, hz b (i - 8) (by omega), hz c (i - 16) (by omega)]
theorem four_bytes (r : BitVec 32) (a b c d : BitVec 8) : byte32 (byte32 (byte32 (byte32 r a) b) c) d = gn poly32 32 (r ^^^ word32 a b c d) := by
  rw [word32_xor]
  unfold byte32
  have e1 : ∀ v : BitVec 32, gn poly32 8 v ^^^ b.setWidth 32 = gn poly32 8 (v ^^^ b.setWidth 32 <<< 8) := fun v => by rw [gn_xor, gn_down b 8 (by decide)]
  have e2 : ∀ v : BitVec 32, gn poly32 16 v ^^^ c.setWidth 32 = gn poly32 16 (v ^^^ c.setWidth 32 <<< 16) := fun v => by rw [gn_xor, gn_down c 16 (by decide)]
  have e3 : ∀ v : BitVec 32, gn poly32 24 v ^^^ d.setWidth 32 = gn poly32 24 (v ^^^ d.setWidth 32 <<< 24) := fun v => by rw [gn_xor, gn_down d 24 (by decide)]
  rw [e1, ← gn_add, e2, ← gn_add, e3, ← gn_add]
  congr 1
  simp only [BitVec.xor_assoc]
theorem split32 (r : BitVec 32) : r = (r.setWidth 8).setWidth 32 ^^^ ((r >>> 8).setWidth 8).setWidth 32 <<< 8 ^^^ ((r >>> 16).setWidth 8).setWidth 32 <<< 16 ^^^ ((r >>> 24).setWidth 8).setWidth 32 <<< 24 := by
  apply BitVec.eq_of_getLsbD_eq
  intro i hi
  rw [BitVec.getLsbD_xor, BitVec.getLsbD_xor, BitVec.getLsbD_xor]
  rw [BitVec.getLsbD_shiftLeft, BitVec.getLsbD_shiftLeft, BitVec.getLsbD_shiftLeft]
  rw [BitVec.getLsbD_setWidth, BitVec.getLsbD_setWidth, BitVec.getLsbD_setWidth, BitVec.getLsbD_setWidth, BitVec.getLsbD_setWidth, BitVec.getLsbD_setWidth, BitVec.getLsbD_setWidth, BitVec.getLsbD_setWidth]
  rw [BitVec.getLsbD_ushiftRight, BitVec.getLsbD_ushiftRight, BitVec.getLsbD_ushiftRight]
  rcases Nat.lt_or_ge i 8 with h | h
  · have g0 : decide (i < 8) = true := by simp [h]
    have g2 : decide (i < 16) = true := by simp; omega
    have g3 : decide (i < 24) = true := by simp; omega
    have g4 : decide (i < 32) = true := by simp [hi]
    simp only [g0, g2, g3, g4, Bool.true_and, Bool.not_true, Bool.false_and, Bool.and_false, Bool.xor_false]
  · have g0 : decide (i < 8) = false := by simp; omega
    have g4 : decide (i < 32) = true := by simp [hi]
    have k1 : decide (i - 8 < 32) = true := by simp; omega
    have k2 : decide (i - 16 < 32) = true := by simp; omega
    have k3 : decide (i - 24 < 32) = true := by simp; omega
    rcases Nat.lt_or_ge i 16 with h' | h'
    · have g1 : decide (i - 8 < 8) = true := by simp; omega
      have g2 : decide (i < 16) = true := by simp; omega
      have g3 : decide (i < 24) = true := by simp; omega
      simp only [g0, g1, g2, g3, g4, k1, show 8 + (i - 8) = i by omega, Bool.true_and, Bool.not_true, Bool.not_false, Bool.false_and, Bool.and_false, Bool.xor_false, Bool.false_xor]
    · have g1 : decide (i - 8 < 8) = false := by simp; omega
      have g2' : decide (i < 16) = false := by simp; omega
      rcases Nat.lt_or_ge i 24 with h'' | h''
      · have g2 : decide (i - 16 < 8) = true := by simp; omega
        have g3 : decide (i < 24) = true := by simp; omega
        simp only [g0, g1, g2, g2', g3, g4, k1, k2, show 16 + (i - 16) = i by omega, Bool.true_and, Bool.not_true, Bool.not_false, Bool.false_and, Bool.and_false, Bool.xor_false, Bool.false_xor]
      · have g2 : decide (i - 16 < 8) = false := by simp; omega
        have g3 : decide (i - 24 < 8) = true := by simp; omega
        have g3' : decide (i < 24) = false := by simp; omega
        simp only [g0, g1, g2, g2', g3, g3', g4, k1, k2, k3, show 24 + (i - 24) = i by omega, Bool.true_and, Bool.not_true, Bool.not_false, Bool.false_and, Bool.and_false, Bool.xor_false, Bool.false_xor]
theorem slice32 (r : BitVec 32) : tv (3 * 256 + (r.setWidth 8).toNat) ^^^ tv (2 * 256 + ((r >>> 8).setWidth 8).toNat) ^^^ tv (1 * 256 + ((r >>> 16).setWidth 8).toNat) ^^^ tv (0 * 256 + ((r >>> 24).setWidth 8).toNat) = gn poly32 32 r := by
  rw [tv_row, tv_row, tv_row, tv_row]
  conv => rhs; rw [split32 r]
  rw [gn_xor, gn_xor, gn_xor]
  have f1 : ∀ x : BitVec 8, gn poly32 32 (x.setWidth 32 <<< 8) = gn poly32 24 (x.setWidth 32) := fun x => gn_from x 8 24 (by decide)
  have f2 : ∀ x : BitVec 8, gn poly32 32 (x.setWidth 32 <<< 16) = gn poly32 16 (x.setWidth 32) := fun x => gn_from x 16 16 (by decide)
  have f3 : ∀ x : BitVec 8, gn poly32 32 (x.setWidth 32 <<< 24) = gn poly32 8 (x.setWidth 32) := fun x => gn_from x 24 8 (by decide)
  rw [f1, f2, f3]
theorem slice32' (r : BitVec 32) : tv (768 + (r.setWidth 8).toNat) ^^^ tv (512 + ((r >>> 8).setWidth 8).toNat) ^^^ tv (256 + ((r >>> 16).setWidth 8).toNat) ^^^ tv ((r >>> 24).setWidth 8).toNat = gn poly32 32 r := by
  have := slice32 r
  rwa [Nat.zero_mul, Nat.zero_add, Nat.one_mul] at this
def on32 (sum : BitVec 32) (b : List (BitVec 8)) : BitVec 32 := ~~~ b.foldl byte32 (~~~ sum)
theorem tab_get (k : Nat) (hk : k < 4) (x : BitVec 8) : (tab32 fun _ => true).getD (k * 256 + x.toNat) 0 = tv (k * 256 + x.toNat) := by
  have h : x.toNat < 256 := x.isLt
  exact tab32_get (by omega) rfl
theorem tab_get0 (x : BitVec 8) : (tab32 fun _ => true).getD x.toNat 0 = tv (0 * 256 + x.toNat) := by
  have := tab_get 0 (by decide) x
  simpa using this
theorem tab_get1 (x : BitVec 8) : (tab32 fun _ => true).getD (256 + x.toNat) 0 = tv (1 * 256 + x.toNat) := by
  have := tab_get 1 (by decide) x
  simpa using this
theorem tab_get2 (x : BitVec 8) : (tab32 fun _ => true).getD (512 + x.toNat) 0 = tv (2 * 256 + x.toNat) := tab_get 2 (by decide) x
theorem tab_get3 (x : BitVec 8) : (tab32 fun _ => true).getD (768 + x.toNat) 0 = tv (3 * 256 + x.toNat) := tab_get 3 (by decide) x
theorem take4 (b : List (BitVec 8)) (n : Nat) (h : 4 * n + 4 ≤ b.length) (r : BitVec 32) : (b.take (4 * (n + 1))).foldl byte32 r = byte32 (byte32 (byte32 (byte32 ((b.take (4 * n)).foldl byte32 r) (b.getD (4 * n) 0)) (b.getD (4 * n + 1) 0)) (b.getD (4 * n + 2) 0)) (b.getD (4 * n + 3) 0) := by
  rw [show 4 * (n + 1) = 4 * n + 1 + 1 + 1 + 1 by omega, foldl_take_succ _ _ _ _ 0 (by omega), foldl_take_succ _ _ _ _ 0 (by omega), foldl_take_succ _ _ _ _ 0 (by omega), foldl_take_succ _ _ _ _ 0 (by omega)]
set_option maxHeartbeats 400000 in
theorem onOk32 (sum : BitVec 32) (b : List (BitVec 8)) (hb : b.length ≤ 4611686018427387904) : CallOk Try.prog 174 [.int .u32 (sum.toNat : Int), .ro b.length (bvs .u8 b)] (fun _ => true) [] 0 fun v m nx => v = .int .u32 ((on32 sum b).toNat : Int) ∧ m = [] ∧ nx = 0 := by
  refine fn_ok Try.func174 rfl (by show 2 ≤ 86; decide) ?_
  simp (maxSteps := 1000000) -implicitDefEqProofs only [go_sem, Nat.reduceBEq, Nat.reduceLT, Nat.reduceLeDiff, Nat.reduceEqDiff, Nat.reduceAdd, Nat.reduceMul, Nat.reduceSub, reduceIte, reduceCtorEq, Int.reduceLT, Int.reduceLE, Int.reduceToNat, Int.reduceAdd, Int.reduceSub, Int.reduceNeg, Int.reduceEq, Int.reduceNe, Int.reduceBEq, Int.reduceBNe, BitVec.reduceBEq, BitVec.reduceBNe, BitVec.reduceOfInt, BitVec.reduceSetWidth, -List.reduceReplicate, Try.results174, Try.ntmps174]
  refine table32.flatv trivial (fun f => by simp only [renA, bvs_ren]) (by simp only [noRo, bvs_noRo]) ?_
  simp (maxSteps := 1000000) -implicitDefEqProofs only [go_sem, Nat.reduceBEq, Nat.reduceLT, Nat.reduceLeDiff, Nat.reduceEqDiff, Nat.reduceAdd, Nat.reduceMul, Nat.reduceSub, reduceIte, reduceCtorEq, Int.reduceLT, Int.reduceLE, Int.reduceToNat, Int.reduceAdd, Int.reduceSub, Int.reduceNeg, Int.reduceEq, Int.reduceNe, Int.reduceBEq, Int.reduceBNe, BitVec.reduceBEq, BitVec.reduceBNe, BitVec.reduceOfInt, BitVec.reduceSetWidth, -List.reduceReplicate, tab32_len, List.drop_replicate]
  refine LoopOk.up (b.length / 4) (fun n => ([(1, .ro (b.drop (4 * n)).length (bvs .u8 (b.drop (4 * n)))), (6, .int .u32 (((b.take (4 * n)).foldl byte32 (~~~ sum)).toNat : Int)), (5, .ptr 0 0)], [(0, .cells (bvs .u32 (tab32 fun _ => true)) 255)], 1)) (Le.sameT (by decide) (by simp only [-List.reduceReplicate, slotsSame, Eng.look, Nat.reduceEqDiff, Nat.mul_zero, List.drop_zero, List.take_zero, List.foldl_nil, reduceIte, reduceCtorEq, if_true, if_false, eq_self, true_and, and_true, Option.some.injEq, AV.int.injEq]; (try simp (disch := omega) only [wrap_i64]); (try simp [-List.reduceReplicate]); (try omega)) (by simp only [-List.reduceReplicate, memSame, Eng.look, Nat.reduceEqDiff, Nat.mul_zero, List.drop_zero, List.take_zero, List.foldl_nil, reduceIte, reduceCtorEq, if_true, if_false, eq_self, true_and, and_true, Option.some.injEq, AObj.cells.injEq, bvs_rep8, bvs_rep16, bvs_rep32, bvs_rep64, bvs_flat_rep, Nat.reduceMul, bvs_append, List.replicate_append_replicate, Nat.reduceAdd, bvs_inj]; try simp [-List.reduceReplicate]) (by simp [-List.reduceReplicate])) ?_
  intro n hn
  simp (maxSteps := 1000000) -implicitDefEqProofs only [go_sem, Nat.reduceBEq, Nat.reduceLT, Nat.reduceLeDiff, Nat.reduceEqDiff, Nat.reduceAdd, Nat.reduceMul, Nat.reduceSub, reduceIte, reduceCtorEq, Int.reduceLT, Int.reduceLE, Int.reduceToNat, Int.reduceAdd, Int.reduceSub, Int.reduceNeg, Int.reduceEq, Int.reduceNe, Int.reduceBEq, Int.reduceBNe, BitVec.reduceBEq, BitVec.reduceBNe, BitVec.reduceOfInt, BitVec.reduceSetWidth, -List.reduceReplicate]
  refine cndv_split (fun h => ?_) (fun h => ?_)
  · have h' : 4 * n + 4 ≤ b.length := by simp at h; omega
    simp (maxSteps := 1000000) -implicitDefEqProofs only [go_sem, Nat.reduceBEq, Nat.reduceLT, Nat.reduceLeDiff, Nat.reduceEqDiff, Nat.reduceAdd, Nat.reduceMul, Nat.reduceSub, reduceIte, reduceCtorEq, Int.reduceLT, Int.reduceLE, Int.reduceToNat, Int.reduceAdd, Int.reduceSub, Int.reduceNeg, Int.reduceEq, Int.reduceNe, Int.reduceBEq, Int.reduceBNe, BitVec.reduceBEq, BitVec.reduceBNe, BitVec.reduceOfInt, BitVec.reduceSetWidth, -List.reduceReplicate]
    refine ⟨Fx.mixed, .inl ⟨[(0, false), (1, false), (2, false), (3, false), (4, false), (5, false), (6, false), (7, false), (8, false), (9, false), (10, false), (11, false), (12, false), (13, false), (14, false), (15, false), (16, false), (17, false), (18, false), (19, false), (20, false), (21, false), (22, false), (23, false), (24, false)], [], by kernel_rfl, (fun n hn => by cases hn), ?_⟩⟩
    simp (maxSteps := 1000000) -implicitDefEqProofs only [go_sem, Nat.reduceBEq, Nat.reduceLT, Nat.reduceLeDiff, Nat.reduceEqDiff, Nat.reduceAdd, Nat.reduceMul, Nat.reduceSub, reduceIte, reduceCtorEq, Int.reduceLT, Int.reduceLE, Int.reduceToNat, Int.reduceAdd, Int.reduceSub, Int.reduceNeg, Int.reduceEq, Int.reduceNe, Int.reduceBEq, Int.reduceBNe, BitVec.reduceBEq, BitVec.reduceBNe, BitVec.reduceOfInt, BitVec.reduceSetWidth, -List.reduceReplicate, List.length_drop, fold32]
    refine ⟨by omega, by omega, by omega, by omega, by omega, by omega, by omega, by omega, by omega, by omega, by omega, by omega, ?_⟩
    generalize hw : word32 (b.getD (4 * n) 0) (b.getD (4 * n + 1) 0) (b.getD (4 * n + 2) 0) (b.getD (4 * n + 3) 0) = wd
    generalize hr : ((b.take (4 * n)).foldl byte32 (~~~ sum)) = rr
    generalize hq : rr ^^^ wd = qq
    refine ⟨Fx.mixed, .inl ⟨[(0, false), (1, false), (2, false), (3, false), (4, false), (5, false), (6, false), (7, false), (8, false), (9, false), (10, false), (11, false), (12, false), (13, false), (14, false), (15, false), (16, false), (17, false), (18, false), (19, false), (20, false), (21, false), (22, false), (23, false), (24, false), (25, false), (26, false)], [], by kernel_rfl, (fun n hn => by cases hn), ?_⟩⟩
    simp (maxSteps := 1000000) -implicitDefEqProofs only [go_sem, Nat.reduceBEq, Nat.reduceLT, Nat.reduceLeDiff, Nat.reduceEqDiff, Nat.reduceAdd, Nat.reduceMul, Nat.reduceSub, reduceIte, reduceCtorEq, Int.reduceLT, Int.reduceLE, Int.reduceToNat, Int.reduceAdd, Int.reduceSub, Int.reduceNeg, Int.reduceEq, Int.reduceNe, Int.reduceBEq, Int.reduceBNe, BitVec.reduceBEq, BitVec.reduceBNe, BitVec.reduceOfInt, BitVec.reduceSetWidth, -List.reduceReplicate, List.length_drop, tab32_len, tab_get0, tab_get1, tab_get2, tab_get3, slice32']
    have l1 := (qq.setWidth 8).isLt
    have l2 := ((qq >>> 8).setWidth 8).isLt
    have l3 := ((qq >>> 16).setWidth 8).isLt
    have l4 := ((qq >>> 24).setWidth 8).isLt
    refine ⟨by omega, by omega, by omega, by omega, by omega, UpK_normal (by omega) ?_⟩
    have s1 : (b.take (4 * (n + 1))).foldl byte32 (~~~ sum) = gn poly32 32 qq := by rw [take4 b n h', four_bytes, hw, hr, hq]
    have s2 : List.take (b.length - 4 * (n + 1)) (List.drop 4 (List.drop (4 * n) b)) = List.drop (4 * (n + 1)) b := by
      rw [List.drop_drop, List.take_of_length_le (by rw [List.length_drop]; omega)]
      rfl
    have s3 : b.length - 4 * n - 4 = b.length - 4 * (n + 1) := by omega
    exact (Le.sameT (by decide) (by simp only [-List.reduceReplicate, slotsSame, Eng.look, Nat.reduceEqDiff, s1, s2, s3, reduceIte, reduceCtorEq, if_true, if_false, eq_self, true_and, and_true, Option.some.injEq, AV.int.injEq]; (try simp (disch := omega) only [wrap_i64]); (try simp [-List.reduceReplicate]); (try omega)) (by simp only [-List.reduceReplicate, memSame, Eng.look, Nat.reduceEqDiff, s1, s2, s3, reduceIte, reduceCtorEq, if_true, if_false, eq_self, true_and, and_true, Option.some.injEq, AObj.cells.injEq, bvs_rep8, bvs_rep16, bvs_rep32, bvs_rep64, bvs_flat_rep, Nat.reduceMul, bvs_append, List.replicate_append_replicate, Nat.reduceAdd, bvs_inj]; try simp [-List.reduceReplicate]) (by simp [-List.reduceReplicate]))
  · have h' : b.length < 4 * n + 4 := by simp at h; omega
    simp (maxSteps := 1000000) -implicitDefEqProofs only [go_sem, Nat.reduceBEq, Nat.reduceLT, Nat.reduceLeDiff, Nat.reduceEqDiff, Nat.reduceAdd, Nat.reduceMul, Nat.reduceSub, reduceIte, reduceCtorEq, Int.reduceLT, Int.reduceLE, Int.reduceToNat, Int.reduceAdd, Int.reduceSub, Int.reduceNeg, Int.reduceEq, Int.reduceNe, Int.reduceBEq, Int.reduceBNe, BitVec.reduceBEq, BitVec.reduceBNe, BitVec.reduceOfInt, BitVec.reduceSetWidth, -List.reduceReplicate, List.length_drop]
    refine LoopOk.up (b.length - 4 * n) (fun k => ([(69, .int .i64 k), (68, .int .i64 ((b.length - 4 * n : Nat) : Int)), (67, .ro (b.length - 4 * n) (bvs .u8 (b.drop (4 * n)))), (6, .int .u32 ((((b.drop (4 * n)).take k).foldl byte32 ((b.take (4 * n)).foldl byte32 (~~~ sum))).toNat : Int)), (5, .ptr 0 0)], [(0, .cells (bvs .u32 (tab32 fun _ => true)) 255)], 1)) (Le.sameT (by decide) (by simp only [-List.reduceReplicate, slotsSame, Eng.look, Nat.reduceEqDiff, List.take_zero, List.foldl_nil, reduceIte, reduceCtorEq, if_true, if_false, eq_self, true_and, and_true, Option.some.injEq, AV.int.injEq]; (try simp (disch := omega) only [wrap_i64]); (try simp [-List.reduceReplicate]); (try omega)) (by simp only [-List.reduceReplicate, memSame, Eng.look, Nat.reduceEqDiff, List.take_zero, List.foldl_nil, reduceIte, reduceCtorEq, if_true, if_false, eq_self, true_and, and_true, Option.some.injEq, AObj.cells.injEq, bvs_rep8, bvs_rep16, bvs_rep32, bvs_rep64, bvs_flat_rep, Nat.reduceMul, bvs_append, List.replicate_append_replicate, Nat.reduceAdd, bvs_inj]; try simp [-List.reduceReplicate]) (by simp [-List.reduceReplicate])) ?_
    intro k hk
    simp (maxSteps := 1000000) -implicitDefEqProofs only [go_sem, Nat.reduceBEq, Nat.reduceLT, Nat.reduceLeDiff, Nat.reduceEqDiff, Nat.reduceAdd, Nat.reduceMul, Nat.reduceSub, reduceIte, reduceCtorEq, Int.reduceLT, Int.reduceLE, Int.reduceToNat, Int.reduceAdd, Int.reduceSub, Int.reduceNeg, Int.reduceEq, Int.reduceNe, Int.reduceBEq, Int.reduceBNe, BitVec.reduceBEq, BitVec.reduceBNe, BitVec.reduceOfInt, BitVec.reduceSetWidth, -List.reduceReplicate]
    refine cndv_split (fun h => ?_) (fun h => ?_)
    · have h1 : k < b.length - 4 * n := by simp at h; omega
      have h2 : k < (b.drop (4 * n)).length := by rw [List.length_drop]; exact h1
      simp (maxSteps := 1000000) -implicitDefEqProofs only [go_sem, Nat.reduceBEq, Nat.reduceLT, Nat.reduceLeDiff, Nat.reduceEqDiff, Nat.reduceAdd, Nat.reduceMul, Nat.reduceSub, reduceIte, reduceCtorEq, Int.reduceLT, Int.reduceLE, Int.reduceToNat, Int.reduceAdd, Int.reduceSub, Int.reduceNeg, Int.reduceEq, Int.reduceNe, Int.reduceBEq, Int.reduceBNe, BitVec.reduceBEq, BitVec.reduceBNe, BitVec.reduceOfInt, BitVec.reduceSetWidth, -List.reduceReplicate, tab32_len, tab_get0, List.length_drop, Nat.zero_mul, Nat.zero_add, byte32_tv]
      have l1 := (BitVec.setWidth 8 (List.foldl byte32 (List.foldl byte32 (~~~sum) (List.take (4 * n) b)) (List.take k (List.drop (4 * n) b))) ^^^ b.getD (4 * n + k) 0).isLt
      have s1 : (List.take (k + 1) (List.drop (4 * n) b)).foldl byte32 (List.foldl byte32 (~~~sum) (List.take (4 * n) b)) = byte32 ((List.take k (List.drop (4 * n) b)).foldl byte32 (List.foldl byte32 (~~~sum) (List.take (4 * n) b))) (b.getD (4 * n + k) 0) := by
        rw [foldl_take_succ _ _ _ _ 0 h2, drop_getD]
      refine ⟨by omega, by omega, by omega, by omega, UpK_normal h1 (Le.sameT (by decide) (by simp only [-List.reduceReplicate, slotsSame, Eng.look, Nat.reduceEqDiff, s1, reduceIte, reduceCtorEq, if_true, if_false, eq_self, true_and, and_true, Option.some.injEq, AV.int.injEq]; (try simp (disch := omega) only [wrap_i64]); (try simp [-List.reduceReplicate]); (try omega)) (by simp only [-List.reduceReplicate, memSame, Eng.look, Nat.reduceEqDiff, s1, reduceIte, reduceCtorEq, if_true, if_false, eq_self, true_and, and_true, Option.some.injEq, AObj.cells.injEq, bvs_rep8, bvs_rep16, bvs_rep32, bvs_rep64, bvs_flat_rep, Nat.reduceMul, bvs_append, List.replicate_append_replicate, Nat.reduceAdd, bvs_inj]; try simp [-List.reduceReplicate]) (by simp [-List.reduceReplicate]))⟩
    · have h1 : k = b.length - 4 * n := by simp at h; omega
      subst h1
      have e : List.take (b.length - 4 * n) (b.drop (4 * n)) = b.drop (4 * n) := List.take_of_length_le (by rw [List.length_drop]; exact Nat.le_refl _)
      have e2 : (b.drop (4 * n)).foldl byte32 ((b.take (4 * n)).foldl byte32 (~~~ sum)) = b.foldl byte32 (~~~ sum) := by
        rw [← List.foldl_append, List.take_append_drop]
      simp (maxSteps := 1000000) -implicitDefEqProofs only [go_sem, Nat.reduceBEq, Nat.reduceLT, Nat.reduceLeDiff, Nat.reduceEqDiff, Nat.reduceAdd, Nat.reduceMul, Nat.reduceSub, reduceIte, reduceCtorEq, Int.reduceLT, Int.reduceLE, Int.reduceToNat, Int.reduceAdd, Int.reduceSub, Int.reduceNeg, Int.reduceEq, Int.reduceNe, Int.reduceBEq, Int.reduceBNe, BitVec.reduceBEq, BitVec.reduceBNe, BitVec.reduceOfInt, BitVec.reduceSetWidth, -List.reduceReplicate, e, e2]
      exact Fin.flatv (fun _ => rfl) (fun f => rfl) ⟨rfl, rfl, rfl⟩
theorem sumOk32 (b : List (BitVec 8)) (hb : b.length ≤ 4611686018427387904) : CallOk Try.prog 130 [.ro b.length (bvs .u8 b)] (fun _ => true) [] 0 fun v m nx => v = .int .u32 ((on32 0 b).toNat : Int) ∧ m = [] ∧ nx = 0 := by
  refine fn_ok Try.func130 rfl (by show 1 ≤ 5; decide) ?_
  simp (maxSteps := 1000000) -implicitDefEqProofs only [go_sem, Nat.reduceBEq, Nat.reduceLT, Nat.reduceLeDiff, Nat.reduceEqDiff, Nat.reduceAdd, Nat.reduceMul, Nat.reduceSub, reduceIte, reduceCtorEq, Int.reduceLT, Int.reduceLE, Int.reduceToNat, Int.reduceAdd, Int.reduceSub, Int.reduceNeg, Int.reduceEq, Int.reduceNe, Int.reduceBEq, Int.reduceBNe, BitVec.reduceBEq, BitVec.reduceBNe, BitVec.reduceOfInt, BitVec.reduceSetWidth, -List.reduceReplicate, Try.results130, Try.ntmps130]
  refine (onOk32 0 b hb).flatv (by simp only [argsx, argx_int, argx_bool, argx_fn, argx_ro, argx_nils, eq_self, true_and, and_true, and_self]; try trivial) (fun _ => rfl) rfl ?_
  simp (maxSteps := 1000000) -implicitDefEqProofs only [go_sem, Nat.reduceBEq, Nat.reduceLT, Nat.reduceLeDiff, Nat.reduceEqDiff, Nat.reduceAdd, Nat.reduceMul, Nat.reduceSub, reduceIte, reduceCtorEq, Int.reduceLT, Int.reduceLE, Int.reduceToNat, Int.reduceAdd, Int.reduceSub, Int.reduceNeg, Int.reduceEq, Int.reduceNe, Int.reduceBEq, Int.reduceBNe, BitVec.reduceBEq, BitVec.reduceBNe, BitVec.reduceOfInt, BitVec.reduceSetWidth, -List.reduceReplicate]
  exact Fin.flatv (fun _ => rfl) (fun f => rfl) ⟨rfl, rfl, rfl⟩
end Go.Proofs.Ytmdeoikpiiambaa
/-! Crc32c -/
namespace Go.Proofs.Ytmdeoikpiiambaa
open Go Go.Eng
/-- one bit of the document's register -/
def bit32 (p : BitVec 32 × BitVec 8) : BitVec 32 × BitVec 8 := (if (p.1 ^^^ p.2.setWidth 32) % 2#32 = 1#32 then p.1 / 2#32 ^^^ 3988292384#32 else p.1 / 2#32, p.2 / 2#8)
def bits32 : Nat → BitVec 32 × BitVec 8 → BitVec 32 × BitVec 8
  | 0, p => p
  | k + 1, p => bit32 (bits32 k p)
def come32 (r : BitVec 32) (b : List (BitVec 8)) : BitVec 32 := b.foldl (fun r x => (bits32 8 (r, x)).1) r
set_option maxHeartbeats 400000 in
theorem comeOk32 (r : BitVec 32) (b : List (BitVec 8)) (hb : b.length ≤ 4611686018427387904) : CallOk Try.prog 135 [.int .u32 (r.toNat : Int), .ro b.length (bvs .u8 b)] (fun _ => true) [] 0 fun v m nx => v = .int .u32 ((come32 r b).toNat : Int) ∧ m = [] ∧ nx = 0 := by
  refine fn_ok Try.func135 rfl (by show 2 ≤ 37; decide) ?_
  simp (maxSteps := 1000000) -implicitDefEqProofs only [go_sem, Nat.reduceBEq, Nat.reduceLT, Nat.reduceLeDiff, Nat.reduceEqDiff, Nat.reduceAdd, Nat.reduceMul, Nat.reduceSub, reduceIte, reduceCtorEq, Int.reduceLT, Int.reduceLE, Int.reduceToNat, Int.reduceAdd, Int.reduceSub, Int.reduceNeg, Int.reduceEq, Int.reduceNe, Int.reduceBEq, Int.reduceBNe, BitVec.reduceBEq, BitVec.reduceBNe, BitVec.reduceOfInt, BitVec.reduceSetWidth, -List.reduceReplicate, Try.results135, Try.ntmps135]
  refine LoopOk.up b.length (fun n => ([(5, .int .i64 n), (0, .int .u32 ((come32 r (b.take n)).toNat : Int)), (1, .ro b.length (bvs .u8 b))], [], 0)) (Le.sameT (by decide) (by simp only [-List.reduceReplicate, slotsSame, Eng.look, Nat.reduceEqDiff, List.take_zero, come32, List.foldl_nil, reduceIte, reduceCtorEq, if_true, if_false, eq_self, true_and, and_true, Option.some.injEq, AV.int.injEq]; (try simp (disch := omega) only [wrap_i64]); (try simp [-List.reduceReplicate]); (try omega)) (by simp only [-List.reduceReplicate, memSame, Eng.look, Nat.reduceEqDiff, List.take_zero, come32, List.foldl_nil, reduceIte, reduceCtorEq, if_true, if_false, eq_self, true_and, and_true, Option.some.injEq, AObj.cells.injEq, bvs_rep8, bvs_rep16, bvs_rep32, bvs_rep64, bvs_flat_rep, Nat.reduceMul, bvs_append, List.replicate_append_replicate, Nat.reduceAdd, bvs_inj]; try simp [-List.reduceReplicate]) (by simp [-List.reduceReplicate])) ?_
  intro n hn
  simp (maxSteps := 1000000) -implicitDefEqProofs only [go_sem, Nat.reduceBEq, Nat.reduceLT, Nat.reduceLeDiff, Nat.reduceEqDiff, Nat.reduceAdd, Nat.reduceMul, Nat.reduceSub, reduceIte, reduceCtorEq, Int.reduceLT, Int.reduceLE, Int.reduceToNat, Int.reduceAdd, Int.reduceSub, Int.reduceNeg, Int.reduceEq, Int.reduceNe, Int.reduceBEq, Int.reduceBNe, BitVec.reduceBEq, BitVec.reduceBNe, BitVec.reduceOfInt, BitVec.reduceSetWidth, -List.reduceReplicate]
  refine cndv_split (fun h => ?_) (fun h => ?_)
  · have h' : n < b.length := by simpa using h
    simp (maxSteps := 1000000) -implicitDefEqProofs only [go_sem, Nat.reduceBEq, Nat.reduceLT, Nat.reduceLeDiff, Nat.reduceEqDiff, Nat.reduceAdd, Nat.reduceMul, Nat.reduceSub, reduceIte, reduceCtorEq, Int.reduceLT, Int.reduceLE, Int.reduceToNat, Int.reduceAdd, Int.reduceSub, Int.reduceNeg, Int.reduceEq, Int.reduceNe, Int.reduceBEq, Int.reduceBNe, BitVec.reduceBEq, BitVec.reduceBNe, BitVec.reduceOfInt, BitVec.reduceSetWidth, -List.reduceReplicate, List.length_drop]
    refine ⟨by omega, h', by omega, ?_⟩
    refine LoopOk.up 8 (fun k => ([(7, .int .i64 k), (5, .int .i64 n), (0, .int .u32 ((bits32 k (come32 r (b.take n), b.getD n 0)).1.toNat : Int)), (6, .int .u8 ((bits32 k (come32 r (b.take n), b.getD n 0)).2.toNat : Int)), (1, .ro b.length (bvs .u8 b))], [], 0)) (Le.sameT (by decide) (by simp only [-List.reduceReplicate, slotsSame, Eng.look, Nat.reduceEqDiff, bits32, reduceIte, reduceCtorEq, if_true, if_false, eq_self, true_and, and_true, Option.some.injEq, AV.int.injEq]; (try simp (disch := omega) only [wrap_i64]); (try simp [-List.reduceReplicate]); (try omega)) (by simp only [-List.reduceReplicate, memSame, Eng.look, Nat.reduceEqDiff, bits32, reduceIte, reduceCtorEq, if_true, if_false, eq_self, true_and, and_true, Option.some.injEq, AObj.cells.injEq, bvs_rep8, bvs_rep16, bvs_rep32, bvs_rep64, bvs_flat_rep, Nat.reduceMul, bvs_append, List.replicate_append_replicate, Nat.reduceAdd, bvs_inj]; try simp [-List.reduceReplicate]) (by simp [-List.reduceReplicate])) ?_
    intro k hk
    simp (maxSteps := 1000000) -implicitDefEqProofs only [go_sem, Nat.reduceBEq, Nat.reduceLT, Nat.reduceLeDiff, Nat.reduceEqDiff, Nat.reduceAdd, Nat.reduceMul, Nat.reduceSub, reduceIte, reduceCtorEq, Int.reduceLT, Int.reduceLE, Int.reduceToNat, Int.reduceAdd, Int.reduceSub, Int.reduceNeg, Int.reduceEq, Int.reduceNe, Int.reduceBEq, Int.reduceBNe, BitVec.reduceBEq, BitVec.reduceBNe, BitVec.reduceOfInt, BitVec.reduceSetWidth, -List.reduceReplicate]
    refine cndv_split (fun h => ?_) (fun h => ?_)
    · have hk' : (k : Int) < 8 := by simpa using h
      simp (maxSteps := 1000000) -implicitDefEqProofs only [go_sem, Nat.reduceBEq, Nat.reduceLT, Nat.reduceLeDiff, Nat.reduceEqDiff, Nat.reduceAdd, Nat.reduceMul, Nat.reduceSub, reduceIte, reduceCtorEq, Int.reduceLT, Int.reduceLE, Int.reduceToNat, Int.reduceAdd, Int.reduceSub, Int.reduceNeg, Int.reduceEq, Int.reduceNe, Int.reduceBEq, Int.reduceBNe, BitVec.reduceBEq, BitVec.reduceBNe, BitVec.reduceOfInt, BitVec.reduceSetWidth, -List.reduceReplicate]
      refine cndv_split (fun h => ?_) (fun h => ?_)
      · simp (maxSteps := 1000000) -implicitDefEqProofs only [go_sem, Nat.reduceBEq, Nat.reduceLT, Nat.reduceLeDiff, Nat.reduceEqDiff, Nat.reduceAdd, Nat.reduceMul, Nat.reduceSub, reduceIte, reduceCtorEq, Int.reduceLT, Int.reduceLE, Int.reduceToNat, Int.reduceAdd, Int.reduceSub, Int.reduceNeg, Int.reduceEq, Int.reduceNe, Int.reduceBEq, Int.reduceBNe, BitVec.reduceBEq, BitVec.reduceBNe, BitVec.reduceOfInt, BitVec.reduceSetWidth, -List.reduceReplicate]
        rw [beq_iff_eq] at h
        exact UpK_normal (by omega) (Le.sameT (by decide) (by simp only [-List.reduceReplicate, slotsSame, Eng.look, Nat.reduceEqDiff, bits32, bit32, if_pos h, reduceIte, reduceCtorEq, if_true, if_false, eq_self, true_and, and_true, Option.some.injEq, AV.int.injEq]; (try simp (disch := omega) only [wrap_i64]); (try simp [-List.reduceReplicate]); (try omega)) (by simp only [-List.reduceReplicate, memSame, Eng.look, Nat.reduceEqDiff, bits32, bit32, if_pos h, reduceIte, reduceCtorEq, if_true, if_false, eq_self, true_and, and_true, Option.some.injEq, AObj.cells.injEq, bvs_rep8, bvs_rep16, bvs_rep32, bvs_rep64, bvs_flat_rep, Nat.reduceMul, bvs_append, List.replicate_append_replicate, Nat.reduceAdd, bvs_inj]; try simp [-List.reduceReplicate]) (by simp [-List.reduceReplicate]))
      · simp (maxSteps := 1000000) -implicitDefEqProofs only [go_sem, Nat.reduceBEq, Nat.reduceLT, Nat.reduceLeDiff, Nat.reduceEqDiff, Nat.reduceAdd, Nat.reduceMul, Nat.reduceSub, reduceIte, reduceCtorEq, Int.reduceLT, Int.reduceLE, Int.reduceToNat, Int.reduceAdd, Int.reduceSub, Int.reduceNeg, Int.reduceEq, Int.reduceNe, Int.reduceBEq, Int.reduceBNe, BitVec.reduceBEq, BitVec.reduceBNe, BitVec.reduceOfInt, BitVec.reduceSetWidth, -List.reduceReplicate]
        rw [beq_eq_false_iff_ne] at h
        exact UpK_normal (by omega) (Le.sameT (by decide) (by simp only [-List.reduceReplicate, slotsSame, Eng.look, Nat.reduceEqDiff, bits32, bit32, if_neg h, reduceIte, reduceCtorEq, if_true, if_false, eq_self, true_and, and_true, Option.some.injEq, AV.int.injEq]; (try simp (disch := omega) only [wrap_i64]); (try simp [-List.reduceReplicate]); (try omega)) (by simp only [-List.reduceReplicate, memSame, Eng.look, Nat.reduceEqDiff, bits32, bit32, if_neg h, reduceIte, reduceCtorEq, if_true, if_false, eq_self, true_and, and_true, Option.some.injEq, AObj.cells.injEq, bvs_rep8, bvs_rep16, bvs_rep32, bvs_rep64, bvs_flat_rep, Nat.reduceMul, bvs_append, List.replicate_append_replicate, Nat.reduceAdd, bvs_inj]; try simp [-List.reduceReplicate]) (by simp [-List.reduceReplicate]))
    · have hk' : k = 8 := by simp at h; omega
      subst hk'
      simp (maxSteps := 1000000) -implicitDefEqProofs only [go_sem, Nat.reduceBEq, Nat.reduceLT, Nat.reduceLeDiff, Nat.reduceEqDiff, Nat.reduceAdd, Nat.reduceMul, Nat.reduceSub, reduceIte, reduceCtorEq, Int.reduceLT, Int.reduceLE, Int.reduceToNat, Int.reduceAdd, Int.reduceSub, Int.reduceNeg, Int.reduceEq, Int.reduceNe, Int.reduceBEq, Int.reduceBNe, BitVec.reduceBEq, BitVec.reduceBNe, BitVec.reduceOfInt, BitVec.reduceSetWidth, -List.reduceReplicate]
      refine UpK_normal h' (Le.sameT (by decide) (by simp only [-List.reduceReplicate, slotsSame, Eng.look, Nat.reduceEqDiff, come32, foldl_take_succ _ _ _ _ 0 h', reduceIte, reduceCtorEq, if_true, if_false, eq_self, true_and, and_true, Option.some.injEq, AV.int.injEq]; (try simp (disch := omega) only [wrap_i64]); (try simp [-List.reduceReplicate]); (try omega)) (by simp only [-List.reduceReplicate, memSame, Eng.look, Nat.reduceEqDiff, come32, foldl_take_succ _ _ _ _ 0 h', reduceIte, reduceCtorEq, if_true, if_false, eq_self, true_and, and_true, Option.some.injEq, AObj.cells.injEq, bvs_rep8, bvs_rep16, bvs_rep32, bvs_rep64, bvs_flat_rep, Nat.reduceMul, bvs_append, List.replicate_append_replicate, Nat.reduceAdd, bvs_inj]; try simp [-List.reduceReplicate]) (by simp [-List.reduceReplicate]))
  · have h' : n = b.length := by simp at h; omega
    subst h'
    simp (maxSteps := 1000000) -implicitDefEqProofs only [go_sem, Nat.reduceBEq, Nat.reduceLT, Nat.reduceLeDiff, Nat.reduceEqDiff, Nat.reduceAdd, Nat.reduceMul, Nat.reduceSub, reduceIte, reduceCtorEq, Int.reduceLT, Int.reduceLE, Int.reduceToNat, Int.reduceAdd, Int.reduceSub, Int.reduceNeg, Int.reduceEq, Int.reduceNe, Int.reduceBEq, Int.reduceBNe, BitVec.reduceBEq, BitVec.reduceBNe, BitVec.reduceOfInt, BitVec.reduceSetWidth, -List.reduceReplicate, List.take_length]
    exact Fin.flatv (fun _ => rfl) (fun f => rfl) ⟨rfl, rfl, rfl⟩
def ron32 (sum : BitVec 32) (b : List (BitVec 8)) : BitVec 32 := 4294967295#32 - come32 (4294967295#32 - sum) b
theorem rsumOk32 (b : List (BitVec 8)) (hb : b.length ≤ 4611686018427387904) : CallOk Try.prog 78 [.ro b.length (bvs .u8 b)] (fun _ => true) [] 0 fun v m nx => v = .int .u32 ((ron32 0 b).toNat : Int) ∧ m = [] ∧ nx = 0 := by
  refine fn_ok Try.func78 rfl (by show 1 ≤ 6; decide) ?_
  simp (maxSteps := 1000000) -implicitDefEqProofs only [go_sem, Nat.reduceBEq, Nat.reduceLT, Nat.reduceLeDiff, Nat.reduceEqDiff, Nat.reduceAdd, Nat.reduceMul, Nat.reduceSub, reduceIte, reduceCtorEq, Int.reduceLT, Int.reduceLE, Int.reduceToNat, Int.reduceAdd, Int.reduceSub, Int.reduceNeg, Int.reduceEq, Int.reduceNe, Int.reduceBEq, Int.reduceBNe, BitVec.reduceBEq, BitVec.reduceBNe, BitVec.reduceOfInt, BitVec.reduceSetWidth, -List.reduceReplicate, Try.results78, Try.ntmps78]
  refine (comeOk32 4294967295#32 b hb).flatv (by simp only [argsx, argx_int, argx_bool, argx_fn, argx_ro, argx_nils, eq_self, true_and, and_true, and_self]; try trivial) (fun _ => rfl) rfl ?_
  simp (maxSteps := 1000000) -implicitDefEqProofs only [go_sem, Nat.reduceBEq, Nat.reduceLT, Nat.reduceLeDiff, Nat.reduceEqDiff, Nat.reduceAdd, Nat.reduceMul, Nat.reduceSub, reduceIte, reduceCtorEq, Int.reduceLT, Int.reduceLE, Int.reduceToNat, Int.reduceAdd, Int.reduceSub, Int.reduceNeg, Int.reduceEq, Int.reduceNe, Int.reduceBEq, Int.reduceBNe, BitVec.reduceBEq, BitVec.reduceBNe, BitVec.reduceOfInt, BitVec.reduceSetWidth, -List.reduceReplicate]
  exact Fin.flatv (fun _ => rfl) (fun f => rfl) ⟨rfl, rfl, rfl⟩
theorem bit32_gb (p : BitVec 32 × BitVec 8) : bit32 p = gb poly32 p := by
  unfold bit32 gb
  simp only [odd (w := 32) (by decide), half (w := 32) (by decide), half (w := 8) (by decide)]
  rfl
theorem bits32_gbn : ∀ (k : Nat) (p : BitVec 32 × BitVec 8), bits32 k p = gbn poly32 k p
  | 0, p => rfl
  | k + 1, p => by rw [bits32, gbn, bits32_gbn k, bit32_gb]
theorem come32_eq (r : BitVec 32) (b : List (BitVec 8)) : come32 r b = b.foldl byte32 r := by
  unfold come32
  congr 1
  funext r x
  rw [bits32_gbn, gbn_eight (by decide), byte32]
theorem not32 (x : BitVec 32) : 4294967295#32 - x = ~~~ x := by
  rw [← BitVec.allOnes_sub_eq_not]
  rfl
theorem ron32_eq (sum : BitVec 32) (b : List (BitVec 8)) : ron32 sum b = on32 sum b := by
  unfold ron32 on32
  rw [come32_eq, not32, not32]
theorem on32_append (sum : BitVec 32) (a b : List (BitVec 8)) : on32 (on32 sum a) b = on32 sum (a ++ b) := by
  unfold on32
  rw [BitVec.not_not, List.foldl_append]
end Go.Proofs.Ytmdeoikpiiambaa
/-! Crc64 -/
namespace Go.Proofs.Ytmdeoikpiiambaa
open Go Go.Eng
def step64 (r : BitVec 64) : BitVec 64 := r >>> 1 ^^^ (14514072000185962306#64 &&& (0#64 - (r &&& 1#64)))
def steps64 : Nat → BitVec 64 → BitVec 64
  | 0, r => r
  | k + 1, r => step64 (steps64 k r)
def tab64 (n : Nat) : List (BitVec 64) := (List.range 256).map fun i => if i < n then steps64 8 (BitVec.ofNat 64 i) else 0
theorem tab64_0 : tab64 0 = List.replicate 256 0 := by simp [tab64, List.map_const']
theorem tab64_len (n : Nat) : (tab64 n).length = 256 := by simp [tab64]
theorem tab64_set (n : Nat) (h : n < 256) : (tab64 n).set n (steps64 8 (BitVec.ofNat 64 n)) = tab64 (n + 1) := by
  apply List.ext_getElem
  · simp [tab64]
  · intro i h1 h2
    simp only [tab64, List.getElem_set, List.getElem_map, List.getElem_range]
    split
    · rename_i e; subst e; simp
    · rename_i e
      have : i < n + 1 ↔ i < n := by omega
      simp only [this]
theorem tab64_take (n : Nat) : List.take 256 (tab64 n) = tab64 n := by rw [List.take_of_length_le]; simp [tab64]
theorem tab64_drop (n : Nat) : List.drop 256 (List.replicate 256 (0 : BitVec 64)) = [] := by simp
set_option maxHeartbeats 400000 in
theorem table64 : CallOk Try.prog 198 [] (fun _ => true) [] 0 fun v m nx => v = .agg (bvs .u64 (tab64 256)) ∧ m = [] ∧ nx = 0 := by
  refine fn_ok Try.func198 rfl (Nat.zero_le _) ?_
  simp (maxSteps := 1000000) -implicitDefEqProofs only [go_sem, Nat.reduceBEq, Nat.reduceLT, Nat.reduceLeDiff, Nat.reduceEqDiff, Nat.reduceAdd, Nat.reduceMul, Nat.reduceSub, reduceIte, reduceCtorEq, Int.reduceLT, Int.reduceLE, Int.reduceToNat, Int.reduceAdd, Int.reduceSub, Int.reduceNeg, Int.reduceEq, Int.reduceNe, Int.reduceBEq, Int.reduceBNe, BitVec.reduceBEq, BitVec.reduceBNe, BitVec.reduceOfInt, BitVec.reduceSetWidth, -List.reduceReplicate, Try.results198, Try.ntmps198]
  refine LoopOk.up 256 (fun n => ([(4, .int .i64 n), (1, .ptr 1 0), (0, .ptr 0 0)], [(1, .cells (bvs .u64 (tab64 n)) 257), (0, .cells (bvs .u64 (List.replicate 256 (0 : BitVec 64))) 257)], 2)) (Le.sameT (by decide) (by simp only [-List.reduceReplicate, slotsSame, Eng.look, Nat.reduceEqDiff, tab64_0, reduceIte, reduceCtorEq, if_true, if_false, eq_self, true_and, and_true, Option.some.injEq, AV.int.injEq]; (try simp (disch := omega) only [wrap_i64]); (try simp [-List.reduceReplicate]); (try omega)) (by simp only [-List.reduceReplicate, memSame, Eng.look, Nat.reduceEqDiff, tab64_0, reduceIte, reduceCtorEq, if_true, if_false, eq_self, true_and, and_true, Option.some.injEq, AObj.cells.injEq, bvs_rep8, bvs_rep16, bvs_rep32, bvs_rep64, bvs_flat_rep, Nat.reduceMul, bvs_append, List.replicate_append_replicate, Nat.reduceAdd, bvs_inj]; try simp [-List.reduceReplicate]) (by simp [-List.reduceReplicate])) ?_
  intro i hi
  simp (maxSteps := 1000000) -implicitDefEqProofs only [go_sem, Nat.reduceBEq, Nat.reduceLT, Nat.reduceLeDiff, Nat.reduceEqDiff, Nat.reduceAdd, Nat.reduceMul, Nat.reduceSub, reduceIte, reduceCtorEq, Int.reduceLT, Int.reduceLE, Int.reduceToNat, Int.reduceAdd, Int.reduceSub, Int.reduceNeg, Int.reduceEq, Int.reduceNe, Int.reduceBEq, Int.reduceBNe, BitVec.reduceBEq, BitVec.reduceBNe, BitVec.reduceOfInt, BitVec.reduceSetWidth, -List.reduceReplicate]
  refine cndv_split (fun h => ?_) (fun h => ?_)
  · have h' : (i : Int) < 256 := by simpa using h
    simp (maxSteps := 1000000) -implicitDefEqProofs only [go_sem, Nat.reduceBEq, Nat.reduceLT, Nat.reduceLeDiff, Nat.reduceEqDiff, Nat.reduceAdd, Nat.reduceMul, Nat.reduceSub, reduceIte, reduceCtorEq, Int.reduceLT, Int.reduceLE, Int.reduceToNat, Int.reduceAdd, Int.reduceSub, Int.reduceNeg, Int.reduceEq, Int.reduceNe, Int.reduceBEq, Int.reduceBNe, BitVec.reduceBEq, BitVec.reduceBNe, BitVec.reduceOfInt, BitVec.reduceSetWidth, -List.reduceReplicate]
    refine LoopOk.up 8 (fun n => ([(9, .int .i64 n), (3, .int .u64 ((steps64 n (BitVec.ofNat 64 i)).toNat : Int)), (2, .int .i64 i), (4, .int .i64 i), (1, .ptr 1 0), (0, .ptr 0 0)], [(1, .cells (bvs .u64 (tab64 i)) 257), (0, .cells (bvs .u64 (List.replicate 256 (0 : BitVec 64))) 257)], 2)) (Le.sameT (by decide) (by simp only [-List.reduceReplicate, slotsSame, Eng.look, Nat.reduceEqDiff, steps64, reduceIte, reduceCtorEq, if_true, if_false, eq_self, true_and, and_true, Option.some.injEq, AV.int.injEq]; (try simp (disch := omega) only [wrap_i64]); (try simp [-List.reduceReplicate]); (try omega)) (by simp only [-List.reduceReplicate, memSame, Eng.look, Nat.reduceEqDiff, steps64, reduceIte, reduceCtorEq, if_true, if_false, eq_self, true_and, and_true, Option.some.injEq, AObj.cells.injEq, bvs_rep8, bvs_rep16, bvs_rep32, bvs_rep64, bvs_flat_rep, Nat.reduceMul, bvs_append, List.replicate_append_replicate, Nat.reduceAdd, bvs_inj]; try simp [-List.reduceReplicate]) (by simp [-List.reduceReplicate])) ?_
    intro n hn
    simp (maxSteps := 1000000) -implicitDefEqProofs only [go_sem, Nat.reduceBEq, Nat.reduceLT, Nat.reduceLeDiff, Nat.reduceEqDiff, Nat.reduceAdd, Nat.reduceMul, Nat.reduceSub, reduceIte, reduceCtorEq, Int.reduceLT, Int.reduceLE, Int.reduceToNat, Int.reduceAdd, Int.reduceSub, Int.reduceNeg, Int.reduceEq, Int.reduceNe, Int.reduceBEq, Int.reduceBNe, BitVec.reduceBEq, BitVec.reduceBNe, BitVec.reduceOfInt, BitVec.reduceSetWidth, -List.reduceReplicate]
    refine cndv_split (fun h => ?_) (fun h => ?_)
    · have h' : (n : Int) < 8 := by simpa using h
      simp (maxSteps := 1000000) -implicitDefEqProofs only [go_sem, Nat.reduceBEq, Nat.reduceLT, Nat.reduceLeDiff, Nat.reduceEqDiff, Nat.reduceAdd, Nat.reduceMul, Nat.reduceSub, reduceIte, reduceCtorEq, Int.reduceLT, Int.reduceLE, Int.reduceToNat, Int.reduceAdd, Int.reduceSub, Int.reduceNeg, Int.reduceEq, Int.reduceNe, Int.reduceBEq, Int.reduceBNe, BitVec.reduceBEq, BitVec.reduceBNe, BitVec.reduceOfInt, BitVec.reduceSetWidth, -List.reduceReplicate]
      exact UpK_normal (by omega) (Le.sameT (by decide) (by simp only [-List.reduceReplicate, slotsSame, Eng.look, Nat.reduceEqDiff, steps64, step64, reduceIte, reduceCtorEq, if_true, if_false, eq_self, true_and, and_true, Option.some.injEq, AV.int.injEq]; (try simp (disch := omega) only [wrap_i64]); (try simp [-List.reduceReplicate]); (try omega)) (by simp only [-List.reduceReplicate, memSame, Eng.look, Nat.reduceEqDiff, steps64, step64, reduceIte, reduceCtorEq, if_true, if_false, eq_self, true_and, and_true, Option.some.injEq, AObj.cells.injEq, bvs_rep8, bvs_rep16, bvs_rep32, bvs_rep64, bvs_flat_rep, Nat.reduceMul, bvs_append, List.replicate_append_replicate, Nat.reduceAdd, bvs_inj]; try simp [-List.reduceReplicate]) (by simp [-List.reduceReplicate]))
    · have h' : n = 8 := by simp at h; omega
      subst h'
      simp (maxSteps := 1000000) -implicitDefEqProofs only [go_sem, Nat.reduceBEq, Nat.reduceLT, Nat.reduceLeDiff, Nat.reduceEqDiff, Nat.reduceAdd, Nat.reduceMul, Nat.reduceSub, reduceIte, reduceCtorEq, Int.reduceLT, Int.reduceLE, Int.reduceToNat, Int.reduceAdd, Int.reduceSub, Int.reduceNeg, Int.reduceEq, Int.reduceNe, Int.reduceBEq, Int.reduceBNe, BitVec.reduceBEq, BitVec.reduceBNe, BitVec.reduceOfInt, BitVec.reduceSetWidth, -List.reduceReplicate, tab64_len]
      refine ⟨by omega, by omega, UpK_normal (by omega) ?_⟩
      rw [tab64_set i (by omega)]
      exact (Le.sameT (by decide) (by simp only [-List.reduceReplicate, slotsSame, Eng.look, Nat.reduceEqDiff, reduceIte, reduceCtorEq, if_true, if_false, eq_self, true_and, and_true, Option.some.injEq, AV.int.injEq]; (try simp (disch := omega) only [wrap_i64]); (try simp [-List.reduceReplicate]); (try omega)) (by simp only [-List.reduceReplicate, memSame, Eng.look, Nat.reduceEqDiff, reduceIte, reduceCtorEq, if_true, if_false, eq_self, true_and, and_true, Option.some.injEq, AObj.cells.injEq, bvs_rep8, bvs_rep16, bvs_rep32, bvs_rep64, bvs_flat_rep, Nat.reduceMul, bvs_append, List.replicate_append_replicate, Nat.reduceAdd, bvs_inj]; try simp [-List.reduceReplicate]) (by simp [-List.reduceReplicate]))
  · have h' : i = 256 := by simp at h; omega
    subst h'
    simp (maxSteps := 1000000) -implicitDefEqProofs only [go_sem, Nat.reduceBEq, Nat.reduceLT, Nat.reduceLeDiff, Nat.reduceEqDiff, Nat.reduceAdd, Nat.reduceMul, Nat.reduceSub, reduceIte, reduceCtorEq, Int.reduceLT, Int.reduceLE, Int.reduceToNat, Int.reduceAdd, Int.reduceSub, Int.reduceNeg, Int.reduceEq, Int.reduceNe, Int.reduceBEq, Int.reduceBNe, BitVec.reduceBEq, BitVec.reduceBNe, BitVec.reduceOfInt, BitVec.reduceSetWidth, -List.reduceReplicate, tab64_len, tab64_take, List.take_zero]

    refine Fin.flatv (fun _ => rfl) (fun f => ?_) ⟨rfl, rfl, rfl⟩
    simp only [renA, bvs_ren]
end Go.Proofs.Ytmdeoikpiiambaa
/-! Crc64b -/
namespace Go.Proofs.Ytmdeoikpiiambaa
open Go Go.Eng
def byte64 (r : BitVec 64) (x : BitVec 8) : BitVec 64 := r >>> 8 ^^^ steps64 8 ((r.setWidth 8 ^^^ x).setWidth 64)
def on64 (sum : BitVec 64) (b : List (BitVec 8)) : BitVec 64 := ~~~ b.foldl byte64 (~~~ sum)
theorem tab64_get (x : BitVec 8) : (tab64 256).getD x.toNat 0 = steps64 8 (x.setWidth 64) := by
  have h : x.toNat < 256 := x.isLt
  rw [List.getD_eq_getElem?_getD, List.getElem?_eq_getElem (by rw [tab64_len]; exact h)]
  simp only [tab64, List.getElem_map, List.getElem_range, Option.getD_some, h, if_true, BitVec.ofNat_toNat]
set_option maxHeartbeats 400000 in
theorem onOk64 (sum : BitVec 64) (b : List (BitVec 8)) (hb : b.length ≤ 4611686018427387904) : CallOk Try.prog 175 [.int .u64 (sum.toNat : Int), .ro b.length (bvs .u8 b)] (fun _ => true) [] 0 fun v m nx => v = .int .u64 ((on64 sum b).toNat : Int) ∧ m = [] ∧ nx = 0 := by
  refine fn_ok Try.func175 rfl (by show 2 ≤ 30; decide) ?_
  simp (maxSteps := 1000000) -implicitDefEqProofs only [go_sem, Nat.reduceBEq, Nat.reduceLT, Nat.reduceLeDiff, Nat.reduceEqDiff, Nat.reduceAdd, Nat.reduceMul, Nat.reduceSub, reduceIte, reduceCtorEq, Int.reduceLT, Int.reduceLE, Int.reduceToNat, Int.reduceAdd, Int.reduceSub, Int.reduceNeg, Int.reduceEq, Int.reduceNe, Int.reduceBEq, Int.reduceBNe, BitVec.reduceBEq, BitVec.reduceBNe, BitVec.reduceOfInt, BitVec.reduceSetWidth, -List.reduceReplicate, Try.results175, Try.ntmps175]
  refine table64.flatv trivial (fun f => by simp only [renA, bvs_ren]) (by simp only [noRo, bvs_noRo]) ?_
  simp (maxSteps := 1000000) -implicitDefEqProofs only [go_sem, Nat.reduceBEq, Nat.reduceLT, Nat.reduceLeDiff, Nat.reduceEqDiff, Nat.reduceAdd, Nat.reduceMul, Nat.reduceSub, reduceIte, reduceCtorEq, Int.reduceLT, Int.reduceLE, Int.reduceToNat, Int.reduceAdd, Int.reduceSub, Int.reduceNeg, Int.reduceEq, Int.reduceNe, Int.reduceBEq, Int.reduceBNe, BitVec.reduceBEq, BitVec.reduceBNe, BitVec.reduceOfInt, BitVec.reduceSetWidth, -List.reduceReplicate, tab64_len]
  refine LoopOk.up b.length (fun n => ([(14, .int .i64 n), (13, .int .i64 b.length), (12, .ro b.length (bvs .u8 b)), (6, .int .u64 (((b.take n).foldl byte64 (~~~ sum)).toNat : Int)), (5, .ptr 0 0)], [(0, .cells (bvs .u64 (tab64 256)) 257)], 1)) (Le.sameT (by decide) (by simp only [-List.reduceReplicate, slotsSame, Eng.look, Nat.reduceEqDiff, List.take_zero, List.foldl_nil, reduceIte, reduceCtorEq, if_true, if_false, eq_self, true_and, and_true, Option.some.injEq, AV.int.injEq]; (try simp (disch := omega) only [wrap_i64]); (try simp [-List.reduceReplicate]); (try omega)) (by simp only [-List.reduceReplicate, memSame, Eng.look, Nat.reduceEqDiff, List.take_zero, List.foldl_nil, reduceIte, reduceCtorEq, if_true, if_false, eq_self, true_and, and_true, Option.some.injEq, AObj.cells.injEq, bvs_rep8, bvs_rep16, bvs_rep32, bvs_rep64, bvs_flat_rep, Nat.reduceMul, bvs_append, List.replicate_append_replicate, Nat.reduceAdd, bvs_inj]; try simp [-List.reduceReplicate]) (by simp [-List.reduceReplicate])) ?_
  intro n hn
  simp (maxSteps := 1000000) -implicitDefEqProofs only [go_sem, Nat.reduceBEq, Nat.reduceLT, Nat.reduceLeDiff, Nat.reduceEqDiff, Nat.reduceAdd, Nat.reduceMul, Nat.reduceSub, reduceIte, reduceCtorEq, Int.reduceLT, Int.reduceLE, Int.reduceToNat, Int.reduceAdd, Int.reduceSub, Int.reduceNeg, Int.reduceEq, Int.reduceNe, Int.reduceBEq, Int.reduceBNe, BitVec.reduceBEq, BitVec.reduceBNe, BitVec.reduceOfInt, BitVec.reduceSetWidth, -List.reduceReplicate]
  refine cndv_split (fun h => ?_) (fun h => ?_)
  · have h' : n < b.length := by simpa using h
    simp (maxSteps := 1000000) -implicitDefEqProofs only [go_sem, Nat.reduceBEq, Nat.reduceLT, Nat.reduceLeDiff, Nat.reduceEqDiff, Nat.reduceAdd, Nat.reduceMul, Nat.reduceSub, reduceIte, reduceCtorEq, Int.reduceLT, Int.reduceLE, Int.reduceToNat, Int.reduceAdd, Int.reduceSub, Int.reduceNeg, Int.reduceEq, Int.reduceNe, Int.reduceBEq, Int.reduceBNe, BitVec.reduceBEq, BitVec.reduceBNe, BitVec.reduceOfInt, BitVec.reduceSetWidth, -List.reduceReplicate, tab64_len, tab64_get, List.length_drop]
    refine ⟨by omega, h', by omega, UpK_normal h' (Le.sameT (by decide) (by simp only [-List.reduceReplicate, slotsSame, Eng.look, Nat.reduceEqDiff, foldl_take_succ _ _ _ _ 0 h', byte64, reduceIte, reduceCtorEq, if_true, if_false, eq_self, true_and, and_true, Option.some.injEq, AV.int.injEq]; (try simp (disch := omega) only [wrap_i64]); (try simp [-List.reduceReplicate]); (try omega)) (by simp only [-List.reduceReplicate, memSame, Eng.look, Nat.reduceEqDiff, foldl_take_succ _ _ _ _ 0 h', byte64, reduceIte, reduceCtorEq, if_true, if_false, eq_self, true_and, and_true, Option.some.injEq, AObj.cells.injEq, bvs_rep8, bvs_rep16, bvs_rep32, bvs_rep64, bvs_flat_rep, Nat.reduceMul, bvs_append, List.replicate_append_replicate, Nat.reduceAdd, bvs_inj]; try simp [-List.reduceReplicate]) (by simp [-List.reduceReplicate]))⟩
  · have h' : n = b.length := by simp at h; omega
    subst h'
    simp (maxSteps := 1000000) -implicitDefEqProofs only [go_sem, Nat.reduceBEq, Nat.reduceLT, Nat.reduceLeDiff, Nat.reduceEqDiff, Nat.reduceAdd, Nat.reduceMul, Nat.reduceSub, reduceIte, reduceCtorEq, Int.reduceLT, Int.reduceLE, Int.reduceToNat, Int.reduceAdd, Int.reduceSub, Int.reduceNeg, Int.reduceEq, Int.reduceNe, Int.reduceBEq, Int.reduceBNe, BitVec.reduceBEq, BitVec.reduceBNe, BitVec.reduceOfInt, BitVec.reduceSetWidth, -List.reduceReplicate, List.take_length]
    exact Fin.flatv (fun _ => rfl) (fun f => rfl) ⟨rfl, rfl, rfl⟩
end Go.Proofs.Ytmdeoikpiiambaa
/-! Crc64c -/
namespace Go.Proofs.Ytmdeoikpiiambaa
open Go Go.Eng
theorem sumOk64 (b : List (BitVec 8)) (hb : b.length ≤ 4611686018427387904) : CallOk Try.prog 132 [.ro b.length (bvs .u8 b)] (fun _ => true) [] 0 fun v m nx => v = .int .u64 ((on64 0 b).toNat : Int) ∧ m = [] ∧ nx = 0 := by
  refine fn_ok Try.func132 rfl (by show 1 ≤ 5; decide) ?_
  simp (maxSteps := 1000000) -implicitDefEqProofs only [go_sem, Nat.reduceBEq, Nat.reduceLT, Nat.reduceLeDiff, Nat.reduceEqDiff, Nat.reduceAdd, Nat.reduceMul, Nat.reduceSub, reduceIte, reduceCtorEq, Int.reduceLT, Int.reduceLE, Int.reduceToNat, Int.reduceAdd, Int.reduceSub, Int.reduceNeg, Int.reduceEq, Int.reduceNe, Int.reduceBEq, Int.reduceBNe, BitVec.reduceBEq, BitVec.reduceBNe, BitVec.reduceOfInt, BitVec.reduceSetWidth, -List.reduceReplicate, Try.results132, Try.ntmps132]
  refine (onOk64 0 b hb).flatv (by simp only [argsx, argx_int, argx_bool, argx_fn, argx_ro, argx_nils, eq_self, true_and, and_true, and_self]; try trivial) (fun _ => rfl) rfl ?_
  simp (maxSteps := 1000000) -implicitDefEqProofs only [go_sem, Nat.reduceBEq, Nat.reduceLT, Nat.reduceLeDiff, Nat.reduceEqDiff, Nat.reduceAdd, Nat.reduceMul, Nat.reduceSub, reduceIte, reduceCtorEq, Int.reduceLT, Int.reduceLE, Int.reduceToNat, Int.reduceAdd, Int.reduceSub, Int.reduceNeg, Int.reduceEq, Int.reduceNe, Int.reduceBEq, Int.reduceBNe, BitVec.reduceBEq, BitVec.reduceBNe, BitVec.reduceOfInt, BitVec.reduceSetWidth, -List.reduceReplicate]
  exact Fin.flatv (fun _ => rfl) (fun f => rfl) ⟨rfl, rfl, rfl⟩
/-- one bit of the document's register -/
def bit64 (p : BitVec 64 × BitVec 8) : BitVec 64 × BitVec 8 := (if (p.1 ^^^ p.2.setWidth 64) % 2#64 = 1#64 then p.1 / 2#64 ^^^ 14514072000185962306#64 else p.1 / 2#64, p.2 / 2#8)
def bits64 : Nat → BitVec 64 × BitVec 8 → BitVec 64 × BitVec 8
  | 0, p => p
  | k + 1, p => bit64 (bits64 k p)
def come64 (r : BitVec 64) (b : List (BitVec 8)) : BitVec 64 := b.foldl (fun r x => (bits64 8 (r, x)).1) r
set_option maxHeartbeats 400000 in
theorem comeOk64 (r : BitVec 64) (b : List (BitVec 8)) (hb : b.length ≤ 4611686018427387904) : CallOk Try.prog 179 [.int .u64 (r.toNat : Int), .ro b.length (bvs .u8 b)] (fun _ => true) [] 0 fun v m nx => v = .int .u64 ((come64 r b).toNat : Int) ∧ m = [] ∧ nx = 0 := by
  refine fn_ok Try.func179 rfl (by show 2 ≤ 37; decide) ?_
  simp (maxSteps := 1000000) -implicitDefEqProofs only [go_sem, Nat.reduceBEq, Nat.reduceLT, Nat.reduceLeDiff, Nat.reduceEqDiff, Nat.reduceAdd, Nat.reduceMul, Nat.reduceSub, reduceIte, reduceCtorEq, Int.reduceLT, Int.reduceLE, Int.reduceToNat, Int.reduceAdd, Int.reduceSub, Int.reduceNeg, Int.reduceEq, Int.reduceNe, Int.reduceBEq, Int.reduceBNe, BitVec.reduceBEq, BitVec.reduceBNe, BitVec.reduceOfInt, BitVec.reduceSetWidth, -List.reduceReplicate, Try.results179, Try.ntmps179]
  refine LoopOk.up b.length (fun n => ([(5, .int .i64 n), (0, .int .u64 ((come64 r (b.take n)).toNat : Int)), (1, .ro b.length (bvs .u8 b))], [], 0)) (Le.sameT (by decide) (by simp only [-List.reduceReplicate, slotsSame, Eng.look, Nat.reduceEqDiff, List.take_zero, come64, List.foldl_nil, reduceIte, reduceCtorEq, if_true, if_false, eq_self, true_and, and_true, Option.some.injEq, AV.int.injEq]; (try simp (disch := omega) only [wrap_i64]); (try simp [-List.reduceReplicate]); (try omega)) (by simp only [-List.reduceReplicate, memSame, Eng.look, Nat.reduceEqDiff, List.take_zero, come64, List.foldl_nil, reduceIte, reduceCtorEq, if_true, if_false, eq_self, true_and, and_true, Option.some.injEq, AObj.cells.injEq, bvs_rep8, bvs_rep16, bvs_rep32, bvs_rep64, bvs_flat_rep, Nat.reduceMul, bvs_append, List.replicate_append_replicate, Nat.reduceAdd, bvs_inj]; try simp [-List.reduceReplicate]) (by simp [-List.reduceReplicate])) ?_
  intro n hn
  simp (maxSteps := 1000000) -implicitDefEqProofs only [go_sem, Nat.reduceBEq, Nat.reduceLT, Nat.reduceLeDiff, Nat.reduceEqDiff, Nat.reduceAdd, Nat.reduceMul, Nat.reduceSub, reduceIte, reduceCtorEq, Int.reduceLT, Int.reduceLE, Int.reduceToNat, Int.reduceAdd, Int.reduceSub, Int.reduceNeg, Int.reduceEq, Int.reduceNe, Int.reduceBEq, Int.reduceBNe, BitVec.reduceBEq, BitVec.reduceBNe, BitVec.reduceOfInt, BitVec.reduceSetWidth, -List.reduceReplicate]
  refine cndv_split (fun h => ?_) (fun h => ?_)
  · have h' : n < b.length := by simpa using h
    simp (maxSteps := 1000000) -implicitDefEqProofs only [go_sem, Nat.reduceBEq, Nat.reduceLT, Nat.reduceLeDiff, Nat.reduceEqDiff, Nat.reduceAdd, Nat.reduceMul, Nat.reduceSub, reduceIte, reduceCtorEq, Int.reduceLT, Int.reduceLE, Int.reduceToNat, Int.reduceAdd, Int.reduceSub, Int.reduceNeg, Int.reduceEq, Int.reduceNe, Int.reduceBEq, Int.reduceBNe, BitVec.reduceBEq, BitVec.reduceBNe, BitVec.reduceOfInt, BitVec.reduceSetWidth, -List.reduceReplicate, List.length_drop]
    refine ⟨by omega, h', by omega, ?_⟩
    refine LoopOk.up 8 (fun k => ([(7, .int .i64 k), (5, .int .i64 n), (0, .int .u64 ((bits64 k (come64 r (b.take n), b.getD n 0)).1.toNat : Int)), (6, .int .u8 ((bits64 k (come64 r (b.take n), b.getD n 0)).2.toNat : Int)), (1, .ro b.length (bvs .u8 b))], [], 0)) (Le.sameT (by decide) (by simp only [-List.reduceReplicate, slotsSame, Eng.look, Nat.reduceEqDiff, bits64, reduceIte, reduceCtorEq, if_true, if_false, eq_self, true_and, and_true, Option.some.injEq, AV.int.injEq]; (try simp (disch := omega) only [wrap_i64]); (try simp [-List.reduceReplicate]); (try omega)) (by simp only [-List.reduceReplicate, memSame, Eng.look, Nat.reduceEqDiff, bits64, reduceIte, reduceCtorEq, if_true, if_false, eq_self, true_and, and_true, Option.some.injEq, AObj.cells.injEq, bvs_rep8, bvs_rep16, bvs_rep32, bvs_rep64, bvs_flat_rep, Nat.reduceMul, bvs_append, List.replicate_append_replicate, Nat.reduceAdd, bvs_inj]; try simp [-List.reduceReplicate]) (by simp [-List.reduceReplicate])) ?_
    intro k hk
    simp (maxSteps := 1000000) -implicitDefEqProofs only [go_sem, Nat.reduceBEq, Nat.reduceLT, Nat.reduceLeDiff, Nat.reduceEqDiff, Nat.reduceAdd, Nat.reduceMul, Nat.reduceSub, reduceIte, reduceCtorEq, Int.reduceLT, Int.reduceLE, Int.reduceToNat, Int.reduceAdd, Int.reduceSub, Int.reduceNeg, Int.reduceEq, Int.reduceNe, Int.reduceBEq, Int.reduceBNe, BitVec.reduceBEq, BitVec.reduceBNe, BitVec.reduceOfInt, BitVec.reduceSetWidth, -List.reduceReplicate]
    refine cndv_split (fun h => ?_) (fun h => ?_)
    · have hk' : (k : Int) < 8 := by simpa using h
      simp (maxSteps := 1000000) -implicitDefEqProofs only [go_sem, Nat.reduceBEq, Nat.reduceLT, Nat.reduceLeDiff, Nat.reduceEqDiff, Nat.reduceAdd, Nat.reduceMul, Nat.reduceSub, reduceIte, reduceCtorEq, Int.reduceLT, Int.reduceLE, Int.reduceToNat, Int.reduceAdd, Int.reduceSub, Int.reduceNeg, Int.reduceEq, Int.reduceNe, Int.reduceBEq, Int.reduceBNe, BitVec.reduceBEq, BitVec.reduceBNe, BitVec.reduceOfInt, BitVec.reduceSetWidth, -List.reduceReplicate]
      refine cndv_split (fun h => ?_) (fun h => ?_)
      · simp (maxSteps := 1000000) -implicitDefEqProofs only [go_sem, Nat.reduceBEq, Nat.reduceLT, Nat.reduceLeDiff, Nat.reduceEqDiff, Nat.reduceAdd, Nat.reduceMul, Nat.reduceSub, reduceIte, reduceCtorEq, Int.reduceLT, Int.reduceLE, Int.reduceToNat, Int.reduceAdd, Int.reduceSub, Int.reduceNeg, Int.reduceEq, Int.reduceNe, Int.reduceBEq, Int.reduceBNe, BitVec.reduceBEq, BitVec.reduceBNe, BitVec.reduceOfInt, BitVec.reduceSetWidth, -List.reduceReplicate]
        rw [beq_iff_eq] at h
        exact UpK_normal (by omega) (Le.sameT (by decide) (by simp only [-List.reduceReplicate, slotsSame, Eng.look, Nat.reduceEqDiff, bits64, bit64, if_pos h, reduceIte, reduceCtorEq, if_true, if_false, eq_self, true_and, and_true, Option.some.injEq, AV.int.injEq]; (try simp (disch := omega) only [wrap_i64]); (try simp [-List.reduceReplicate]); (try omega)) (by simp only [-List.reduceReplicate, memSame, Eng.look, Nat.reduceEqDiff, bits64, bit64, if_pos h, reduceIte, reduceCtorEq, if_true, if_false, eq_self, true_and, and_true, Option.some.injEq, AObj.cells.injEq, bvs_rep8, bvs_rep16, bvs_rep32, bvs_rep64, bvs_flat_rep, Nat.reduceMul, bvs_append, List.replicate_append_replicate, Nat.reduceAdd, bvs_inj]; try simp [-List.reduceReplicate]) (by simp [-List.reduceReplicate]))
      · simp (maxSteps := 1000000) -implicitDefEqProofs only [go_sem, Nat.reduceBEq, Nat.reduceLT, Nat.reduceLeDiff, Nat.reduceEqDiff, Nat.reduceAdd, Nat.reduceMul, Nat.reduceSub, reduceIte, reduceCtorEq, Int.reduceLT, Int.reduceLE, Int.reduceToNat, Int.reduceAdd, Int.reduceSub, Int.reduceNeg, Int.reduceEq, Int.reduceNe, Int.reduceBEq, Int.reduceBNe, BitVec.reduceBEq, BitVec.reduceBNe, BitVec.reduceOfInt, BitVec.reduceSetWidth, -List.reduceReplicate]
        rw [beq_eq_false_iff_ne] at h
        exact UpK_normal (by omega) (Le.sameT (by decide) (by simp only [-List.reduceReplicate, slotsSame, Eng.look, Nat.reduceEqDiff, bits64, bit64, if_neg h, reduceIte, reduceCtorEq, if_true, if_false, eq_self, true_and, and_true, Option.some.injEq, AV.int.injEq]; (try simp (disch := omega) only [wrap_i64]); (try simp [-List.reduceReplicate]); (try omega)) (by simp only [-List.reduceReplicate, memSame, Eng.look, Nat.reduceEqDiff, bits64, bit64, if_neg h, reduceIte, reduceCtorEq, if_true, if_false, eq_self, true_and, and_true, Option.some.injEq, AObj.cells.injEq, bvs_rep8, bvs_rep16, bvs_rep32, bvs_rep64, bvs_flat_rep, Nat.reduceMul, bvs_append, List.replicate_append_replicate, Nat.reduceAdd, bvs_inj]; try simp [-List.reduceReplicate]) (by simp [-List.reduceReplicate]))
    · have hk' : k = 8 := by simp at h; omega
      subst hk'
      simp (maxSteps := 1000000) -implicitDefEqProofs only [go_sem, Nat.reduceBEq, Nat.reduceLT, Nat.reduceLeDiff, Nat.reduceEqDiff, Nat.reduceAdd, Nat.reduceMul, Nat.reduceSub, reduceIte, reduceCtorEq, Int.reduceLT, Int.reduceLE, Int.reduceToNat, Int.reduceAdd, Int.reduceSub, Int.reduceNeg, Int.reduceEq, Int.reduceNe, Int.reduceBEq, Int.reduceBNe, BitVec.reduceBEq, BitVec.reduceBNe, BitVec.reduceOfInt, BitVec.reduceSetWidth, -List.reduceReplicate]
      refine UpK_normal h' (Le.sameT (by decide) (by simp only [-List.reduceReplicate, slotsSame, Eng.look, Nat.reduceEqDiff, come64, foldl_take_succ _ _ _ _ 0 h', reduceIte, reduceCtorEq, if_true, if_false, eq_self, true_and, and_true, Option.some.injEq, AV.int.injEq]; (try simp (disch := omega) only [wrap_i64]); (try simp [-List.reduceReplicate]); (try omega)) (by simp only [-List.reduceReplicate, memSame, Eng.look, Nat.reduceEqDiff, come64, foldl_take_succ _ _ _ _ 0 h', reduceIte, reduceCtorEq, if_true, if_false, eq_self, true_and, and_true, Option.some.injEq, AObj.cells.injEq, bvs_rep8, bvs_rep16, bvs_rep32, bvs_rep64, bvs_flat_rep, Nat.reduceMul, bvs_append, List.replicate_append_replicate, Nat.reduceAdd, bvs_inj]; try simp [-List.reduceReplicate]) (by simp [-List.reduceReplicate]))
  · have h' : n = b.length := by simp at h; omega
    subst h'
    simp (maxSteps := 1000000) -implicitDefEqProofs only [go_sem, Nat.reduceBEq, Nat.reduceLT, Nat.reduceLeDiff, Nat.reduceEqDiff, Nat.reduceAdd, Nat.reduceMul, Nat.reduceSub, reduceIte, reduceCtorEq, Int.reduceLT, Int.reduceLE, Int.reduceToNat, Int.reduceAdd, Int.reduceSub, Int.reduceNeg, Int.reduceEq, Int.reduceNe, Int.reduceBEq, Int.reduceBNe, BitVec.reduceBEq, BitVec.reduceBNe, BitVec.reduceOfInt, BitVec.reduceSetWidth, -List.reduceReplicate, List.take_length]
    exact Fin.flatv (fun _ => rfl) (fun f => rfl) ⟨rfl, rfl, rfl⟩
def ron64 (sum : BitVec 64) (b : List (BitVec 8)) : BitVec 64 := 18446744073709551615#64 - come64 (18446744073709551615#64 - sum) b
theorem ronOk64 (sum : BitVec 64) (b : List (BitVec 8)) (hb : b.length ≤ 4611686018427387904) : CallOk Try.prog 136 [.int .u64 (sum.toNat : Int), .ro b.length (bvs .u8 b)] (fun _ => true) [] 0 fun v m nx => v = .int .u64 ((ron64 sum b).toNat : Int) ∧ m = [] ∧ nx = 0 := by
  refine fn_ok Try.func136 rfl (by show 2 ≤ 10; decide) ?_
  simp (maxSteps := 1000000) -implicitDefEqProofs only [go_sem, Nat.reduceBEq, Nat.reduceLT, Nat.reduceLeDiff, Nat.reduceEqDiff, Nat.reduceAdd, Nat.reduceMul, Nat.reduceSub, reduceIte, reduceCtorEq, Int.reduceLT, Int.reduceLE, Int.reduceToNat, Int.reduceAdd, Int.reduceSub, Int.reduceNeg, Int.reduceEq, Int.reduceNe, Int.reduceBEq, Int.reduceBNe, BitVec.reduceBEq, BitVec.reduceBNe, BitVec.reduceOfInt, BitVec.reduceSetWidth, -List.reduceReplicate, Try.results136, Try.ntmps136]
  refine (comeOk64 _ b hb).flatv (by simp only [argsx, argx_int, argx_bool, argx_fn, argx_ro, argx_nils, eq_self, true_and, and_true, and_self]; try trivial) (fun _ => rfl) rfl ?_
  simp (maxSteps := 1000000) -implicitDefEqProofs only [go_sem, Nat.reduceBEq, Nat.reduceLT, Nat.reduceLeDiff, Nat.reduceEqDiff, Nat.reduceAdd, Nat.reduceMul, Nat.reduceSub, reduceIte, reduceCtorEq, Int.reduceLT, Int.reduceLE, Int.reduceToNat, Int.reduceAdd, Int.reduceSub, Int.reduceNeg, Int.reduceEq, Int.reduceNe, Int.reduceBEq, Int.reduceBNe, BitVec.reduceBEq, BitVec.reduceBNe, BitVec.reduceOfInt, BitVec.reduceSetWidth, -List.reduceReplicate]
  exact Fin.flatv (fun _ => rfl) (fun f => rfl) ⟨rfl, rfl, rfl⟩
theorem rsumOk64 (b : List (BitVec 8)) (hb : b.length ≤ 4611686018427387904) : CallOk Try.prog 79 [.ro b.length (bvs .u8 b)] (fun _ => true) [] 0 fun v m nx => v = .int .u64 ((ron64 0 b).toNat : Int) ∧ m = [] ∧ nx = 0 := by
  refine fn_ok Try.func79 rfl (by show 1 ≤ 5; decide) ?_
  simp (maxSteps := 1000000) -implicitDefEqProofs only [go_sem, Nat.reduceBEq, Nat.reduceLT, Nat.reduceLeDiff, Nat.reduceEqDiff, Nat.reduceAdd, Nat.reduceMul, Nat.reduceSub, reduceIte, reduceCtorEq, Int.reduceLT, Int.reduceLE, Int.reduceToNat, Int.reduceAdd, Int.reduceSub, Int.reduceNeg, Int.reduceEq, Int.reduceNe, Int.reduceBEq, Int.reduceBNe, BitVec.reduceBEq, BitVec.reduceBNe, BitVec.reduceOfInt, BitVec.reduceSetWidth, -List.reduceReplicate, Try.results79, Try.ntmps79]
  refine (ronOk64 0 b hb).flatv (by simp only [argsx, argx_int, argx_bool, argx_fn, argx_ro, argx_nils, eq_self, true_and, and_true, and_self]; try trivial) (fun _ => rfl) rfl ?_
  simp (maxSteps := 1000000) -implicitDefEqProofs only [go_sem, Nat.reduceBEq, Nat.reduceLT, Nat.reduceLeDiff, Nat.reduceEqDiff, Nat.reduceAdd, Nat.reduceMul, Nat.reduceSub, reduceIte, reduceCtorEq, Int.reduceLT, Int.reduceLE, Int.reduceToNat, Int.reduceAdd, Int.reduceSub, Int.reduceNeg, Int.reduceEq, Int.reduceNe, Int.reduceBEq, Int.reduceBNe, BitVec.reduceBEq, BitVec.reduceBNe, BitVec.reduceOfInt, BitVec.reduceSetWidth, -List.reduceReplicate]
  exact Fin.flatv (fun _ => rfl) (fun f => rfl) ⟨rfl, rfl, rfl⟩
end Go.Proofs.Ytmdeoikpiiambaa
/-! Crc64d -/
namespace Go.Proofs.Ytmdeoikpiiambaa
open Go Go.Eng
def poly64 : BitVec 64 := 14514072000185962306#64
theorem step64_gs (r : BitVec 64) : step64 r = gs poly64 r := by
  unfold step64 gs
  rw [low_and (by decide)]
  rfl
theorem steps64_gn : ∀ (k : Nat) (r : BitVec 64), steps64 k r = gn poly64 k r
  | 0, r => rfl
  | k + 1, r => by rw [steps64, gn, steps64_gn k, step64_gs]
theorem bit64_gb (p : BitVec 64 × BitVec 8) : bit64 p = gb poly64 p := by
  unfold bit64 gb
  simp only [odd (w := 64) (by decide), half (w := 64) (by decide), half (w := 8) (by decide)]
  rfl
theorem bits64_gbn : ∀ (k : Nat) (p : BitVec 64 × BitVec 8), bits64 k p = gbn poly64 k p
  | 0, p => rfl
  | k + 1, p => by rw [bits64, gbn, bits64_gbn k, bit64_gb]
theorem byte64_eq (r : BitVec 64) (x : BitVec 8) : (bits64 8 (r, x)).1 = byte64 r x := by
  rw [bits64_gbn, gbn_eight (by decide), gn_byte (by decide), byte64, steps64_gn]
theorem come64_eq (r : BitVec 64) (b : List (BitVec 8)) : come64 r b = b.foldl byte64 r := by
  unfold come64
  congr 1
  funext r x
  exact byte64_eq r x
theorem not64 (x : BitVec 64) : 18446744073709551615#64 - x = ~~~ x := by
  rw [← BitVec.allOnes_sub_eq_not]
  rfl
theorem ron64_eq (sum : BitVec 64) (b : List (BitVec 8)) : ron64 sum b = on64 sum b := by
  unfold ron64 on64
  rw [come64_eq, not64, not64]
theorem on64_append (sum : BitVec 64) (a b : List (BitVec 8)) : on64 (on64 sum a) b = on64 sum (a ++ b) := by
  unfold on64
  rw [BitVec.not_not, List.foldl_append]
end Go.Proofs.Ytmdeoikpiiambaa
end
section
/- SHA-256: a block, bytes that come, the sum: the program. -/
set_option linter.unusedVariables false
set_option linter.unusedSimpArgs false
set_option maxRecDepth 100000
/-! Sha -/
namespace Go.Proofs.Ytmdeoikpiiambaa
open Go Go.Eng
def rotR (x : BitVec 32) (n : Nat) : BitVec 32 := (x <<< (32 - n)) ||| (x >>> n)
def r1 (x : BitVec 32) : BitVec 32 := x / 2#32 + (x % 2#32) * 2147483648#32
def rotN (x : BitVec 32) : Nat → BitVec 32
  | 0 => x
  | n + 1 => r1 (rotN x n)
theorem rotlOk (x : BitVec 32) (n : Nat) (h1 : 1 ≤ n) (h2 : n ≤ 31) : CallOk Try.prog 216 [.int .u32 (x.toNat : Int), .int .i64 (-(n : Int))] (fun _ => true) [] 0 fun v m nx => v = .int .u32 ((rotR x n).toNat : Int) ∧ m = [] ∧ nx = 0 := by
  refine fn_ok Try.func216 rfl (by show 2 ≤ _; decide) ?_
  have e : -BitVec.ofNat 64 n &&& 31#64 = BitVec.ofNat 64 (32 - n) := by
    have : ∀ k : Fin 32, 1 ≤ k.val → -BitVec.ofNat 64 k.val &&& 31#64 = BitVec.ofNat 64 (32 - k.val) := by decide
    exact this ⟨n, by omega⟩ h1
  have e1 : (BitVec.ofNat 64 (32 - n)).toNat = 32 - n := by rw [BitVec.toNat_ofNat]; omega
  have e2 : (32#64 - BitVec.ofNat 64 (32 - n)).toNat = n := by rw [BitVec.toNat_sub, e1, show (32#64).toNat = 32 from rfl]; omega
  simp (maxSteps := 1000000) -implicitDefEqProofs only [go_sem, Nat.reduceBEq, Nat.reduceLT, Nat.reduceLeDiff, Nat.reduceEqDiff, Nat.reduceAdd, Nat.reduceMul, Nat.reduceSub, reduceIte, reduceCtorEq, Int.reduceLT, Int.reduceLE, Int.reduceToNat, Int.reduceAdd, Int.reduceSub, Int.reduceNeg, Int.reduceEq, Int.reduceNe, Int.reduceBEq, Int.reduceBNe, BitVec.reduceBEq, BitVec.reduceBNe, BitVec.reduceOfInt, BitVec.reduceSetWidth, -List.reduceReplicate, Try.results216, Try.ntmps216]
  refine Fin.flatv (fun _ => rfl) (fun f => rfl) ⟨?_, rfl, rfl⟩
  rw [e, e1, e2]
  rfl
theorem rotOk (x : BitVec 32) (n : Nat) (h1 : 1 ≤ n) (h2 : n ≤ 31) : CallOk Try.prog 208 [.int .u32 (x.toNat : Int), .int .i64 (n : Int)] (fun _ => true) [] 0 fun v m nx => v = .int .u32 ((rotR x n).toNat : Int) ∧ m = [] ∧ nx = 0 := by
  refine fn_ok Try.func208 rfl (by show 2 ≤ _; decide) ?_
  have w1 : IntKind.i64.wrap (0 - (n : Int)) = -(n : Int) := by rw [wrap_i64] <;> omega
  simp (maxSteps := 1000000) -implicitDefEqProofs only [go_sem, Nat.reduceBEq, Nat.reduceLT, Nat.reduceLeDiff, Nat.reduceEqDiff, Nat.reduceAdd, Nat.reduceMul, Nat.reduceSub, reduceIte, reduceCtorEq, Int.reduceLT, Int.reduceLE, Int.reduceToNat, Int.reduceAdd, Int.reduceSub, Int.reduceNeg, Int.reduceEq, Int.reduceNe, Int.reduceBEq, Int.reduceBNe, BitVec.reduceBEq, BitVec.reduceBNe, BitVec.reduceOfInt, BitVec.reduceSetWidth, -List.reduceReplicate, Try.results208, Try.ntmps208, w1]
  refine (rotlOk x n h1 h2).flatv (by simp only [argsx, argx_int, argx_bool, argx_fn, argx_ro, argx_nils, eq_self, true_and, and_true, and_self]; try trivial) (fun _ => rfl) rfl ?_
  simp (maxSteps := 1000000) -implicitDefEqProofs only [go_sem, Nat.reduceBEq, Nat.reduceLT, Nat.reduceLeDiff, Nat.reduceEqDiff, Nat.reduceAdd, Nat.reduceMul, Nat.reduceSub, reduceIte, reduceCtorEq, Int.reduceLT, Int.reduceLE, Int.reduceToNat, Int.reduceAdd, Int.reduceSub, Int.reduceNeg, Int.reduceEq, Int.reduceNe, Int.reduceBEq, Int.reduceBNe, BitVec.reduceBEq, BitVec.reduceBNe, BitVec.reduceOfInt, BitVec.reduceSetWidth, -List.reduceReplicate]
  exact Fin.flatv (fun _ => rfl) (fun f => rfl) ⟨rfl, rfl, rfl⟩
theorem rrotOk (x : BitVec 32) (n : Nat) (h2 : n ≤ 31) : CallOk Try.prog 140 [.int .u32 (x.toNat : Int), .int .i64 (n : Int)] (fun _ => true) [] 0 fun v m nx => v = .int .u32 ((rotN x n).toNat : Int) ∧ m = [] ∧ nx = 0 := by
  refine fn_ok Try.func140 rfl (by show 2 ≤ _; decide) ?_
  simp (maxSteps := 1000000) -implicitDefEqProofs only [go_sem, Nat.reduceBEq, Nat.reduceLT, Nat.reduceLeDiff, Nat.reduceEqDiff, Nat.reduceAdd, Nat.reduceMul, Nat.reduceSub, reduceIte, reduceCtorEq, Int.reduceLT, Int.reduceLE, Int.reduceToNat, Int.reduceAdd, Int.reduceSub, Int.reduceNeg, Int.reduceEq, Int.reduceNe, Int.reduceBEq, Int.reduceBNe, BitVec.reduceBEq, BitVec.reduceBNe, BitVec.reduceOfInt, BitVec.reduceSetWidth, -List.reduceReplicate, Try.results140, Try.ntmps140]
  refine LoopOk.up n (fun i => ([(5, .int .i64 i), (0, .int .u32 ((rotN x i).toNat : Int)), (1, .int .i64 n)], [], 0)) (Le.sameT (by decide) (by simp only [-List.reduceReplicate, slotsSame, Eng.look, Nat.reduceEqDiff, rotN, reduceIte, reduceCtorEq, if_true, if_false, eq_self, true_and, and_true, Option.some.injEq, AV.int.injEq]; (try simp (disch := omega) only [wrap_i64]); (try simp [-List.reduceReplicate]); (try omega)) (by simp only [-List.reduceReplicate, memSame, Eng.look, Nat.reduceEqDiff, rotN, reduceIte, reduceCtorEq, if_true, if_false, eq_self, true_and, and_true, Option.some.injEq, AObj.cells.injEq, bvs_rep8, bvs_rep16, bvs_rep32, bvs_rep64, bvs_flat_rep, Nat.reduceMul, bvs_append, List.replicate_append_replicate, Nat.reduceAdd, bvs_inj]; try simp [-List.reduceReplicate]) (by simp [-List.reduceReplicate])) ?_
  intro i hi
  simp (maxSteps := 1000000) -implicitDefEqProofs only [go_sem, Nat.reduceBEq, Nat.reduceLT, Nat.reduceLeDiff, Nat.reduceEqDiff, Nat.reduceAdd, Nat.reduceMul, Nat.reduceSub, reduceIte, reduceCtorEq, Int.reduceLT, Int.reduceLE, Int.reduceToNat, Int.reduceAdd, Int.reduceSub, Int.reduceNeg, Int.reduceEq, Int.reduceNe, Int.reduceBEq, Int.reduceBNe, BitVec.reduceBEq, BitVec.reduceBNe, BitVec.reduceOfInt, BitVec.reduceSetWidth, -List.reduceReplicate]
  refine cndv_split (fun h => ?_) (fun h => ?_)
  · have h' : i < n := by have := of_decide_eq_true h; omega
    have wn : IntKind.i64.wrap ((i : Int) + 1) = ((i + 1 : Nat) : Int) := by rw [wrap_i64] <;> omega
    simp (maxSteps := 1000000) -implicitDefEqProofs only [go_sem, Nat.reduceBEq, Nat.reduceLT, Nat.reduceLeDiff, Nat.reduceEqDiff, Nat.reduceAdd, Nat.reduceMul, Nat.reduceSub, reduceIte, reduceCtorEq, Int.reduceLT, Int.reduceLE, Int.reduceToNat, Int.reduceAdd, Int.reduceSub, Int.reduceNeg, Int.reduceEq, Int.reduceNe, Int.reduceBEq, Int.reduceBNe, BitVec.reduceBEq, BitVec.reduceBNe, BitVec.reduceOfInt, BitVec.reduceSetWidth, -List.reduceReplicate, wn]
    refine UpK_normal h' (Le.sameT (by decide) (by simp only [-List.reduceReplicate, slotsSame, Eng.look, Nat.reduceEqDiff, rotN, r1, reduceIte, reduceCtorEq, if_true, if_false, eq_self, true_and, and_true, Option.some.injEq, AV.int.injEq]; (try simp (disch := omega) only [wrap_i64]); (try simp [-List.reduceReplicate]); (try omega)) (by simp only [-List.reduceReplicate, memSame, Eng.look, Nat.reduceEqDiff, rotN, r1, reduceIte, reduceCtorEq, if_true, if_false, eq_self, true_and, and_true, Option.some.injEq, AObj.cells.injEq, bvs_rep8, bvs_rep16, bvs_rep32, bvs_rep64, bvs_flat_rep, Nat.reduceMul, bvs_append, List.replicate_append_replicate, Nat.reduceAdd, bvs_inj]; try simp [-List.reduceReplicate]) (by simp [-List.reduceReplicate]))
  · have h' : i = n := by have := of_decide_eq_false h; omega
    subst h'
    simp (maxSteps := 1000000) -implicitDefEqProofs only [go_sem, Nat.reduceBEq, Nat.reduceLT, Nat.reduceLeDiff, Nat.reduceEqDiff, Nat.reduceAdd, Nat.reduceMul, Nat.reduceSub, reduceIte, reduceCtorEq, Int.reduceLT, Int.reduceLE, Int.reduceToNat, Int.reduceAdd, Int.reduceSub, Int.reduceNeg, Int.reduceEq, Int.reduceNe, Int.reduceBEq, Int.reduceBNe, BitVec.reduceBEq, BitVec.reduceBNe, BitVec.reduceOfInt, BitVec.reduceSetWidth, -List.reduceReplicate]
    exact Fin.flatv (fun _ => rfl) (fun f => rfl) ⟨rfl, rfl, rfl⟩
theorem or_field (a b lo : Nat) (h : b < 2 ^ lo) : (a * 2 ^ lo) ||| b = a * 2 ^ lo + b := by
  rw [Nat.mul_comm]
  exact (Nat.two_pow_add_eq_or_of_lt h a).symm
theorem rotR_nat (x : BitVec 32) (n : Nat) (h2 : n ≤ 32) : (rotR x n).toNat = x.toNat % 2 ^ n * 2 ^ (32 - n) + x.toNat / 2 ^ n := by
  have hx := x.isLt
  have hp : 2 ^ 32 = 2 ^ n * 2 ^ (32 - n) := by rw [← Nat.pow_add]; congr 1; omega
  rw [rotR, BitVec.toNat_or, BitVec.toNat_shiftLeft, BitVec.toNat_ushiftRight, Nat.shiftLeft_eq, Nat.shiftRight_eq_div_pow, hp, Nat.mul_mod_mul_right, or_field]
  rw [Nat.div_lt_iff_lt_mul (Nat.two_pow_pos n)]
  rw [Nat.mul_comm, ← hp]; exact hx
theorem r1_nat (x : BitVec 32) : (r1 x).toNat = x.toNat / 2 + x.toNat % 2 * 2147483648 := by
  have hx := x.isLt
  have e2 : (2#32).toNat = 2 := rfl
  have e3 : (2147483648#32).toNat = 2147483648 := rfl
  rw [r1, BitVec.toNat_add, BitVec.toNat_udiv, BitVec.toNat_mul, BitVec.toNat_umod, e2, e3]
  generalize x.toNat = y at *
  have h1 : y % 2 * 2147483648 % 2 ^ 32 = y % 2 * 2147483648 := Nat.mod_eq_of_lt (by omega)
  rw [h1]
  exact Nat.mod_eq_of_lt (by omega)
theorem step_nat (x n : Nat) (hn : n < 26) (hx : x < 4294967296) : (x % 2 ^ n * 2 ^ (32 - n) + x / 2 ^ n) / 2 + (x % 2 ^ n * 2 ^ (32 - n) + x / 2 ^ n) % 2 * 2147483648 = x % 2 ^ (n + 1) * 2 ^ (32 - (n + 1)) + x / 2 ^ (n + 1) := by
  have h : n = 0 ∨ n = 1 ∨ n = 2 ∨ n = 3 ∨ n = 4 ∨ n = 5 ∨ n = 6 ∨ n = 7 ∨ n = 8 ∨ n = 9 ∨ n = 10 ∨ n = 11 ∨ n = 12 ∨ n = 13 ∨ n = 14 ∨ n = 15 ∨ n = 16 ∨ n = 17 ∨ n = 18 ∨ n = 19 ∨ n = 20 ∨ n = 21 ∨ n = 22 ∨ n = 23 ∨ n = 24 ∨ n = 25 := by omega
  rcases h with rfl | rfl | rfl | rfl | rfl | rfl | rfl | rfl | rfl | rfl | rfl | rfl | rfl | rfl | rfl | rfl | rfl | rfl | rfl | rfl | rfl | rfl | rfl | rfl | rfl | rfl <;> omega
theorem rotN_eq (x : BitVec 32) : ∀ n, n ≤ 26 → rotN x n = rotR x n
  | 0, _ => by
    apply BitVec.eq_of_toNat_eq
    rw [rotR_nat x 0 (by decide)]
    simp only [rotN]; omega
  | n + 1, h => by
    apply BitVec.eq_of_toNat_eq
    rw [rotN, rotN_eq x n (by omega), r1_nat, rotR_nat x n (by omega), rotR_nat x (n + 1) (by omega)]
    exact step_nat x.toNat n (by omega) x.isLt
/-- a word of four bytes -/
def wordB (q : List (BitVec 8)) : BitVec 32 := ((q.getD 0 0).setWidth 32 <<< 24) ||| ((q.getD 1 0).setWidth 32 <<< 16) ||| ((q.getD 2 0).setWidth 32 <<< 8) ||| (q.getD 3 0).setWidth 32
theorem wordOk (n : Nat) (q : List (BitVec 8)) (hq : q.length = n) (h4 : 4 ≤ n) : CallOk Try.prog 215 [.ro n (bvs .u8 q)] (fun _ => true) [] 0 fun v m nx => v = .int .u32 ((wordB q).toNat : Int) ∧ m = [] ∧ nx = 0 := by
  refine fn_ok Try.func215 rfl (by show 1 ≤ _; decide) ?_
  simp (maxSteps := 1000000) -implicitDefEqProofs only [go_sem, Nat.reduceBEq, Nat.reduceLT, Nat.reduceLeDiff, Nat.reduceEqDiff, Nat.reduceAdd, Nat.reduceMul, Nat.reduceSub, reduceIte, reduceCtorEq, Int.reduceLT, Int.reduceLE, Int.reduceToNat, Int.reduceAdd, Int.reduceSub, Int.reduceNeg, Int.reduceEq, Int.reduceNe, Int.reduceBEq, Int.reduceBNe, BitVec.reduceBEq, BitVec.reduceBNe, BitVec.reduceOfInt, BitVec.reduceSetWidth, -List.reduceReplicate, Try.results215, Try.ntmps215]
  refine ⟨Fx.mixed, .inl ⟨[(0, false), (1, false), (2, false), (3, false), (4, false), (5, false), (6, false), (7, false), (8, false), (9, false), (10, false), (11, false), (12, false), (13, false), (14, false), (15, false), (16, false), (17, false), (18, false), (19, false), (20, false), (21, false), (22, false)], [], by kernel_rfl, (fun n hn => by cases hn), ?_⟩⟩
  simp (maxSteps := 1000000) -implicitDefEqProofs only [go_sem, Nat.reduceBEq, Nat.reduceLT, Nat.reduceLeDiff, Nat.reduceEqDiff, Nat.reduceAdd, Nat.reduceMul, Nat.reduceSub, reduceIte, reduceCtorEq, Int.reduceLT, Int.reduceLE, Int.reduceToNat, Int.reduceAdd, Int.reduceSub, Int.reduceNeg, Int.reduceEq, Int.reduceNe, Int.reduceBEq, Int.reduceBNe, BitVec.reduceBEq, BitVec.reduceBNe, BitVec.reduceOfInt, BitVec.reduceSetWidth, -List.reduceReplicate, hq]
  have d1 : ∀ k, k < 4 → 0 < (List.drop k q).length := fun k hk => by rw [List.length_drop]; omega
  exact ⟨by omega, by omega, by omega, by omega, by omega, d1 1 (by omega), by omega, by omega, d1 2 (by omega), by omega, by omega, d1 3 (by omega), Fin.flatv (fun _ => rfl) (fun f => rfl) ⟨rfl, rfl, rfl⟩⟩
end Go.Proofs.Ytmdeoikpiiambaa
/-! Shb -/
namespace Go.Proofs.Ytmdeoikpiiambaa
open Go Go.Eng
def s0W (x : BitVec 32) : BitVec 32 := rotR x 7 ^^^ rotR x 18 ^^^ x >>> 3
def s1W (y : BitVec 32) : BitVec 32 := rotR y 17 ^^^ rotR y 19 ^^^ y >>> 10
def wNext (b : List (BitVec 8)) (w : List (BitVec 32)) (n : Nat) : BitVec 32 := if n < 16 then wordB (b.drop (4 * n)) else w.getD (n - 16) 0 + s0W (w.getD (n - 15) 0) + w.getD (n - 7) 0 + s1W (w.getD (n - 2) 0)
def wl (b : List (BitVec 8)) : Nat → List (BitVec 32)
  | 0 => []
  | n + 1 => wl b n ++ [wNext b (wl b n) n]
theorem wl_len (b : List (BitVec 8)) (n : Nat) : (wl b n).length = n := by
  induction n with
  | zero => rfl
  | succ n ih => simp [wl, ih]
def wz (b : List (BitVec 8)) (n : Nat) : List (BitVec 32) := wl b n ++ List.replicate (64 - n) 0
theorem wz_len (b : List (BitVec 8)) (n : Nat) (h : n ≤ 64) : (wz b n).length = 64 := by
  rw [wz, List.length_append, wl_len, List.length_replicate]; omega
theorem wz_zero (b : List (BitVec 8)) : wz b 0 = List.replicate 64 0 := rfl
theorem wz_get (b : List (BitVec 8)) (n i : Nat) (h : i < n) : (wz b n).getD i 0 = (wl b n).getD i 0 := by
  simp only [wz, List.getD_eq_getElem?_getD]
  rw [List.getElem?_append_left (by rw [wl_len]; exact h)]
theorem wz_set (b : List (BitVec 8)) (n : Nat) (h : n < 64) : (wz b n).set n (wNext b (wl b n) n) = wz b (n + 1) := by
  have e : 64 - n = (64 - (n + 1)) + 1 := by omega
  rw [wz, e, List.replicate_succ, List.set_append_right _ _ (by rw [wl_len]; exact Nat.le_refl _), wl_len, Nat.sub_self, List.set_cons_zero, wz, wl, List.append_assoc]
  rfl
theorem wz_all (b : List (BitVec 8)) : wz b 64 = wl b 64 := by rw [wz]; simp
set_option maxHeartbeats 800000 in
theorem spreadOk (b : List (BitVec 8)) (h64 : 64 ≤ b.length) (hb : b.length ≤ 1000000) :
    CallOk Try.prog 206 [.ro b.length (bvs .u8 b)] (fun _ => true) [] 0 fun v m nx => v = .agg (bvs .u32 (wl b 64)) ∧ m = [] ∧ nx = 0 := by
  refine fn_ok Try.func206 rfl (by show 1 ≤ _; decide) ?_
  simp (maxSteps := 1000000) -implicitDefEqProofs only [go_sem, Nat.reduceBEq, Nat.reduceLT, Nat.reduceLeDiff, Nat.reduceEqDiff, Nat.reduceAdd, Nat.reduceMul, Nat.reduceSub, reduceIte, reduceCtorEq, Int.reduceLT, Int.reduceLE, Int.reduceToNat, Int.reduceAdd, Int.reduceSub, Int.reduceNeg, Int.reduceEq, Int.reduceNe, Int.reduceBEq, Int.reduceBNe, BitVec.reduceBEq, BitVec.reduceBNe, BitVec.reduceOfInt, BitVec.reduceSetWidth, -List.reduceReplicate, Try.results206, Try.ntmps206]
  refine LoopOk.up 16 (fun n => ([(8, .int .i64 n), (3, .ptr 1 0), (2, .ptr 0 0), (0, .ro b.length (bvs .u8 b))], [(1, .cells (bvs .u32 (wz b n)) 271), (0, .cells (bvs .u32 (List.replicate 64 (0 : BitVec 32))) 271)], 2)) (Le.sameT (by decide) (by simp only [-List.reduceReplicate, slotsSame, Eng.look, Nat.reduceEqDiff, wz_zero, reduceIte, reduceCtorEq, if_true, if_false, eq_self, true_and, and_true, Option.some.injEq, AV.int.injEq]; (try simp (disch := omega) only [wrap_i64]); (try simp [-List.reduceReplicate]); (try omega)) (by simp only [-List.reduceReplicate, memSame, Eng.look, Nat.reduceEqDiff, wz_zero, reduceIte, reduceCtorEq, if_true, if_false, eq_self, true_and, and_true, Option.some.injEq, AObj.cells.injEq, bvs_rep8, bvs_rep16, bvs_rep32, bvs_rep64, bvs_flat_rep, Nat.reduceMul, bvs_append, List.replicate_append_replicate, Nat.reduceAdd, bvs_inj]; try simp [-List.reduceReplicate]) (by simp [-List.reduceReplicate])) ?_
  intro n hn
  simp (maxSteps := 1000000) -implicitDefEqProofs only [go_sem, Nat.reduceBEq, Nat.reduceLT, Nat.reduceLeDiff, Nat.reduceEqDiff, Nat.reduceAdd, Nat.reduceMul, Nat.reduceSub, reduceIte, reduceCtorEq, Int.reduceLT, Int.reduceLE, Int.reduceToNat, Int.reduceAdd, Int.reduceSub, Int.reduceNeg, Int.reduceEq, Int.reduceNe, Int.reduceBEq, Int.reduceBNe, BitVec.reduceBEq, BitVec.reduceBNe, BitVec.reduceOfInt, BitVec.reduceSetWidth, -List.reduceReplicate]
  refine cndv_split (fun h => ?_) (fun h => ?_)
  · have h' : n < 16 := by have := of_decide_eq_true h; omega
    have wn : IntKind.i64.wrap ((n : Int) + 1) = ((n + 1 : Nat) : Int) := by rw [wrap_i64] <;> omega
    have w4 : IntKind.i64.wrap (4 * (n : Int)) = ((4 * n : Nat) : Int) := by rw [wrap_i64] <;> omega
    have hst : (wz b n).set n (wordB (b.drop (4 * n))) = wz b (n + 1) := by rw [← wz_set b n (by omega), wNext, if_pos h']
    have hl := wz_len b n (by omega)
    have hdl : (b.drop (4 * n)).length = b.length - 4 * n := List.length_drop
    have htk : (b.drop (4 * n)).take (b.length - 4 * n) = b.drop (4 * n) := by rw [← hdl]; exact List.take_length
    simp (maxSteps := 1000000) -implicitDefEqProofs only [go_sem, Nat.reduceBEq, Nat.reduceLT, Nat.reduceLeDiff, Nat.reduceEqDiff, Nat.reduceAdd, Nat.reduceMul, Nat.reduceSub, reduceIte, reduceCtorEq, Int.reduceLT, Int.reduceLE, Int.reduceToNat, Int.reduceAdd, Int.reduceSub, Int.reduceNeg, Int.reduceEq, Int.reduceNe, Int.reduceBEq, Int.reduceBNe, BitVec.reduceBEq, BitVec.reduceBNe, BitVec.reduceOfInt, BitVec.reduceSetWidth, -List.reduceReplicate, w4, htk]
    refine ⟨by omega, ?_⟩
    refine (wordOk (b.length - 4 * n) (b.drop (4 * n)) hdl (by omega)).flatv (by simp only [argsx, argx_int, argx_bool, argx_fn, argx_ro, argx_nils, eq_self, true_and, and_true, and_self]; try trivial) (fun _ => rfl) rfl ?_
    simp (maxSteps := 1000000) -implicitDefEqProofs only [go_sem, Nat.reduceBEq, Nat.reduceLT, Nat.reduceLeDiff, Nat.reduceEqDiff, Nat.reduceAdd, Nat.reduceMul, Nat.reduceSub, reduceIte, reduceCtorEq, Int.reduceLT, Int.reduceLE, Int.reduceToNat, Int.reduceAdd, Int.reduceSub, Int.reduceNeg, Int.reduceEq, Int.reduceNe, Int.reduceBEq, Int.reduceBNe, BitVec.reduceBEq, BitVec.reduceBNe, BitVec.reduceOfInt, BitVec.reduceSetWidth, -List.reduceReplicate, wn, hst, hl]
    refine ⟨by omega, by omega, UpK_normal h' (Le.sameT (by decide) (by simp only [-List.reduceReplicate, slotsSame, Eng.look, Nat.reduceEqDiff, reduceIte, reduceCtorEq, if_true, if_false, eq_self, true_and, and_true, Option.some.injEq, AV.int.injEq]; (try simp (disch := omega) only [wrap_i64]); (try simp [-List.reduceReplicate]); (try omega)) (by simp only [-List.reduceReplicate, memSame, Eng.look, Nat.reduceEqDiff, reduceIte, reduceCtorEq, if_true, if_false, eq_self, true_and, and_true, Option.some.injEq, AObj.cells.injEq, bvs_rep8, bvs_rep16, bvs_rep32, bvs_rep64, bvs_flat_rep, Nat.reduceMul, bvs_append, List.replicate_append_replicate, Nat.reduceAdd, bvs_inj]; try simp [-List.reduceReplicate]) (by simp [-List.reduceReplicate]))⟩
  · have h' : n = 16 := by have := of_decide_eq_false h; omega
    subst h'
    simp (maxSteps := 1000000) -implicitDefEqProofs only [go_sem, Nat.reduceBEq, Nat.reduceLT, Nat.reduceLeDiff, Nat.reduceEqDiff, Nat.reduceAdd, Nat.reduceMul, Nat.reduceSub, reduceIte, reduceCtorEq, Int.reduceLT, Int.reduceLE, Int.reduceToNat, Int.reduceAdd, Int.reduceSub, Int.reduceNeg, Int.reduceEq, Int.reduceNe, Int.reduceBEq, Int.reduceBNe, BitVec.reduceBEq, BitVec.reduceBNe, BitVec.reduceOfInt, BitVec.reduceSetWidth, -List.reduceReplicate]
    refine LoopOk.up 48 (fun n => ([(5, .int .i64 (16 + n : Nat)), (3, .ptr 1 0), (2, .ptr 0 0), (0, .ro b.length (bvs .u8 b))], [(1, .cells (bvs .u32 (wz b (16 + n))) 271), (0, .cells (bvs .u32 (List.replicate 64 (0 : BitVec 32))) 271)], 2)) (Le.sameT (by decide) (by simp only [-List.reduceReplicate, slotsSame, Eng.look, Nat.reduceEqDiff, reduceIte, reduceCtorEq, if_true, if_false, eq_self, true_and, and_true, Option.some.injEq, AV.int.injEq]; (try simp (disch := omega) only [wrap_i64]); (try simp [-List.reduceReplicate]); (try omega)) (by simp only [-List.reduceReplicate, memSame, Eng.look, Nat.reduceEqDiff, reduceIte, reduceCtorEq, if_true, if_false, eq_self, true_and, and_true, Option.some.injEq, AObj.cells.injEq, bvs_rep8, bvs_rep16, bvs_rep32, bvs_rep64, bvs_flat_rep, Nat.reduceMul, bvs_append, List.replicate_append_replicate, Nat.reduceAdd, bvs_inj]; try simp [-List.reduceReplicate]) (by simp [-List.reduceReplicate])) ?_
    intro k hk
    simp (maxSteps := 1000000) -implicitDefEqProofs only [go_sem, Nat.reduceBEq, Nat.reduceLT, Nat.reduceLeDiff, Nat.reduceEqDiff, Nat.reduceAdd, Nat.reduceMul, Nat.reduceSub, reduceIte, reduceCtorEq, Int.reduceLT, Int.reduceLE, Int.reduceToNat, Int.reduceAdd, Int.reduceSub, Int.reduceNeg, Int.reduceEq, Int.reduceNe, Int.reduceBEq, Int.reduceBNe, BitVec.reduceBEq, BitVec.reduceBNe, BitVec.reduceOfInt, BitVec.reduceSetWidth, -List.reduceReplicate]
    refine cndv_split (fun h => ?_) (fun h => ?_)
    · have h' : 16 + k < 64 := by have := of_decide_eq_true h; omega
      generalize hn : 16 + k = n at *
      have wn : IntKind.i64.wrap ((n : Int) + 1) = ((n + 1 : Nat) : Int) := by rw [wrap_i64] <;> omega
      have w15 : IntKind.i64.wrap ((n : Int) - 15) = ((n - 15 : Nat) : Int) := by rw [wrap_i64] <;> omega
      have w2 : IntKind.i64.wrap ((n : Int) - 2) = ((n - 2 : Nat) : Int) := by rw [wrap_i64] <;> omega
      have w16 : IntKind.i64.wrap ((n : Int) - 16) = ((n - 16 : Nat) : Int) := by rw [wrap_i64] <;> omega
      have w7 : IntKind.i64.wrap ((n : Int) - 7) = ((n - 7 : Nat) : Int) := by rw [wrap_i64] <;> omega
      have g15 := wz_get b n (n - 15) (by omega)
      have g2 := wz_get b n (n - 2) (by omega)
      have g16 := wz_get b n (n - 16) (by omega)
      have g7 := wz_get b n (n - 7) (by omega)
      have hl := wz_len b n (by omega)
      have hst := wz_set b n (by omega)
      rw [wNext, if_neg (by omega), s0W, s1W] at hst
      refine ⟨Fx.mixed, .inl ⟨[(0, false), (1, false), (2, false), (3, false), (4, false), (5, false), (6, false), (7, false), (8, false), (9, false)], [], by kernel_rfl, (fun n hn => by cases hn), ?_⟩⟩
      simp (maxSteps := 1000000) -implicitDefEqProofs only [go_sem, Nat.reduceBEq, Nat.reduceLT, Nat.reduceLeDiff, Nat.reduceEqDiff, Nat.reduceAdd, Nat.reduceMul, Nat.reduceSub, reduceIte, reduceCtorEq, Int.reduceLT, Int.reduceLE, Int.reduceToNat, Int.reduceAdd, Int.reduceSub, Int.reduceNeg, Int.reduceEq, Int.reduceNe, Int.reduceBEq, Int.reduceBNe, BitVec.reduceBEq, BitVec.reduceBNe, BitVec.reduceOfInt, BitVec.reduceSetWidth, -List.reduceReplicate, w15, w2, g15, g2, hl]
      refine ⟨by omega, by omega, by omega, by omega, ?_⟩
      refine ⟨Fx.mixed, .inr (.inl ⟨[(0, false), (1, false), (2, false), (3, false), (4, false), (5, false), (7, false), (10, false), (11, false), (14, false), (15, false), (16, false), (17, false), (19, false), (21, false), (24, false), (25, false), (6, true), (8, true), (9, false), (12, false), (13, false), (18, false), (20, true), (22, true), (23, false), (26, false), (27, false), (28, false), (29, true)], [1], [29], [4, 17], by kernel_rfl, by kernel_rfl, (fun n hn => by cases List.mem_singleton.1 hn; exact ⟨rfl, rfl⟩), ?_⟩)⟩
      simp (maxSteps := 1000000) -implicitDefEqProofs only [go_sem, Nat.reduceBEq, Nat.reduceLT, Nat.reduceLeDiff, Nat.reduceEqDiff, Nat.reduceAdd, Nat.reduceMul, Nat.reduceSub, reduceIte, reduceCtorEq, Int.reduceLT, Int.reduceLE, Int.reduceToNat, Int.reduceAdd, Int.reduceSub, Int.reduceNeg, Int.reduceEq, Int.reduceNe, Int.reduceBEq, Int.reduceBNe, BitVec.reduceBEq, BitVec.reduceBNe, BitVec.reduceOfInt, BitVec.reduceSetWidth, -List.reduceReplicate, w16, w7, g16, g7, hl]
      refine ⟨by omega, by omega, by omega, by omega, ?_⟩
      refine (rotOk _ 7 (by decide) (by decide)).flatv (by simp only [argsx, argx_int, argx_bool, argx_fn, argx_ro, argx_nils, eq_self, true_and, and_true, and_self]; try trivial) (fun _ => rfl) rfl ?_
      simp (maxSteps := 1000000) -implicitDefEqProofs only [go_sem, Nat.reduceBEq, Nat.reduceLT, Nat.reduceLeDiff, Nat.reduceEqDiff, Nat.reduceAdd, Nat.reduceMul, Nat.reduceSub, reduceIte, reduceCtorEq, Int.reduceLT, Int.reduceLE, Int.reduceToNat, Int.reduceAdd, Int.reduceSub, Int.reduceNeg, Int.reduceEq, Int.reduceNe, Int.reduceBEq, Int.reduceBNe, BitVec.reduceBEq, BitVec.reduceBNe, BitVec.reduceOfInt, BitVec.reduceSetWidth, -List.reduceReplicate]
      refine (rotOk _ 18 (by decide) (by decide)).flatv (by simp only [argsx, argx_int, argx_bool, argx_fn, argx_ro, argx_nils, eq_self, true_and, and_true, and_self]; try trivial) (fun _ => rfl) rfl ?_
      simp (maxSteps := 1000000) -implicitDefEqProofs only [go_sem, Nat.reduceBEq, Nat.reduceLT, Nat.reduceLeDiff, Nat.reduceEqDiff, Nat.reduceAdd, Nat.reduceMul, Nat.reduceSub, reduceIte, reduceCtorEq, Int.reduceLT, Int.reduceLE, Int.reduceToNat, Int.reduceAdd, Int.reduceSub, Int.reduceNeg, Int.reduceEq, Int.reduceNe, Int.reduceBEq, Int.reduceBNe, BitVec.reduceBEq, BitVec.reduceBNe, BitVec.reduceOfInt, BitVec.reduceSetWidth, -List.reduceReplicate]
      refine (rotOk _ 17 (by decide) (by decide)).flatv (by simp only [argsx, argx_int, argx_bool, argx_fn, argx_ro, argx_nils, eq_self, true_and, and_true, and_self]; try trivial) (fun _ => rfl) rfl ?_
      simp (maxSteps := 1000000) -implicitDefEqProofs only [go_sem, Nat.reduceBEq, Nat.reduceLT, Nat.reduceLeDiff, Nat.reduceEqDiff, Nat.reduceAdd, Nat.reduceMul, Nat.reduceSub, reduceIte, reduceCtorEq, Int.reduceLT, Int.reduceLE, Int.reduceToNat, Int.reduceAdd, Int.reduceSub, Int.reduceNeg, Int.reduceEq, Int.reduceNe, Int.reduceBEq, Int.reduceBNe, BitVec.reduceBEq, BitVec.reduceBNe, BitVec.reduceOfInt, BitVec.reduceSetWidth, -List.reduceReplicate]
      refine (rotOk _ 19 (by decide) (by decide)).flatv (by simp only [argsx, argx_int, argx_bool, argx_fn, argx_ro, argx_nils, eq_self, true_and, and_true, and_self]; try trivial) (fun _ => rfl) rfl ?_
      simp (maxSteps := 1000000) -implicitDefEqProofs only [go_sem, Nat.reduceBEq, Nat.reduceLT, Nat.reduceLeDiff, Nat.reduceEqDiff, Nat.reduceAdd, Nat.reduceMul, Nat.reduceSub, reduceIte, reduceCtorEq, Int.reduceLT, Int.reduceLE, Int.reduceToNat, Int.reduceAdd, Int.reduceSub, Int.reduceNeg, Int.reduceEq, Int.reduceNe, Int.reduceBEq, Int.reduceBNe, BitVec.reduceBEq, BitVec.reduceBNe, BitVec.reduceOfInt, BitVec.reduceSetWidth, -List.reduceReplicate, wn, hst, hl]
      refine ⟨by omega, by omega, ?_⟩
      refine UpK_normal (by omega) ?_
      rw [show 16 + (k + 1) = n + 1 by omega]
      exact (Le.sameT (by decide) (by simp only [-List.reduceReplicate, slotsSame, Eng.look, Nat.reduceEqDiff, reduceIte, reduceCtorEq, if_true, if_false, eq_self, true_and, and_true, Option.some.injEq, AV.int.injEq]; (try simp (disch := omega) only [wrap_i64]); (try simp [-List.reduceReplicate]); (try omega)) (by simp only [-List.reduceReplicate, memSame, Eng.look, Nat.reduceEqDiff, reduceIte, reduceCtorEq, if_true, if_false, eq_self, true_and, and_true, Option.some.injEq, AObj.cells.injEq, bvs_rep8, bvs_rep16, bvs_rep32, bvs_rep64, bvs_flat_rep, Nat.reduceMul, bvs_append, List.replicate_append_replicate, Nat.reduceAdd, bvs_inj]; try simp [-List.reduceReplicate]) (by simp [-List.reduceReplicate]))
    · have h' : k = 48 := by have := of_decide_eq_false h; omega
      subst h'
      have hl := wl_len b 64
      have htk : List.take 64 (wl b 64) = wl b 64 := List.take_of_length_le (by rw [hl]; exact Nat.le_refl _)
      simp (maxSteps := 1000000) -implicitDefEqProofs only [go_sem, Nat.reduceBEq, Nat.reduceLT, Nat.reduceLeDiff, Nat.reduceEqDiff, Nat.reduceAdd, Nat.reduceMul, Nat.reduceSub, reduceIte, reduceCtorEq, Int.reduceLT, Int.reduceLE, Int.reduceToNat, Int.reduceAdd, Int.reduceSub, Int.reduceNeg, Int.reduceEq, Int.reduceNe, Int.reduceBEq, Int.reduceBNe, BitVec.reduceBEq, BitVec.reduceBNe, BitVec.reduceOfInt, BitVec.reduceSetWidth, -List.reduceReplicate, wz_all, htk, hl]
      exact Fin.flatv (fun _ => rfl) (fun f => by simp only [renA, bvs_ren]) ⟨rfl, rfl, rfl⟩
end Go.Proofs.Ytmdeoikpiiambaa
/-! Shc -/
namespace Go.Proofs.Ytmdeoikpiiambaa
open Go Go.Eng
def beginL : List (BitVec 32) := [1779033703#32, 3144134277#32, 1013904242#32, 2773480762#32, 1359893119#32, 2600822924#32, 528734635#32, 1541459225#32]
def rootsL : List (BitVec 32) := [1116352408#32, 1899447441#32, 3049323471#32, 3921009573#32, 961987163#32, 1508970993#32, 2453635748#32, 2870763221#32, 3624381080#32, 310598401#32, 607225278#32, 1426881987#32, 1925078388#32, 2162078206#32, 2614888103#32, 3248222580#32, 3835390401#32, 4022224774#32, 264347078#32, 604807628#32, 770255983#32, 1249150122#32, 1555081692#32, 1996064986#32, 2554220882#32, 2821834349#32, 2952996808#32, 3210313671#32, 3336571891#32, 3584528711#32, 113926993#32, 338241895#32, 666307205#32, 773529912#32, 1294757372#32, 1396182291#32, 1695183700#32, 1986661051#32, 2177026350#32, 2456956037#32, 2730485921#32, 2820302411#32, 3259730800#32, 3345764771#32, 3516065817#32, 3600352804#32, 4094571909#32, 275423344#32, 430227734#32, 506948616#32, 659060556#32, 883997877#32, 958139571#32, 1322822218#32, 1537002063#32, 1747873779#32, 1955562222#32, 2024104815#32, 2227730452#32, 2361852424#32, 2428436474#32, 2756734187#32, 3204031479#32, 3329325298#32]
theorem beginSet : (((((((((bvs .u32 (List.replicate 8 (0 : BitVec 32))).set 0 (.int .u32 1779033703)).set 1 (.int .u32 3144134277)).set 2 (.int .u32 1013904242)).set 3 (.int .u32 2773480762)).set 4 (.int .u32 1359893119)).set 5 (.int .u32 2600822924)).set 6 (.int .u32 528734635)).set 7 (.int .u32 1541459225)) = bvs .u32 beginL := rfl
theorem beginOk : CallOk Try.prog 199 [] (fun _ => true) [] 0 fun v m nx => v = .agg (bvs .u32 beginL) ∧ m = [] ∧ nx = 0 := by
  refine fn_ok Try.func199 rfl (Nat.zero_le _) ?_
  have hl : beginL.length = 8 := rfl
  have ht : List.take 8 beginL = beginL := rfl
  simp (maxSteps := 1000000) -implicitDefEqProofs only [go_sem, Nat.reduceBEq, Nat.reduceLT, Nat.reduceLeDiff, Nat.reduceEqDiff, Nat.reduceAdd, Nat.reduceMul, Nat.reduceSub, reduceIte, reduceCtorEq, Int.reduceLT, Int.reduceLE, Int.reduceToNat, Int.reduceAdd, Int.reduceSub, Int.reduceNeg, Int.reduceEq, Int.reduceNe, Int.reduceBEq, Int.reduceBNe, BitVec.reduceBEq, BitVec.reduceBNe, BitVec.reduceOfInt, BitVec.reduceSetWidth, -List.reduceReplicate, Try.results199, Try.ntmps199, beginSet, hl, ht]
  exact Fin.flatv (fun _ => rfl) (fun f => by simp only [renA, bvs_ren]) ⟨rfl, rfl, rfl⟩
theorem rootsSet : (((((((((((((((((((((((((((((((((((((((((((((((((((((((((((((((((bvs .u32 (List.replicate 64 (0 : BitVec 32))).set 0 (.int .u32 1116352408)).set 1 (.int .u32 1899447441)).set 2 (.int .u32 3049323471)).set 3 (.int .u32 3921009573)).set 4 (.int .u32 961987163)).set 5 (.int .u32 1508970993)).set 6 (.int .u32 2453635748)).set 7 (.int .u32 2870763221)).set 8 (.int .u32 3624381080)).set 9 (.int .u32 310598401)).set 10 (.int .u32 607225278)).set 11 (.int .u32 1426881987)).set 12 (.int .u32 1925078388)).set 13 (.int .u32 2162078206)).set 14 (.int .u32 2614888103)).set 15 (.int .u32 3248222580)).set 16 (.int .u32 3835390401)).set 17 (.int .u32 4022224774)).set 18 (.int .u32 264347078)).set 19 (.int .u32 604807628)).set 20 (.int .u32 770255983)).set 21 (.int .u32 1249150122)).set 22 (.int .u32 1555081692)).set 23 (.int .u32 1996064986)).set 24 (.int .u32 2554220882)).set 25 (.int .u32 2821834349)).set 26 (.int .u32 2952996808)).set 27 (.int .u32 3210313671)).set 28 (.int .u32 3336571891)).set 29 (.int .u32 3584528711)).set 30 (.int .u32 113926993)).set 31 (.int .u32 338241895)).set 32 (.int .u32 666307205)).set 33 (.int .u32 773529912)).set 34 (.int .u32 1294757372)).set 35 (.int .u32 1396182291)).set 36 (.int .u32 1695183700)).set 37 (.int .u32 1986661051)).set 38 (.int .u32 2177026350)).set 39 (.int .u32 2456956037)).set 40 (.int .u32 2730485921)).set 41 (.int .u32 2820302411)).set 42 (.int .u32 3259730800)).set 43 (.int .u32 3345764771)).set 44 (.int .u32 3516065817)).set 45 (.int .u32 3600352804)).set 46 (.int .u32 4094571909)).set 47 (.int .u32 275423344)).set 48 (.int .u32 430227734)).set 49 (.int .u32 506948616)).set 50 (.int .u32 659060556)).set 51 (.int .u32 883997877)).set 52 (.int .u32 958139571)).set 53 (.int .u32 1322822218)).set 54 (.int .u32 1537002063)).set 55 (.int .u32 1747873779)).set 56 (.int .u32 1955562222)).set 57 (.int .u32 2024104815)).set 58 (.int .u32 2227730452)).set 59 (.int .u32 2361852424)).set 60 (.int .u32 2428436474)).set 61 (.int .u32 2756734187)).set 62 (.int .u32 3204031479)).set 63 (.int .u32 3329325298)) = bvs .u32 rootsL := rfl
theorem rootsOk : CallOk Try.prog 207 [] (fun _ => true) [] 0 fun v m nx => v = .agg (bvs .u32 rootsL) ∧ m = [] ∧ nx = 0 := by
  refine fn_ok Try.func207 rfl (Nat.zero_le _) ?_
  have hl : rootsL.length = 64 := rfl
  have ht : List.take 64 rootsL = rootsL := rfl
  simp (maxSteps := 1000000) -implicitDefEqProofs only [go_sem, Nat.reduceBEq, Nat.reduceLT, Nat.reduceLeDiff, Nat.reduceEqDiff, Nat.reduceAdd, Nat.reduceMul, Nat.reduceSub, reduceIte, reduceCtorEq, Int.reduceLT, Int.reduceLE, Int.reduceToNat, Int.reduceAdd, Int.reduceSub, Int.reduceNeg, Int.reduceEq, Int.reduceNe, Int.reduceBEq, Int.reduceBNe, BitVec.reduceBEq, BitVec.reduceBNe, BitVec.reduceOfInt, BitVec.reduceSetWidth, -List.reduceReplicate, Try.results207, Try.ntmps207, rootsSet, hl, ht]
  exact Fin.flatv (fun _ => rfl) (fun f => by simp only [renA, bvs_ren]) ⟨rfl, rfl, rfl⟩
def tW (v : List (BitVec 32)) (k w : BitVec 32) : BitVec 32 := v.getD 7 0 + (rotR (v.getD 4 0) 6 ^^^ rotR (v.getD 4 0) 11 ^^^ rotR (v.getD 4 0) 25) + (v.getD 4 0 &&& v.getD 5 0 ^^^ ~~~ v.getD 4 0 &&& v.getD 6 0) + k + w
def uW (v : List (BitVec 32)) : BitVec 32 := (rotR (v.getD 0 0) 2 ^^^ rotR (v.getD 0 0) 13 ^^^ rotR (v.getD 0 0) 22) + (v.getD 0 0 &&& v.getD 1 0 ^^^ v.getD 0 0 &&& v.getD 2 0 ^^^ v.getD 1 0 &&& v.getD 2 0)
def roundW (v : List (BitVec 32)) (k w : BitVec 32) : List (BitVec 32) := [tW v k w + uW v, v.getD 0 0, v.getD 1 0, v.getD 2 0, v.getD 3 0 + tW v k w, v.getD 4 0, v.getD 5 0, v.getD 6 0]
def rds (w v : List (BitVec 32)) : Nat → List (BitVec 32)
  | 0 => v
  | n + 1 => roundW (rds w v n) (rootsL.getD n 0) (w.getD n 0)
theorem rds_len (w v : List (BitVec 32)) (hv : v.length = 8) (n : Nat) : (rds w v n).length = 8 := by
  cases n with
  | zero => exact hv
  | succ n => rfl
def addN (W v : List (BitVec 32)) : Nat → List (BitVec 32)
  | 0 => W
  | n + 1 => (addN W v n).set n ((addN W v n).getD n 0 + v.getD n 0)
theorem addN_len (W v : List (BitVec 32)) (n : Nat) : (addN W v n).length = W.length := by
  induction n with
  | zero => rfl
  | succ n ih => simp [addN, ih]
def blockW (W : List (BitVec 32)) (b : List (BitVec 8)) : List (BitVec 32) := addN W (rds (wl b 64) W 64) 8
theorem blockW_len (W : List (BitVec 32)) (b : List (BitVec 8)) : (blockW W b).length = W.length := addN_len _ _ _
theorem takeB (k : IntKind) {w : Nat} (n : Nat) (x : List (BitVec w)) (hx : x.length = n) (y : List AV) : List.take n (bvs k x ++ y) = bvs k x := by
  rw [← hx, List.take_append_of_le_length (by rw [bvs_length]; exact Nat.le_refl _), bvs_take, List.take_length]
theorem bvsS_getD (k : IntKind) {w : Nat} (L : List (BitVec w)) (S : List AV) (i : Nat) (hi : i < L.length) : (bvs k L ++ S).getD i (.int k 0) = .int k ((L.getD i 0).toNat : Int) := by
  rw [← bvs_getD]
  simp only [List.getD_eq_getElem?_getD]
  rw [List.getElem?_append_left (by rw [bvs_length]; exact hi)]
theorem bvsS_set (k : IntKind) {w : Nat} (L : List (BitVec w)) (S : List AV) (i : Nat) (hi : i < L.length) (x : BitVec w) : (bvs k L ++ S).set i (.int k (x.toNat : Int)) = bvs k (L.set i x) ++ S := by
  rw [List.set_append_left _ _ (by rw [bvs_length]; exact hi), bvs_set]
theorem set8 (a b c d e f g h : BitVec 32) : ((((((((List.replicate 8 (0 : BitVec 32)).set 0 a).set 1 b).set 2 c).set 3 d).set 4 e).set 5 f).set 6 g).set 7 h = [a, b, c, d, e, f, g, h] := rfl
set_option maxHeartbeats 400000 in
theorem blockOk (W : List (BitVec 32)) (hW : W.length = 8) (us : List Value) (hus : us.length = 2) (b : List (BitVec 8)) (h64 : 64 ≤ b.length) (hb : b.length ≤ 1000000) :
    CallOk Try.prog 200 [.ptr 0 0, .ro b.length (bvs .u8 b)] (fun _ => true) [(0, .cells (bvs .u32 W ++ us.map AV.val) 262)] 1
      fun v m nx => v = .tup [] ∧ m = [(0, .cells (bvs .u32 (blockW W b) ++ us.map AV.val) 262)] ∧ nx = 1 := by
  refine fn_ok Try.func200 rfl (by show 2 ≤ _; decide) ?_
  simp (maxSteps := 1000000) -implicitDefEqProofs only [go_sem, Nat.reduceBEq, Nat.reduceLT, Nat.reduceLeDiff, Nat.reduceEqDiff, Nat.reduceAdd, Nat.reduceMul, Nat.reduceSub, reduceIte, reduceCtorEq, Int.reduceLT, Int.reduceLE, Int.reduceToNat, Int.reduceAdd, Int.reduceSub, Int.reduceNeg, Int.reduceEq, Int.reduceNe, Int.reduceBEq, Int.reduceBNe, BitVec.reduceBEq, BitVec.reduceBNe, BitVec.reduceOfInt, BitVec.reduceSetWidth, -List.reduceReplicate, Try.results200, Try.ntmps200]
  refine (spreadOk b h64 hb).flatv (by simp only [argsx, argx_int, argx_bool, argx_fn, argx_ro, argx_nils, eq_self, true_and, and_true, and_self]; try trivial) (fun f => by simp only [renA, bvs_ren]) (by simp only [noRo, bvs_noRo]) ?_
  simp (maxSteps := 1000000) -implicitDefEqProofs only [go_sem, Nat.reduceBEq, Nat.reduceLT, Nat.reduceLeDiff, Nat.reduceEqDiff, Nat.reduceAdd, Nat.reduceMul, Nat.reduceSub, reduceIte, reduceCtorEq, Int.reduceLT, Int.reduceLE, Int.reduceToNat, Int.reduceAdd, Int.reduceSub, Int.reduceNeg, Int.reduceEq, Int.reduceNe, Int.reduceBEq, Int.reduceBNe, BitVec.reduceBEq, BitVec.reduceBNe, BitVec.reduceOfInt, BitVec.reduceSetWidth, -List.reduceReplicate]
  refine rootsOk.flatv (by simp only [argsx, argx_int, argx_bool, argx_fn, argx_ro, argx_nils, eq_self, true_and, and_true, and_self]; try trivial) (fun f => by simp only [renA, bvs_ren]) (by simp only [noRo, bvs_noRo]) ?_
  have hwl := wl_len b 64
  have hrl : rootsL.length = 64 := rfl
  have ht := takeB .u32 8 W hW (us.map AV.val)
  simp (maxSteps := 1000000) -implicitDefEqProofs only [go_sem, Nat.reduceBEq, Nat.reduceLT, Nat.reduceLeDiff, Nat.reduceEqDiff, Nat.reduceAdd, Nat.reduceMul, Nat.reduceSub, reduceIte, reduceCtorEq, Int.reduceLT, Int.reduceLE, Int.reduceToNat, Int.reduceAdd, Int.reduceSub, Int.reduceNeg, Int.reduceEq, Int.reduceNe, Int.reduceBEq, Int.reduceBNe, BitVec.reduceBEq, BitVec.reduceBNe, BitVec.reduceOfInt, BitVec.reduceSetWidth, -List.reduceReplicate, hwl, hrl, ht, hW]
  refine ⟨by omega, ?_⟩
  have hbw0 : blockW W b = addN W (rds (wl b 64) W 64) 8 := rfl
  generalize wl b 64 = Wd at *
  refine LoopOk.up 64 (fun n => ([(21, .int .i64 n), (0, .ptr 0 0), (6, .ptr 3 0), (5, .ptr 2 0), (4, .ptr 1 0)], [(3, .cells (bvs .u32 (rds Wd W n)) 259), (2, .cells (bvs .u32 rootsL) 271), (1, .cells (bvs .u32 Wd) 271), (0, .cells (bvs .u32 W ++ us.map AV.val) 262)], 4)) (Le.sameT (by decide) (by simp only [-List.reduceReplicate, slotsSame, Eng.look, Nat.reduceEqDiff, rds, reduceIte, reduceCtorEq, if_true, if_false, eq_self, true_and, and_true, Option.some.injEq, AV.int.injEq]; (try simp (disch := omega) only [wrap_i64]); (try simp [-List.reduceReplicate]); (try omega)) (by simp only [-List.reduceReplicate, memSame, Eng.look, Nat.reduceEqDiff, rds, reduceIte, reduceCtorEq, if_true, if_false, eq_self, true_and, and_true, Option.some.injEq, AObj.cells.injEq, bvs_rep8, bvs_rep16, bvs_rep32, bvs_rep64, bvs_flat_rep, Nat.reduceMul, bvs_append, List.replicate_append_replicate, Nat.reduceAdd, bvs_inj]; try simp [-List.reduceReplicate]) (by simp [-List.reduceReplicate])) ?_
  intro n hn
  simp (maxSteps := 1000000) -implicitDefEqProofs only [go_sem, Nat.reduceBEq, Nat.reduceLT, Nat.reduceLeDiff, Nat.reduceEqDiff, Nat.reduceAdd, Nat.reduceMul, Nat.reduceSub, reduceIte, reduceCtorEq, Int.reduceLT, Int.reduceLE, Int.reduceToNat, Int.reduceAdd, Int.reduceSub, Int.reduceNeg, Int.reduceEq, Int.reduceNe, Int.reduceBEq, Int.reduceBNe, BitVec.reduceBEq, BitVec.reduceBNe, BitVec.reduceOfInt, BitVec.reduceSetWidth, -List.reduceReplicate]
  refine cndv_split (fun h => ?_) (fun h => ?_)
  · have h' : n < 64 := by have := of_decide_eq_true h; omega
    have wn : IntKind.i64.wrap ((n : Int) + 1) = ((n + 1 : Nat) : Int) := by rw [wrap_i64] <;> omega
    have hV := rds_len Wd W hW n
    have hnext : rds Wd W (n + 1) = roundW (rds Wd W n) (rootsL.getD n 0) (Wd.getD n 0) := rfl
    generalize rds Wd W n = V at *
    simp (maxSteps := 1000000) -implicitDefEqProofs only [go_sem, Nat.reduceBEq, Nat.reduceLT, Nat.reduceLeDiff, Nat.reduceEqDiff, Nat.reduceAdd, Nat.reduceMul, Nat.reduceSub, reduceIte, reduceCtorEq, Int.reduceLT, Int.reduceLE, Int.reduceToNat, Int.reduceAdd, Int.reduceSub, Int.reduceNeg, Int.reduceEq, Int.reduceNe, Int.reduceBEq, Int.reduceBNe, BitVec.reduceBEq, BitVec.reduceBNe, BitVec.reduceOfInt, BitVec.reduceSetWidth, -List.reduceReplicate]
    refine ⟨Fx.mixed, .inl ⟨[(0, false), (1, false), (2, false), (3, false), (4, false), (5, false)], [], by kernel_rfl, (fun n hn => by cases hn), ?_⟩⟩
    simp (maxSteps := 1000000) -implicitDefEqProofs only [go_sem, Nat.reduceBEq, Nat.reduceLT, Nat.reduceLeDiff, Nat.reduceEqDiff, Nat.reduceAdd, Nat.reduceMul, Nat.reduceSub, reduceIte, reduceCtorEq, Int.reduceLT, Int.reduceLE, Int.reduceToNat, Int.reduceAdd, Int.reduceSub, Int.reduceNeg, Int.reduceEq, Int.reduceNe, Int.reduceBEq, Int.reduceBNe, BitVec.reduceBEq, BitVec.reduceBNe, BitVec.reduceOfInt, BitVec.reduceSetWidth, -List.reduceReplicate, hV]
    refine ⟨Fx.mixed, .inl ⟨[(0, false), (1, false), (2, false), (4, false), (7, false), (11, false), (12, false), (13, false), (14, false), (15, false), (16, false), (17, false), (18, false), (19, false), (20, false), (22, false), (23, false), (24, false), (26, false), (27, false), (28, false), (3, true), (5, true), (6, false), (8, true), (9, false), (10, false), (21, false), (25, false), (29, false), (30, false)], [], by kernel_rfl, (fun n hn => by cases hn), ?_⟩⟩
    simp (maxSteps := 1000000) -implicitDefEqProofs only [go_sem, Nat.reduceBEq, Nat.reduceLT, Nat.reduceLeDiff, Nat.reduceEqDiff, Nat.reduceAdd, Nat.reduceMul, Nat.reduceSub, reduceIte, reduceCtorEq, Int.reduceLT, Int.reduceLE, Int.reduceToNat, Int.reduceAdd, Int.reduceSub, Int.reduceNeg, Int.reduceEq, Int.reduceNe, Int.reduceBEq, Int.reduceBNe, BitVec.reduceBEq, BitVec.reduceBNe, BitVec.reduceOfInt, BitVec.reduceSetWidth, -List.reduceReplicate, hV, hrl, hwl]
    refine ⟨by omega, h', by omega, h', ?_⟩
    refine (rotOk (V.getD 4 0) 6 (by decide) (by decide)).flatv (by simp only [argsx, argx_int, argx_bool, argx_fn, argx_ro, argx_nils, eq_self, true_and, and_true, and_self]; try trivial) (fun _ => rfl) rfl ?_
    simp (maxSteps := 1000000) -implicitDefEqProofs only [go_sem, Nat.reduceBEq, Nat.reduceLT, Nat.reduceLeDiff, Nat.reduceEqDiff, Nat.reduceAdd, Nat.reduceMul, Nat.reduceSub, reduceIte, reduceCtorEq, Int.reduceLT, Int.reduceLE, Int.reduceToNat, Int.reduceAdd, Int.reduceSub, Int.reduceNeg, Int.reduceEq, Int.reduceNe, Int.reduceBEq, Int.reduceBNe, BitVec.reduceBEq, BitVec.reduceBNe, BitVec.reduceOfInt, BitVec.reduceSetWidth, -List.reduceReplicate]
    refine (rotOk (V.getD 4 0) 11 (by decide) (by decide)).flatv (by simp only [argsx, argx_int, argx_bool, argx_fn, argx_ro, argx_nils, eq_self, true_and, and_true, and_self]; try trivial) (fun _ => rfl) rfl ?_
    simp (maxSteps := 1000000) -implicitDefEqProofs only [go_sem, Nat.reduceBEq, Nat.reduceLT, Nat.reduceLeDiff, Nat.reduceEqDiff, Nat.reduceAdd, Nat.reduceMul, Nat.reduceSub, reduceIte, reduceCtorEq, Int.reduceLT, Int.reduceLE, Int.reduceToNat, Int.reduceAdd, Int.reduceSub, Int.reduceNeg, Int.reduceEq, Int.reduceNe, Int.reduceBEq, Int.reduceBNe, BitVec.reduceBEq, BitVec.reduceBNe, BitVec.reduceOfInt, BitVec.reduceSetWidth, -List.reduceReplicate]
    refine (rotOk (V.getD 4 0) 25 (by decide) (by decide)).flatv (by simp only [argsx, argx_int, argx_bool, argx_fn, argx_ro, argx_nils, eq_self, true_and, and_true, and_self]; try trivial) (fun _ => rfl) rfl ?_
    simp (maxSteps := 1000000) -implicitDefEqProofs only [go_sem, Nat.reduceBEq, Nat.reduceLT, Nat.reduceLeDiff, Nat.reduceEqDiff, Nat.reduceAdd, Nat.reduceMul, Nat.reduceSub, reduceIte, reduceCtorEq, Int.reduceLT, Int.reduceLE, Int.reduceToNat, Int.reduceAdd, Int.reduceSub, Int.reduceNeg, Int.reduceEq, Int.reduceNe, Int.reduceBEq, Int.reduceBNe, BitVec.reduceBEq, BitVec.reduceBNe, BitVec.reduceOfInt, BitVec.reduceSetWidth, -List.reduceReplicate]
    refine ⟨Fx.mixed, .inl ⟨[(0, false), (2, false), (5, false), (8, false), (9, false), (10, false), (11, false), (12, false), (13, false), (14, false), (15, false), (16, false), (17, false), (18, false), (19, false), (20, false), (21, false), (22, false), (1, true), (3, true), (4, false), (6, true), (7, false), (23, false), (24, false)], [], by kernel_rfl, (fun n hn => by cases hn), ?_⟩⟩
    simp (maxSteps := 1000000) -implicitDefEqProofs only [go_sem, Nat.reduceBEq, Nat.reduceLT, Nat.reduceLeDiff, Nat.reduceEqDiff, Nat.reduceAdd, Nat.reduceMul, Nat.reduceSub, reduceIte, reduceCtorEq, Int.reduceLT, Int.reduceLE, Int.reduceToNat, Int.reduceAdd, Int.reduceSub, Int.reduceNeg, Int.reduceEq, Int.reduceNe, Int.reduceBEq, Int.reduceBNe, BitVec.reduceBEq, BitVec.reduceBNe, BitVec.reduceOfInt, BitVec.reduceSetWidth, -List.reduceReplicate, hV]
    refine (rotOk (V.getD 0 0) 2 (by decide) (by decide)).flatv (by simp only [argsx, argx_int, argx_bool, argx_fn, argx_ro, argx_nils, eq_self, true_and, and_true, and_self]; try trivial) (fun _ => rfl) rfl ?_
    simp (maxSteps := 1000000) -implicitDefEqProofs only [go_sem, Nat.reduceBEq, Nat.reduceLT, Nat.reduceLeDiff, Nat.reduceEqDiff, Nat.reduceAdd, Nat.reduceMul, Nat.reduceSub, reduceIte, reduceCtorEq, Int.reduceLT, Int.reduceLE, Int.reduceToNat, Int.reduceAdd, Int.reduceSub, Int.reduceNeg, Int.reduceEq, Int.reduceNe, Int.reduceBEq, Int.reduceBNe, BitVec.reduceBEq, BitVec.reduceBNe, BitVec.reduceOfInt, BitVec.reduceSetWidth, -List.reduceReplicate]
    refine (rotOk (V.getD 0 0) 13 (by decide) (by decide)).flatv (by simp only [argsx, argx_int, argx_bool, argx_fn, argx_ro, argx_nils, eq_self, true_and, and_true, and_self]; try trivial) (fun _ => rfl) rfl ?_
    simp (maxSteps := 1000000) -implicitDefEqProofs only [go_sem, Nat.reduceBEq, Nat.reduceLT, Nat.reduceLeDiff, Nat.reduceEqDiff, Nat.reduceAdd, Nat.reduceMul, Nat.reduceSub, reduceIte, reduceCtorEq, Int.reduceLT, Int.reduceLE, Int.reduceToNat, Int.reduceAdd, Int.reduceSub, Int.reduceNeg, Int.reduceEq, Int.reduceNe, Int.reduceBEq, Int.reduceBNe, BitVec.reduceBEq, BitVec.reduceBNe, BitVec.reduceOfInt, BitVec.reduceSetWidth, -List.reduceReplicate]
    refine (rotOk (V.getD 0 0) 22 (by decide) (by decide)).flatv (by simp only [argsx, argx_int, argx_bool, argx_fn, argx_ro, argx_nils, eq_self, true_and, and_true, and_self]; try trivial) (fun _ => rfl) rfl ?_
    simp (maxSteps := 1000000) -implicitDefEqProofs only [go_sem, Nat.reduceBEq, Nat.reduceLT, Nat.reduceLeDiff, Nat.reduceEqDiff, Nat.reduceAdd, Nat.reduceMul, Nat.reduceSub, reduceIte, reduceCtorEq, Int.reduceLT, Int.reduceLE, Int.reduceToNat, Int.reduceAdd, Int.reduceSub, Int.reduceNeg, Int.reduceEq, Int.reduceNe, Int.reduceBEq, Int.reduceBNe, BitVec.reduceBEq, BitVec.reduceBNe, BitVec.reduceOfInt, BitVec.reduceSetWidth, -List.reduceReplicate, hV, wn]
    refine UpK_normal h' ?_
    rw [hnext]
    have hdr : List.drop 8 V = [] := List.drop_eq_nil_of_le (by rw [hV]; exact Nat.le_refl _)
    exact (Le.sameT (by decide) (by simp only [-List.reduceReplicate, slotsSame, Eng.look, Nat.reduceEqDiff, set8, hdr, List.append_nil, roundW, tW, uW, reduceIte, reduceCtorEq, if_true, if_false, eq_self, true_and, and_true, Option.some.injEq, AV.int.injEq]; (try simp (disch := omega) only [wrap_i64]); (try simp [-List.reduceReplicate]); (try omega)) (by simp only [-List.reduceReplicate, memSame, Eng.look, Nat.reduceEqDiff, set8, hdr, List.append_nil, roundW, tW, uW, reduceIte, reduceCtorEq, if_true, if_false, eq_self, true_and, and_true, Option.some.injEq, AObj.cells.injEq, bvs_rep8, bvs_rep16, bvs_rep32, bvs_rep64, bvs_flat_rep, Nat.reduceMul, bvs_append, List.replicate_append_replicate, Nat.reduceAdd, bvs_inj]; try simp [-List.reduceReplicate]) (by simp [-List.reduceReplicate]))
  · have h' : n = 64 := by have := of_decide_eq_false h; omega
    subst h'
    have hV := rds_len Wd W hW 64
    generalize rds Wd W 64 = V at *
    have htV : List.take 8 V = V := List.take_of_length_le (by rw [hV]; exact Nat.le_refl _)
    simp (maxSteps := 1000000) -implicitDefEqProofs only [go_sem, Nat.reduceBEq, Nat.reduceLT, Nat.reduceLeDiff, Nat.reduceEqDiff, Nat.reduceAdd, Nat.reduceMul, Nat.reduceSub, reduceIte, reduceCtorEq, Int.reduceLT, Int.reduceLE, Int.reduceToNat, Int.reduceAdd, Int.reduceSub, Int.reduceNeg, Int.reduceEq, Int.reduceNe, Int.reduceBEq, Int.reduceBNe, BitVec.reduceBEq, BitVec.reduceBNe, BitVec.reduceOfInt, BitVec.reduceSetWidth, -List.reduceReplicate, hV, htV]
    refine LoopOk.up 8 (fun n => ([(102, .int .i64 n), (101, .agg (bvs .u32 V)), (0, .ptr 0 0)], [(0, .cells (bvs .u32 (addN W V n) ++ us.map AV.val) 262)], 4)) (Le.sameT (by decide) (by simp only [-List.reduceReplicate, slotsSame, Eng.look, Nat.reduceEqDiff, addN, reduceIte, reduceCtorEq, if_true, if_false, eq_self, true_and, and_true, Option.some.injEq, AV.int.injEq]; (try simp (disch := omega) only [wrap_i64]); (try simp [-List.reduceReplicate]); (try omega)) (by simp only [-List.reduceReplicate, memSame, Eng.look, Nat.reduceEqDiff, addN, reduceIte, reduceCtorEq, if_true, if_false, eq_self, true_and, and_true, Option.some.injEq, AObj.cells.injEq, bvs_rep8, bvs_rep16, bvs_rep32, bvs_rep64, bvs_flat_rep, Nat.reduceMul, bvs_append, List.replicate_append_replicate, Nat.reduceAdd, bvs_inj]; try simp [-List.reduceReplicate]) (by simp [-List.reduceReplicate])) ?_
    intro n hn
    simp (maxSteps := 1000000) -implicitDefEqProofs only [go_sem, Nat.reduceBEq, Nat.reduceLT, Nat.reduceLeDiff, Nat.reduceEqDiff, Nat.reduceAdd, Nat.reduceMul, Nat.reduceSub, reduceIte, reduceCtorEq, Int.reduceLT, Int.reduceLE, Int.reduceToNat, Int.reduceAdd, Int.reduceSub, Int.reduceNeg, Int.reduceEq, Int.reduceNe, Int.reduceBEq, Int.reduceBNe, BitVec.reduceBEq, BitVec.reduceBNe, BitVec.reduceOfInt, BitVec.reduceSetWidth, -List.reduceReplicate]
    refine cndv_split (fun h => ?_) (fun h => ?_)
    · have h' : n < 8 := by have := of_decide_eq_true h; omega
      have wn : IntKind.i64.wrap ((n : Int) + 1) = ((n + 1 : Nat) : Int) := by rw [wrap_i64] <;> omega
      have hal := addN_len W V n
      have hgd := bvsS_getD .u32 (addN W V n) (us.map AV.val) n (by omega)
      have hst := bvsS_set .u32 (addN W V n) (us.map AV.val) n (by omega) ((addN W V n).getD n 0 + V.getD n 0)
      simp (maxSteps := 1000000) -implicitDefEqProofs only [go_sem, Nat.reduceBEq, Nat.reduceLT, Nat.reduceLeDiff, Nat.reduceEqDiff, Nat.reduceAdd, Nat.reduceMul, Nat.reduceSub, reduceIte, reduceCtorEq, Int.reduceLT, Int.reduceLE, Int.reduceToNat, Int.reduceAdd, Int.reduceSub, Int.reduceNeg, Int.reduceEq, Int.reduceNe, Int.reduceBEq, Int.reduceBNe, BitVec.reduceBEq, BitVec.reduceBNe, BitVec.reduceOfInt, BitVec.reduceSetWidth, -List.reduceReplicate, hV]
      refine ⟨by omega, by omega, ?_⟩
      refine ⟨Fx.mixed, .inl ⟨[(0, false), (1, false), (2, false), (3, false), (4, false), (6, false), (8, false), (9, false), (5, true), (7, false), (10, false), (11, true)], [0], by kernel_rfl, (fun n hn => by cases List.mem_singleton.1 hn; exact ⟨rfl, rfl⟩), ?_⟩⟩
      simp (maxSteps := 1000000) -implicitDefEqProofs only [go_sem, Nat.reduceBEq, Nat.reduceLT, Nat.reduceLeDiff, Nat.reduceEqDiff, Nat.reduceAdd, Nat.reduceMul, Nat.reduceSub, reduceIte, reduceCtorEq, Int.reduceLT, Int.reduceLE, Int.reduceToNat, Int.reduceAdd, Int.reduceSub, Int.reduceNeg, Int.reduceEq, Int.reduceNe, Int.reduceBEq, Int.reduceBNe, BitVec.reduceBEq, BitVec.reduceBNe, BitVec.reduceOfInt, BitVec.reduceSetWidth, -List.reduceReplicate, hgd, hst, wn, hal, hus, hW, List.length_append]
      exact ⟨by omega, by omega, by omega, by omega, UpK_normal h' (Le.sameT (by decide) (by simp only [-List.reduceReplicate, slotsSame, Eng.look, Nat.reduceEqDiff, addN, reduceIte, reduceCtorEq, if_true, if_false, eq_self, true_and, and_true, Option.some.injEq, AV.int.injEq]; (try simp (disch := omega) only [wrap_i64]); (try simp [-List.reduceReplicate]); (try omega)) (by simp only [-List.reduceReplicate, memSame, Eng.look, Nat.reduceEqDiff, addN, reduceIte, reduceCtorEq, if_true, if_false, eq_self, true_and, and_true, Option.some.injEq, AObj.cells.injEq, bvs_rep8, bvs_rep16, bvs_rep32, bvs_rep64, bvs_flat_rep, Nat.reduceMul, bvs_append, List.replicate_append_replicate, Nat.reduceAdd, bvs_inj]; try simp [-List.reduceReplicate]) (by simp [-List.reduceReplicate]))⟩
    · have h' : n = 8 := by have := of_decide_eq_false h; omega
      subst h'
      simp (maxSteps := 1000000) -implicitDefEqProofs only [go_sem, Nat.reduceBEq, Nat.reduceLT, Nat.reduceLeDiff, Nat.reduceEqDiff, Nat.reduceAdd, Nat.reduceMul, Nat.reduceSub, reduceIte, reduceCtorEq, Int.reduceLT, Int.reduceLE, Int.reduceToNat, Int.reduceAdd, Int.reduceSub, Int.reduceNeg, Int.reduceEq, Int.reduceNe, Int.reduceBEq, Int.reduceBNe, BitVec.reduceBEq, BitVec.reduceBNe, BitVec.reduceOfInt, BitVec.reduceSetWidth, -List.reduceReplicate]
      rw [hbw0]
      refine ⟨[], .tup [], [(0, .cells (bvs .u32 (addN W V 8) ++ us.map AV.val) 262)], 1, ⟨rfl, by decide⟩, rfl, ⟨by simp only [renO, renL_append, bvs_ren, renL_vals]; rfl, rfl, trivial⟩, by simp [injOn], (fun n e => by cases e), rfl, rfl, rfl⟩
end Go.Proofs.Ytmdeoikpiiambaa
/-! Shd -/
namespace Go.Proofs.Ytmdeoikpiiambaa
open Go Go.Eng
theorem tail8 (W : List (BitVec 32)) (hW : W.length = 8) (x y : AV) : (bvs .u32 W ++ [x, y]).getD 8 .nils = x := by
  simp only [List.getD_eq_getElem?_getD]
  rw [List.getElem?_append_right (by rw [bvs_length, hW]; exact Nat.le_refl _), bvs_length, hW]
  rfl
theorem tail9 (W : List (BitVec 32)) (hW : W.length = 8) (x y : AV) : (bvs .u32 W ++ [x, y]).getD 9 (.int .u64 0) = y := by
  simp only [List.getD_eq_getElem?_getD]
  rw [List.getElem?_append_right (by rw [bvs_length, hW]; decide), bvs_length, hW]
  rfl
theorem set8' (W : List (BitVec 32)) (hW : W.length = 8) (x y z : AV) : (bvs .u32 W ++ [x, y]).set 8 z = bvs .u32 W ++ [z, y] := by
  rw [List.set_append_right _ _ (by rw [bvs_length, hW]; exact Nat.le_refl _), bvs_length, hW]
  rfl
theorem set9 (W : List (BitVec 32)) (hW : W.length = 8) (x y z : AV) : (bvs .u32 W ++ [x, y]).set 9 z = bvs .u32 W ++ [x, z] := by
  rw [List.set_append_right _ _ (by rw [bvs_length, hW]; decide), bvs_length, hW]
  rfl
def bl (W : List (BitVec 32)) (b : List (BitVec 8)) : Nat → List (BitVec 32)
  | 0 => W
  | n + 1 => blockW (bl W b n) (b.drop (64 * n))
theorem bl_len (W : List (BitVec 32)) (b : List (BitVec 8)) (n : Nat) : (bl W b n).length = W.length := by
  induction n with
  | zero => rfl
  | succ n ih => rw [bl, blockW_len, ih]
theorem newOk : CallOk Try.prog 176 [] (fun _ => true) [] 0 fun v m nx => v = .ptr 0 0 ∧ m = [(0, .cells (bvs .u32 beginL ++ [.nils, .int .u64 (((0 : BitVec 64).toNat : Nat) : Int)]) 262)] ∧ nx = 1 := by
  refine fn_ok Try.func176 rfl (Nat.zero_le _) ?_
  simp (maxSteps := 1000000) -implicitDefEqProofs only [go_sem, Nat.reduceBEq, Nat.reduceLT, Nat.reduceLeDiff, Nat.reduceEqDiff, Nat.reduceAdd, Nat.reduceMul, Nat.reduceSub, reduceIte, reduceCtorEq, Int.reduceLT, Int.reduceLE, Int.reduceToNat, Int.reduceAdd, Int.reduceSub, Int.reduceNeg, Int.reduceEq, Int.reduceNe, Int.reduceBEq, Int.reduceBNe, BitVec.reduceBEq, BitVec.reduceBNe, BitVec.reduceOfInt, BitVec.reduceSetWidth, -List.reduceReplicate, Try.results176, Try.ntmps176]
  refine beginOk.flatv trivial (fun f => by simp only [renA, bvs_ren]) (by simp only [noRo, bvs_noRo]) ?_
  have hl : beginL.length = 8 := rfl
  simp (maxSteps := 1000000) -implicitDefEqProofs only [go_sem, Nat.reduceBEq, Nat.reduceLT, Nat.reduceLeDiff, Nat.reduceEqDiff, Nat.reduceAdd, Nat.reduceMul, Nat.reduceSub, reduceIte, reduceCtorEq, Int.reduceLT, Int.reduceLE, Int.reduceToNat, Int.reduceAdd, Int.reduceSub, Int.reduceNeg, Int.reduceEq, Int.reduceNe, Int.reduceBEq, Int.reduceBNe, BitVec.reduceBEq, BitVec.reduceBNe, BitVec.reduceOfInt, BitVec.reduceSetWidth, -List.reduceReplicate, hl]
  exact ⟨[(0, 0)], .ptr 0 0, [(0, .cells (bvs .u32 beginL ++ [.nils, .int .u64 (((0 : BitVec 64).toNat : Nat) : Int)]) 262)], 1, ⟨rfl, by decide⟩, rfl, ⟨rfl, rfl, trivial⟩, by simp [injOn], (fun n e => by cases e), rfl, rfl, rfl⟩
set_option maxHeartbeats 800000 in
theorem writeNil (W : List (BitVec 32)) (hW : W.length = 8) (many : BitVec 64) (b : List (BitVec 8)) (hb : b.length ≤ 100000) :
    CallOk Try.prog 177 [.ptr 0 0, .ro b.length (bvs .u8 b)] (fun _ => true) [(0, .cells (bvs .u32 W ++ [.nils, .int .u64 (many.toNat : Int)]) 262)] 1
      fun v m nx => v = .tup [] ∧ ∃ (cap : Nat) (sp : List Value), m = [(0, .cells (bvs .u32 (bl W ([] ++ b) (([] ++ b).length / 64)) ++ [.sl 1 0 (([] ++ b).drop (64 * (([] ++ b).length / 64))).length cap, .int .u64 ((many + BitVec.ofNat 64 b.length).toNat : Int)]) 262), (1, .cells (bvs .u8 (([] ++ b).drop (64 * (([] ++ b).length / 64))) ++ sp.map AV.val) 5)] ∧ nx = 1 + 1 ∧ (([] ++ b).drop (64 * (([] ++ b).length / 64))).length + sp.length = cap ∧ cap ≤ maxI := by
  refine fn_ok Try.func177 rfl (by show 2 ≤ _; decide) ?_
  generalize hX : ([] ++ b) = X
  have hg8 : ∀ (x y : AV), (bvs .u32 W ++ [x, y]).getD 8 .nils = x := fun x y => tail8 W hW x y
  have hg9 : ∀ (x y : AV), (bvs .u32 W ++ [x, y]).getD 9 (.int .u64 0) = y := fun x y => tail9 W hW x y
  have hs9 : ∀ (x y z : AV), (bvs .u32 W ++ [x, y]).set 9 z = bvs .u32 W ++ [x, z] := fun x y z => set9 W hW x y z
  simp (maxSteps := 1000000) -implicitDefEqProofs only [go_sem, Nat.reduceBEq, Nat.reduceLT, Nat.reduceLeDiff, Nat.reduceEqDiff, Nat.reduceAdd, Nat.reduceMul, Nat.reduceSub, reduceIte, reduceCtorEq, Int.reduceLT, Int.reduceLE, Int.reduceToNat, Int.reduceAdd, Int.reduceSub, Int.reduceNeg, Int.reduceEq, Int.reduceNe, Int.reduceBEq, Int.reduceBNe, BitVec.reduceBEq, BitVec.reduceBNe, BitVec.reduceOfInt, BitVec.reduceSetWidth, -List.reduceReplicate, Try.results177, Try.ntmps177, hg8, hg9, hs9, hW, List.length_append, List.take_length]
  refine appk_gen (X := ([] : List (BitVec 8))) (.inl ⟨rfl, rfl⟩) (fun n off len cap e => by first | (cases e; done) | (cases e; decide)) (fun _ => rfl) (by decide) (by (try simp only [List.length_nil]); omega) fun v' m' nx' hap hnx hsl hoth => ?_
  have hm0 : Eng.look m' 0 = some (.cells (bvs .u32 W ++ [.nils, .int .u64 ((many + BitVec.ofNat 64 b.length).toNat : Int)]) 262) := by
    rw [hoth 0 (by decide) (fun _ _ _ e => by cases e)]
    rfl
  rw [hX] at hap
  have hXl : X.length ≤ 200000 := by rw [← hX, List.length_append]; (try simp only [List.length_nil]); omega
  generalize hmany : (many + BitVec.ofNat 64 b.length) = many' at *
  simp (maxSteps := 1000000) -implicitDefEqProofs only [go_sem, Nat.reduceBEq, Nat.reduceLT, Nat.reduceLeDiff, Nat.reduceEqDiff, Nat.reduceAdd, Nat.reduceMul, Nat.reduceSub, reduceIte, reduceCtorEq, Int.reduceLT, Int.reduceLE, Int.reduceToNat, Int.reduceAdd, Int.reduceSub, Int.reduceNeg, Int.reduceEq, Int.reduceNe, Int.reduceBEq, Int.reduceBNe, BitVec.reduceBEq, BitVec.reduceBNe, BitVec.reduceOfInt, BitVec.reduceSetWidth, -List.reduceReplicate]
  refine LoopOk.upF (X.length / 64) (fun n => ([(4, .ro (X.length - 64 * n) (bvs .u8 (X.drop (64 * n)))), (0, .ptr 0 0)], [(0, .cells (bvs .u32 (bl W X n) ++ [.nils, .int .u64 (many'.toNat : Int)]) 262)], 1)) ?_ ?_
  · obtain ⟨o, ho, hfz⟩ := hap.fz
    refine .inr ⟨o, fun n l e => ⟨rfl, 5, (ho n l e).1⟩, [], ⟨rfl, Nat.le_refl _, ⟨?_, ?_, trivial⟩, ⟨?_, rfl, trivial⟩, by simp [injOn], (fun n e => by cases e), fun _ _ => rfl⟩⟩
    · rw [fzS_look]
      simp only [Eng.look, Nat.reduceEqDiff, reduceIte, if_true, if_false, Option.map_some, hfz, renA, bvs_ren, Nat.mul_zero, Nat.sub_zero, List.drop_zero]
    · rw [fzS_look]
      simp only [Eng.look, Nat.reduceEqDiff, reduceIte, if_true, if_false, Option.map_some, fzA]
      rfl
    · have hd0 : Eng.look (delO m' o) 0 = Eng.look m' 0 := by
        cases o with
        | none => rfl
        | some p =>
          obtain ⟨n, l⟩ := p
          obtain ⟨len, cap, e⟩ := (ho n l rfl).2
          exact look_del_other (by rw [(hsl n 0 len cap e).1]; decide)
      change Eng.look (delO m' o) 0 = _
      rw [hd0, hm0]
      simp only [renO, renL_append, bvs_ren, bl]
      rfl
  intro n hn
  have hbl := bl_len W X n
  have hdl : (X.drop (64 * n)).length = X.length - 64 * n := List.length_drop
  rcases Nat.lt_or_ge n (X.length / 64) with h' | h'
  · have f1 : decide (((X.length - 64 * n : Nat) : Int) ≥ 64) = true := by simp; omega
    simp (maxSteps := 1000000) -implicitDefEqProofs only [go_sem, Nat.reduceBEq, Nat.reduceLT, Nat.reduceLeDiff, Nat.reduceEqDiff, Nat.reduceAdd, Nat.reduceMul, Nat.reduceSub, reduceIte, reduceCtorEq, Int.reduceLT, Int.reduceLE, Int.reduceToNat, Int.reduceAdd, Int.reduceSub, Int.reduceNeg, Int.reduceEq, Int.reduceNe, Int.reduceBEq, Int.reduceBNe, BitVec.reduceBEq, BitVec.reduceBNe, BitVec.reduceOfInt, BitVec.reduceSetWidth, -List.reduceReplicate, f1]
    refine CallG.hide (n := 0) (ty := 262) (A := bvs .u32 (bl W X n)) (T := [.nils, .int .u64 (many'.toNat : Int)]) rfl fun us hus => ?_
    rw [← hdl]
    refine (blockOk (bl W X n) (by rw [hbl]; exact hW) us hus (X.drop (64 * n)) (by omega) (by omega)).use [] rfl ⟨by simp only [renO, renL_append, bvs_ren, renL_vals]; rfl, fun _ => rfl, trivial⟩ (by simp [injOn]) rfl (fun _ _ => rfl) (fun _ e => by cases e) ⟨rfl, by simp only [argx, renA, bvs_ren], trivial⟩ ?_
    rintro v m1 nx1 ⟨rfl, rfl, rfl⟩
    refine ⟨rfl, by simp only [noRoM, noRoO, noRoL_vals', Bool.and_self], Nat.le_refl _, bvs .u32 (bl W X (n + 1)), by simp only [renM, renO, renL_append, bvs_ren, renL_vals, bl]; rfl, ?_⟩
    change After _ _ _ _ [(0, .cells (bvs .u32 (bl W X (n + 1)) ++ [.nils, .int .u64 (many'.toNat : Int)]) 262)] 1
    have e1 : X.length - 64 * n - 64 = X.length - 64 * (n + 1) := by omega
    have e2 : List.take (X.length - 64 * (n + 1)) (List.drop (64 * n + 64) X) = X.drop (64 * (n + 1)) := by
      rw [show 64 * n + 64 = 64 * (n + 1) by omega]
      exact List.take_of_length_le (by rw [List.length_drop]; exact Nat.le_refl _)
    simp (maxSteps := 1000000) -implicitDefEqProofs only [go_sem, Nat.reduceBEq, Nat.reduceLT, Nat.reduceLeDiff, Nat.reduceEqDiff, Nat.reduceAdd, Nat.reduceMul, Nat.reduceSub, reduceIte, reduceCtorEq, Int.reduceLT, Int.reduceLE, Int.reduceToNat, Int.reduceAdd, Int.reduceSub, Int.reduceNeg, Int.reduceEq, Int.reduceNe, Int.reduceBEq, Int.reduceBNe, BitVec.reduceBEq, BitVec.reduceBNe, BitVec.reduceOfInt, BitVec.reduceSetWidth, -List.reduceReplicate, hdl, e1, e2, List.drop_drop]
    refine ⟨by omega, UpK_normal h' (Le.sameT (by decide) (by simp only [-List.reduceReplicate, slotsSame, Eng.look, Nat.reduceEqDiff, reduceIte, reduceCtorEq, if_true, if_false, eq_self, true_and, and_true, Option.some.injEq, AV.int.injEq]; (try simp (disch := omega) only [wrap_i64]); (try simp [-List.reduceReplicate]); (try omega)) (by simp only [-List.reduceReplicate, memSame, Eng.look, Nat.reduceEqDiff, reduceIte, reduceCtorEq, if_true, if_false, eq_self, true_and, and_true, Option.some.injEq, AObj.cells.injEq, bvs_rep8, bvs_rep16, bvs_rep32, bvs_rep64, bvs_flat_rep, Nat.reduceMul, bvs_append, List.replicate_append_replicate, Nat.reduceAdd, bvs_inj]; try simp [-List.reduceReplicate]) (by simp [-List.reduceReplicate]))⟩
  · have f1 : decide (((X.length - 64 * n : Nat) : Int) ≥ 64) = false := by simp; omega
    have hnn : n = X.length / 64 := by omega
    subst hnn
    have htl : List.take (X.length - 64 * (X.length / 64)) (X.drop (64 * (X.length / 64))) = X.drop (64 * (X.length / 64)) := by rw [← hdl, List.take_length]
    have hgs : ∀ (x y z : AV), (bvs .u32 (bl W X (X.length / 64)) ++ [x, y]).set 8 z = bvs .u32 (bl W X (X.length / 64)) ++ [z, y] := fun x y z => set8' _ (by rw [hbl]; exact hW) x y z
    simp (maxSteps := 1000000) -implicitDefEqProofs only [go_sem, Nat.reduceBEq, Nat.reduceLT, Nat.reduceLeDiff, Nat.reduceEqDiff, Nat.reduceAdd, Nat.reduceMul, Nat.reduceSub, reduceIte, reduceCtorEq, Int.reduceLT, Int.reduceLE, Int.reduceToNat, Int.reduceAdd, Int.reduceSub, Int.reduceNeg, Int.reduceEq, Int.reduceNe, Int.reduceBEq, Int.reduceBNe, BitVec.reduceBEq, BitVec.reduceBNe, BitVec.reduceOfInt, BitVec.reduceSetWidth, -List.reduceReplicate, f1, htl]
    refine ⟨.inl trivial, hdl, ?_⟩
    rw [← hdl]
    refine appk_bvs (x := ([] : List (BitVec 8))) (sp := []) rfl rfl rfl (by decide) (by decide) (by rw [hdl, List.length_nil]; omega) fun cap sp g1 g2 => ?_
    simp (maxSteps := 1000000) -implicitDefEqProofs only [go_sem, Nat.reduceBEq, Nat.reduceLT, Nat.reduceLeDiff, Nat.reduceEqDiff, Nat.reduceAdd, Nat.reduceMul, Nat.reduceSub, reduceIte, reduceCtorEq, Int.reduceLT, Int.reduceLE, Int.reduceToNat, Int.reduceAdd, Int.reduceSub, Int.reduceNeg, Int.reduceEq, Int.reduceNe, Int.reduceBEq, Int.reduceBNe, BitVec.reduceBEq, BitVec.reduceBNe, BitVec.reduceOfInt, BitVec.reduceSetWidth, -List.reduceReplicate, hgs, hbl, hW, List.length_append]
    refine ⟨[(1, 2)], .tup [], [(0, .cells (bvs .u32 (bl W X (X.length / 64)) ++ [.sl 1 0 (X.drop (64 * (X.length / 64))).length cap, .int .u64 (many'.toNat : Int)]) 262), (1, .cells (bvs .u8 (X.drop (64 * (X.length / 64))) ++ sp.map AV.val) 5)], 1 + 1, ⟨rfl, Nat.le_succ _⟩, rfl, ⟨?_, rfl, ?_, rfl, trivial⟩, ?_, (fun n e => by cases e), rfl, cap, sp, rfl, rfl, by rw [List.nil_append] at g1; exact g1, g2⟩
    · simp only [renO, renL_append, bvs_ren]; rfl
    · simp only [renO, renL_vals']; rfl
    · simp [injOn]; decide
set_option maxHeartbeats 800000 in
theorem writeOk (W : List (BitVec 32)) (hW : W.length = 8) (many : BitVec 64) (rest : List (BitVec 8)) (hr : rest.length ≤ 100) (cap0 : Nat) (sp0 : List Value) (hc0 : rest.length + sp0.length = cap0) (hm0 : cap0 ≤ maxI) (b : List (BitVec 8)) (hb : b.length ≤ 100000) :
    CallOk Try.prog 177 [.ptr 0 0, .ro b.length (bvs .u8 b)] (fun _ => true) [(0, .cells (bvs .u32 W ++ [.sl 1 0 rest.length cap0, .int .u64 (many.toNat : Int)]) 262), (1, .cells (bvs .u8 rest ++ sp0.map AV.val) 5)] 2
      fun v m nx => v = .tup [] ∧ ∃ (cap : Nat) (sp : List Value), m = [(0, .cells (bvs .u32 (bl W (rest ++ b) ((rest ++ b).length / 64)) ++ [.sl 2 0 ((rest ++ b).drop (64 * ((rest ++ b).length / 64))).length cap, .int .u64 ((many + BitVec.ofNat 64 b.length).toNat : Int)]) 262), (2, .cells (bvs .u8 ((rest ++ b).drop (64 * ((rest ++ b).length / 64))) ++ sp.map AV.val) 5)] ∧ nx = 2 + 1 ∧ ((rest ++ b).drop (64 * ((rest ++ b).length / 64))).length + sp.length = cap ∧ cap ≤ maxI := by
  refine fn_ok Try.func177 rfl (by show 2 ≤ _; decide) ?_
  generalize hX : (rest ++ b) = X
  have hg8 : ∀ (x y : AV), (bvs .u32 W ++ [x, y]).getD 8 .nils = x := fun x y => tail8 W hW x y
  have hg9 : ∀ (x y : AV), (bvs .u32 W ++ [x, y]).getD 9 (.int .u64 0) = y := fun x y => tail9 W hW x y
  have hs9 : ∀ (x y z : AV), (bvs .u32 W ++ [x, y]).set 9 z = bvs .u32 W ++ [x, z] := fun x y z => set9 W hW x y z
  simp (maxSteps := 1000000) -implicitDefEqProofs only [go_sem, Nat.reduceBEq, Nat.reduceLT, Nat.reduceLeDiff, Nat.reduceEqDiff, Nat.reduceAdd, Nat.reduceMul, Nat.reduceSub, reduceIte, reduceCtorEq, Int.reduceLT, Int.reduceLE, Int.reduceToNat, Int.reduceAdd, Int.reduceSub, Int.reduceNeg, Int.reduceEq, Int.reduceNe, Int.reduceBEq, Int.reduceBNe, BitVec.reduceBEq, BitVec.reduceBNe, BitVec.reduceOfInt, BitVec.reduceSetWidth, -List.reduceReplicate, Try.results177, Try.ntmps177, hg8, hg9, hs9, hW, List.length_append, List.take_length]
  refine appk_gen (X := rest) (.inr ⟨1, cap0, sp0, rfl, rfl, hc0, hm0⟩) (fun n off len cap e => by first | (cases e; done) | (cases e; decide)) (fun _ => rfl) (by decide) (by (try simp only [List.length_nil]); omega) fun v' m' nx' hap hnx hsl hoth => ?_
  have hm0 : Eng.look m' 0 = some (.cells (bvs .u32 W ++ [.sl 1 0 rest.length cap0, .int .u64 ((many + BitVec.ofNat 64 b.length).toNat : Int)]) 262) := by
    rw [hoth 0 (by decide) (fun _ _ _ e => by cases e)]
    rfl
  rw [hX] at hap
  have hXl : X.length ≤ 200000 := by rw [← hX, List.length_append]; (try simp only [List.length_nil]); omega
  generalize hmany : (many + BitVec.ofNat 64 b.length) = many' at *
  simp (maxSteps := 1000000) -implicitDefEqProofs only [go_sem, Nat.reduceBEq, Nat.reduceLT, Nat.reduceLeDiff, Nat.reduceEqDiff, Nat.reduceAdd, Nat.reduceMul, Nat.reduceSub, reduceIte, reduceCtorEq, Int.reduceLT, Int.reduceLE, Int.reduceToNat, Int.reduceAdd, Int.reduceSub, Int.reduceNeg, Int.reduceEq, Int.reduceNe, Int.reduceBEq, Int.reduceBNe, BitVec.reduceBEq, BitVec.reduceBNe, BitVec.reduceOfInt, BitVec.reduceSetWidth, -List.reduceReplicate]
  refine LoopOk.upF (X.length / 64) (fun n => ([(4, .ro (X.length - 64 * n) (bvs .u8 (X.drop (64 * n)))), (0, .ptr 0 0)], [(0, .cells (bvs .u32 (bl W X n) ++ [.sl 1 0 rest.length cap0, .int .u64 (many'.toNat : Int)]) 262)], 2)) ?_ ?_
  · obtain ⟨o, ho, hfz⟩ := hap.fz
    refine .inr ⟨o, fun n l e => ⟨rfl, 5, (ho n l e).1⟩, [], ⟨rfl, Nat.le_refl _, ⟨?_, ?_, trivial⟩, ⟨?_, rfl, trivial⟩, by simp [injOn], (fun n e => by cases e), fun _ _ => rfl⟩⟩
    · rw [fzS_look]
      simp only [Eng.look, Nat.reduceEqDiff, reduceIte, if_true, if_false, Option.map_some, hfz, renA, bvs_ren, Nat.mul_zero, Nat.sub_zero, List.drop_zero]
    · rw [fzS_look]
      simp only [Eng.look, Nat.reduceEqDiff, reduceIte, if_true, if_false, Option.map_some, fzA]
      rfl
    · have hd0 : Eng.look (delO m' o) 0 = Eng.look m' 0 := by
        cases o with
        | none => rfl
        | some p =>
          obtain ⟨n, l⟩ := p
          obtain ⟨len, cap, e⟩ := (ho n l rfl).2
          exact look_del_other (by rw [(hsl n 0 len cap e).1]; decide)
      change Eng.look (delO m' o) 0 = _
      rw [hd0, hm0]
      simp only [renO, renL_append, bvs_ren, bl]
      rfl
  intro n hn
  have hbl := bl_len W X n
  have hdl : (X.drop (64 * n)).length = X.length - 64 * n := List.length_drop
  rcases Nat.lt_or_ge n (X.length / 64) with h' | h'
  · have f1 : decide (((X.length - 64 * n : Nat) : Int) ≥ 64) = true := by simp; omega
    simp (maxSteps := 1000000) -implicitDefEqProofs only [go_sem, Nat.reduceBEq, Nat.reduceLT, Nat.reduceLeDiff, Nat.reduceEqDiff, Nat.reduceAdd, Nat.reduceMul, Nat.reduceSub, reduceIte, reduceCtorEq, Int.reduceLT, Int.reduceLE, Int.reduceToNat, Int.reduceAdd, Int.reduceSub, Int.reduceNeg, Int.reduceEq, Int.reduceNe, Int.reduceBEq, Int.reduceBNe, BitVec.reduceBEq, BitVec.reduceBNe, BitVec.reduceOfInt, BitVec.reduceSetWidth, -List.reduceReplicate, f1]
    refine CallG.hide (n := 0) (ty := 262) (A := bvs .u32 (bl W X n)) (T := [.sl 1 0 rest.length cap0, .int .u64 (many'.toNat : Int)]) rfl fun us hus => ?_
    rw [← hdl]
    refine (blockOk (bl W X n) (by rw [hbl]; exact hW) us hus (X.drop (64 * n)) (by omega) (by omega)).use [] rfl ⟨by simp only [renO, renL_append, bvs_ren, renL_vals]; rfl, fun _ => rfl, trivial⟩ (by simp [injOn]) rfl (fun _ _ => rfl) (fun _ e => by cases e) ⟨rfl, by simp only [argx, renA, bvs_ren], trivial⟩ ?_
    rintro v m1 nx1 ⟨rfl, rfl, rfl⟩
    refine ⟨rfl, by simp only [noRoM, noRoO, noRoL_vals', Bool.and_self], Nat.le_refl _, bvs .u32 (bl W X (n + 1)), by simp only [renM, renO, renL_append, bvs_ren, renL_vals, bl]; rfl, ?_⟩
    change After _ _ _ _ [(0, .cells (bvs .u32 (bl W X (n + 1)) ++ [.sl 1 0 rest.length cap0, .int .u64 (many'.toNat : Int)]) 262)] 2
    have e1 : X.length - 64 * n - 64 = X.length - 64 * (n + 1) := by omega
    have e2 : List.take (X.length - 64 * (n + 1)) (List.drop (64 * n + 64) X) = X.drop (64 * (n + 1)) := by
      rw [show 64 * n + 64 = 64 * (n + 1) by omega]
      exact List.take_of_length_le (by rw [List.length_drop]; exact Nat.le_refl _)
    simp (maxSteps := 1000000) -implicitDefEqProofs only [go_sem, Nat.reduceBEq, Nat.reduceLT, Nat.reduceLeDiff, Nat.reduceEqDiff, Nat.reduceAdd, Nat.reduceMul, Nat.reduceSub, reduceIte, reduceCtorEq, Int.reduceLT, Int.reduceLE, Int.reduceToNat, Int.reduceAdd, Int.reduceSub, Int.reduceNeg, Int.reduceEq, Int.reduceNe, Int.reduceBEq, Int.reduceBNe, BitVec.reduceBEq, BitVec.reduceBNe, BitVec.reduceOfInt, BitVec.reduceSetWidth, -List.reduceReplicate, hdl, e1, e2, List.drop_drop]
    refine ⟨by omega, UpK_normal h' (Le.sameT (by decide) (by simp only [-List.reduceReplicate, slotsSame, Eng.look, Nat.reduceEqDiff, reduceIte, reduceCtorEq, if_true, if_false, eq_self, true_and, and_true, Option.some.injEq, AV.int.injEq]; (try simp (disch := omega) only [wrap_i64]); (try simp [-List.reduceReplicate]); (try omega)) (by simp only [-List.reduceReplicate, memSame, Eng.look, Nat.reduceEqDiff, reduceIte, reduceCtorEq, if_true, if_false, eq_self, true_and, and_true, Option.some.injEq, AObj.cells.injEq, bvs_rep8, bvs_rep16, bvs_rep32, bvs_rep64, bvs_flat_rep, Nat.reduceMul, bvs_append, List.replicate_append_replicate, Nat.reduceAdd, bvs_inj]; try simp [-List.reduceReplicate]) (by simp [-List.reduceReplicate]))⟩
  · have f1 : decide (((X.length - 64 * n : Nat) : Int) ≥ 64) = false := by simp; omega
    have hnn : n = X.length / 64 := by omega
    subst hnn
    have htl : List.take (X.length - 64 * (X.length / 64)) (X.drop (64 * (X.length / 64))) = X.drop (64 * (X.length / 64)) := by rw [← hdl, List.take_length]
    have hgs : ∀ (x y z : AV), (bvs .u32 (bl W X (X.length / 64)) ++ [x, y]).set 8 z = bvs .u32 (bl W X (X.length / 64)) ++ [z, y] := fun x y z => set8' _ (by rw [hbl]; exact hW) x y z
    simp (maxSteps := 1000000) -implicitDefEqProofs only [go_sem, Nat.reduceBEq, Nat.reduceLT, Nat.reduceLeDiff, Nat.reduceEqDiff, Nat.reduceAdd, Nat.reduceMul, Nat.reduceSub, reduceIte, reduceCtorEq, Int.reduceLT, Int.reduceLE, Int.reduceToNat, Int.reduceAdd, Int.reduceSub, Int.reduceNeg, Int.reduceEq, Int.reduceNe, Int.reduceBEq, Int.reduceBNe, BitVec.reduceBEq, BitVec.reduceBNe, BitVec.reduceOfInt, BitVec.reduceSetWidth, -List.reduceReplicate, f1, htl]
    refine ⟨.inl trivial, hdl, ?_⟩
    rw [← hdl]
    refine appk_bvs (x := ([] : List (BitVec 8))) (sp := []) rfl rfl rfl (by decide) (by decide) (by rw [hdl, List.length_nil]; omega) fun cap sp g1 g2 => ?_
    simp (maxSteps := 1000000) -implicitDefEqProofs only [go_sem, Nat.reduceBEq, Nat.reduceLT, Nat.reduceLeDiff, Nat.reduceEqDiff, Nat.reduceAdd, Nat.reduceMul, Nat.reduceSub, reduceIte, reduceCtorEq, Int.reduceLT, Int.reduceLE, Int.reduceToNat, Int.reduceAdd, Int.reduceSub, Int.reduceNeg, Int.reduceEq, Int.reduceNe, Int.reduceBEq, Int.reduceBNe, BitVec.reduceBEq, BitVec.reduceBNe, BitVec.reduceOfInt, BitVec.reduceSetWidth, -List.reduceReplicate, hgs, hbl, hW, List.length_append]
    refine ⟨[(2, 3)], .tup [], [(0, .cells (bvs .u32 (bl W X (X.length / 64)) ++ [.sl 2 0 (X.drop (64 * (X.length / 64))).length cap, .int .u64 (many'.toNat : Int)]) 262), (2, .cells (bvs .u8 (X.drop (64 * (X.length / 64))) ++ sp.map AV.val) 5)], 2 + 1, ⟨rfl, Nat.le_succ _⟩, rfl, ⟨?_, rfl, ?_, rfl, trivial⟩, ?_, (fun n e => by cases e), rfl, cap, sp, rfl, rfl, by rw [List.nil_append] at g1; exact g1, g2⟩
    · simp only [renO, renL_append, bvs_ren]; rfl
    · simp only [renO, renL_vals']; rfl
    · simp [injOn]; decide
end Go.Proofs.Ytmdeoikpiiambaa
/-! She -/
namespace Go.Proofs.Ytmdeoikpiiambaa
open Go Go.Eng
def padZ (rest : List (BitVec 8)) (n : Nat) : List (BitVec 8) := rest ++ [128#8] ++ List.replicate n 0#8
theorem padZ_len (rest : List (BitVec 8)) (n : Nat) : (padZ rest n).length = rest.length + 1 + n := by simp [padZ]; omega
theorem padZ_succ (rest : List (BitVec 8)) (n : Nat) : padZ rest n ++ [0#8] = padZ rest (n + 1) := by simp [padZ, List.replicate_succ']
def zN (len : Nat) : Nat := (119 - len % 64) % 64
def by8 (m : BitVec 64) : Nat → List (BitVec 8)
  | 0 => []
  | n + 1 => by8 m n ++ [(m >>> (8 * (7 - n))).setWidth 8]
theorem by8_len (m : BitVec 64) (n : Nat) : (by8 m n).length = n := by
  induction n with
  | zero => rfl
  | succ n ih => simp [by8, ih]
def padE (rest : List (BitVec 8)) (m : BitVec 64) (n : Nat) : List (BitVec 8) := padZ rest (zN rest.length) ++ by8 m n
def padL (rest : List (BitVec 8)) (m : BitVec 64) : List (BitVec 8) := padE rest m 8
theorem padE_len (rest : List (BitVec 8)) (m : BitVec 64) (n : Nat) : (padE rest m n).length = rest.length + 1 + zN rest.length + n := by simp [padE, padZ_len, by8_len]
theorem padE_succ (rest : List (BitVec 8)) (m : BitVec 64) (n : Nat) : padE rest m n ++ [(m >>> (8 * (7 - n))).setWidth 8] = padE rest m (n + 1) := by simp [padE, by8]
theorem padL_mod (rest : List (BitVec 8)) (m : BitVec 64) : (padL rest m).length % 64 = 0 := by
  rw [padL, padE_len, zN]; omega
theorem padL_le (rest : List (BitVec 8)) (m : BitVec 64) : (padL rest m).length ≤ rest.length + 72 := by
  rw [padL, padE_len, zN]; omega
def outB (W : List (BitVec 32)) (i : Nat) : BitVec 8 := (W.getD (i / 4) 0 >>> (24 - 8 * (i % 4))).setWidth 8
def outN (W : List (BitVec 32)) : Nat → List (BitVec 8)
  | 0 => List.replicate 32 0#8
  | n + 1 => (outN W n).set n (outB W n)
theorem outN_len (W : List (BitVec 32)) (n : Nat) : (outN W n).length = 32 := by
  induction n with
  | zero => rfl
  | succ n ih => simp [outN, ih]
def sumW (W : List (BitVec 32)) (rest : List (BitVec 8)) (m : BitVec 64) : List (BitVec 32) := bl W (padL rest (m * 8#64)) ((padL rest (m * 8#64)).length / 64)
theorem take10 (W : List (BitVec 32)) (hW : W.length = 8) (x y : AV) : List.take 10 (bvs .u32 W ++ [x, y]) = bvs .u32 W ++ [x, y] := List.take_of_length_le (by simp [bvs_length, hW])
theorem spl10 (W V : List (BitVec 32)) (hW : W.length = 8) (hV : V.length = 8) (a b x y : AV) : spl (bvs .u32 V ++ [a, b]) 0 (bvs .u32 W ++ [x, y]) = bvs .u32 W ++ [x, y] := by
  have : List.drop 10 (bvs .u32 V ++ [a, b]) = [] := List.drop_eq_nil_of_le (by simp [bvs_length, hV])
  simp only [spl, List.take_zero, List.nil_append, Nat.zero_add, List.length_append, bvs_length, hW, List.length_cons, List.length_nil]
  rw [this, List.append_nil]
set_option maxHeartbeats 1600000 in
theorem sumMOk (W : List (BitVec 32)) (hW : W.length = 8) (rest : List (BitVec 8)) (hr : rest.length ≤ 100) (cap0 : Nat) (sp0 : List Value) (many : BitVec 64) :
    CallOk Try.prog 178 [.ptr 0 0] (fun _ => true) [(0, .cells (bvs .u32 W ++ [.sl 1 0 rest.length cap0, .int .u64 (many.toNat : Int)]) 262), (1, .cells (bvs .u8 rest ++ sp0.map AV.val) 5)] 2
      fun v m nx => v = .agg (bvs .u8 (outN (sumW W rest many) 32)) ∧ m = [(0, .cells (bvs .u32 W ++ [.sl 1 0 rest.length cap0, .int .u64 (many.toNat : Int)]) 262), (1, .cells (bvs .u8 rest ++ sp0.map AV.val) 5)] ∧ nx = 2 := by
  refine fn_ok Try.func178 rfl (by show 1 ≤ _; decide) ?_
  simp (maxSteps := 1000000) -implicitDefEqProofs only [go_sem, Nat.reduceBEq, Nat.reduceLT, Nat.reduceLeDiff, Nat.reduceEqDiff, Nat.reduceAdd, Nat.reduceMul, Nat.reduceSub, reduceIte, reduceCtorEq, Int.reduceLT, Int.reduceLE, Int.reduceToNat, Int.reduceAdd, Int.reduceSub, Int.reduceNeg, Int.reduceEq, Int.reduceNe, Int.reduceBEq, Int.reduceBNe, BitVec.reduceBEq, BitVec.reduceBNe, BitVec.reduceOfInt, BitVec.reduceSetWidth, -List.reduceReplicate, Try.results178, Try.ntmps178]
  refine newOk.more trivial ?_
  rintro v m' nx' ⟨rfl, rfl, rfl⟩
  refine ⟨rfl, by simp only [noRoM, noRoO, noRoL_append, bvs_noRo]; rfl, ?_⟩
  have hbg : beginL.length = 8 := rfl
  have hg8 : ∀ (x y : AV), (bvs .u32 W ++ [x, y]).getD 8 .nils = x := fun x y => tail8 W hW x y
  have hg9 : ∀ (x y : AV), (bvs .u32 W ++ [x, y]).getD 9 (.int .u64 0) = y := fun x y => tail9 W hW x y
  have ht10 := take10 W hW
  have hs10 := spl10 W beginL hW hbg
  have htr := takeB .u8 rest.length rest rfl (sp0.map AV.val)
  have hz := padZ_len rest
  simp (maxSteps := 1000000) -implicitDefEqProofs only [go_sem, Nat.reduceBEq, Nat.reduceLT, Nat.reduceLeDiff, Nat.reduceEqDiff, Nat.reduceAdd, Nat.reduceMul, Nat.reduceSub, reduceIte, reduceCtorEq, Int.reduceLT, Int.reduceLE, Int.reduceToNat, Int.reduceAdd, Int.reduceSub, Int.reduceNeg, Int.reduceEq, Int.reduceNe, Int.reduceBEq, Int.reduceBNe, BitVec.reduceBEq, BitVec.reduceBNe, BitVec.reduceOfInt, BitVec.reduceSetWidth, -List.reduceReplicate, hg8, hg9, hbg, hW, ht10, hs10, renL_append, List.length_append, List.take_length, htr]
  refine ⟨by simp only [List.all_append, bvs_one]; rfl, .inl trivial, ?_⟩
  refine appk_bvs (x := ([] : List (BitVec 8))) (sp := []) rfl rfl rfl (by decide) (by decide) (by rw [List.length_nil]; omega) fun cap1 sp1 g1 g2 => ?_
  simp only [List.nil_append] at g1
  simp (maxSteps := 1000000) -implicitDefEqProofs only [go_sem, Nat.reduceBEq, Nat.reduceLT, Nat.reduceLeDiff, Nat.reduceEqDiff, Nat.reduceAdd, Nat.reduceMul, Nat.reduceSub, reduceIte, reduceCtorEq, Int.reduceLT, Int.reduceLE, Int.reduceToNat, Int.reduceAdd, Int.reduceSub, Int.reduceNeg, Int.reduceEq, Int.reduceNe, Int.reduceBEq, Int.reduceBNe, BitVec.reduceBEq, BitVec.reduceBNe, BitVec.reduceOfInt, BitVec.reduceSetWidth, -List.reduceReplicate]
  refine ⟨.inr trivial, rfl, rfl, ?_⟩
  refine appk_bvs (x := rest) (y := [128#8]) (sp := sp1) (n := 5) rfl rfl g1 g2 (by decide) (by simp only [List.length_cons, List.length_nil]; omega) fun cap2 sp2 g3 g4 => ?_
  have hp0 : rest ++ [128#8] = padZ rest 0 := by simp [padZ]
  rw [hp0]
  rw [hp0] at g3
  simp (maxSteps := 1000000) -implicitDefEqProofs only [go_sem, Nat.reduceBEq, Nat.reduceLT, Nat.reduceLeDiff, Nat.reduceEqDiff, Nat.reduceAdd, Nat.reduceMul, Nat.reduceSub, reduceIte, reduceCtorEq, Int.reduceLT, Int.reduceLE, Int.reduceToNat, Int.reduceAdd, Int.reduceSub, Int.reduceNeg, Int.reduceEq, Int.reduceNe, Int.reduceBEq, Int.reduceBNe, BitVec.reduceBEq, BitVec.reduceBNe, BitVec.reduceOfInt, BitVec.reduceSetWidth, -List.reduceReplicate]
  refine LoopOk.upX (fun n x => (padZ rest n).length + x.2.length = x.1 ∧ x.1 ≤ maxI) (zN rest.length) (fun n x => ([(4, .sl 4 0 (padZ rest n).length x.1), (3, .ptr 3 0), (2, .ptr 2 0), (0, .ptr 0 0)], [(4, .cells (bvs .u8 (padZ rest n) ++ x.2.map AV.val) 5), (3, (.cells (bvs .u32 (W) ++ [.sl 1 0 rest.length cap0, .int .u64 (many.toNat : Int)]) 262)), (2, (.cells (bvs .u8 (List.replicate 32 (0 : BitVec 8))) 199)), (0, (.cells (bvs .u32 (W) ++ [.sl 1 0 rest.length cap0, .int .u64 (many.toNat : Int)]) 262)), (1, (.cells (bvs .u8 rest ++ sp0.map AV.val) 5))], 5)) (cap2, sp2) ⟨g3, g4⟩ ⟨[(4, 7)], rfl, (show 2 ≤ 5 by decide), (by exact ⟨rfl, rfl, rfl, rfl, trivial⟩), ⟨by simp only [renO, renL_vals']; rfl, rfl, by simp only [renO, renL_append, bvs_ren]; rfl, rfl, by simp only [renO, bvs_ren]; rfl, rfl, by simp only [renO, renL_append, bvs_ren]; rfl, rfl, by simp only [renO, renL_vals']; rfl, rfl, trivial⟩, (by simp [injOn]; decide), (fun n e => by cases e), fun _ _ => rfl⟩ ?_
  have hzN : zN rest.length < 64 := Nat.mod_lt _ (by decide)
  intro n x ⟨hn, hq1, hq2⟩
  have hzl := padZ_len rest n
  have hzm : ((padZ rest n).length : Int).tmod 64 = (((rest.length + 1 + n) % 64 : Nat) : Int) := by rw [hzl, Int.tmod_eq_emod_of_nonneg (by omega)]; omega
  rcases Nat.lt_or_ge n (zN rest.length) with h' | h'
  · have f1 : ((((rest.length + 1 + n) % 64 : Nat) : Int) != 56) = true := by
      rw [bne_iff_ne]; unfold zN at h'; omega
    simp (maxSteps := 1000000) -implicitDefEqProofs only [go_sem, Nat.reduceBEq, Nat.reduceLT, Nat.reduceLeDiff, Nat.reduceEqDiff, Nat.reduceAdd, Nat.reduceMul, Nat.reduceSub, reduceIte, reduceCtorEq, Int.reduceLT, Int.reduceLE, Int.reduceToNat, Int.reduceAdd, Int.reduceSub, Int.reduceNeg, Int.reduceEq, Int.reduceNe, Int.reduceBEq, Int.reduceBNe, BitVec.reduceBEq, BitVec.reduceBNe, BitVec.reduceOfInt, BitVec.reduceSetWidth, -List.reduceReplicate, hzm, f1]
    refine ⟨.inr trivial, rfl, rfl, ?_⟩
    refine appk_bvs (x := padZ rest n) (y := [0#8]) (sp := x.2) (n := 4) rfl rfl hq1 hq2 (by decide) (by simp only [List.length_cons, List.length_nil]; omega) fun cap3 sp3 g5 g6 => ?_
    rw [padZ_succ]
    rw [padZ_succ] at g5
    simp (maxSteps := 1000000) -implicitDefEqProofs only [go_sem, Nat.reduceBEq, Nat.reduceLT, Nat.reduceLeDiff, Nat.reduceEqDiff, Nat.reduceAdd, Nat.reduceMul, Nat.reduceSub, reduceIte, reduceCtorEq, Int.reduceLT, Int.reduceLE, Int.reduceToNat, Int.reduceAdd, Int.reduceSub, Int.reduceNeg, Int.reduceEq, Int.reduceNe, Int.reduceBEq, Int.reduceBNe, BitVec.reduceBEq, BitVec.reduceBNe, BitVec.reduceOfInt, BitVec.reduceSetWidth, -List.reduceReplicate]
    refine UpX_normal h' (cap3, sp3) ⟨g5, g6⟩ ⟨[(4, 6)], rfl, (show 2 ≤ 5 by decide), (by exact ⟨rfl, rfl, rfl, rfl, trivial⟩), ⟨by simp only [renO, renL_vals']; rfl, rfl, by simp only [renO, renL_append, bvs_ren]; rfl, rfl, by simp only [renO, bvs_ren]; rfl, rfl, by simp only [renO, renL_append, bvs_ren]; rfl, rfl, by simp only [renO, renL_vals']; rfl, rfl, trivial⟩, (by simp [injOn]; decide), (fun n e => by cases e), fun _ _ => rfl⟩
  · have hnz : n = zN rest.length := by omega
    subst hnz
    have f1 : ((((rest.length + 1 + zN rest.length) % 64 : Nat) : Int) != 56) = false := by
      have : (rest.length + 1 + zN rest.length) % 64 = 56 := by unfold zN; omega
      rw [this]; rfl
    have he0 : padZ rest (zN rest.length) = padE rest (many * 8#64) 0 := by simp [padE, by8]
    simp (maxSteps := 1000000) -implicitDefEqProofs only [go_sem, Nat.reduceBEq, Nat.reduceLT, Nat.reduceLeDiff, Nat.reduceEqDiff, Nat.reduceAdd, Nat.reduceMul, Nat.reduceSub, reduceIte, reduceCtorEq, Int.reduceLT, Int.reduceLE, Int.reduceToNat, Int.reduceAdd, Int.reduceSub, Int.reduceNeg, Int.reduceEq, Int.reduceNe, Int.reduceBEq, Int.reduceBNe, BitVec.reduceBEq, BitVec.reduceBNe, BitVec.reduceOfInt, BitVec.reduceSetWidth, -List.reduceReplicate, hzm, f1, hg9]
    rw [he0]
    rw [he0] at hq1
    generalize hM8 : many * 8#64 = m8 at *
    refine ⟨by omega, ?_⟩
    refine LoopOk.upX (fun n x => (padE rest m8 n).length + x.2.length = x.1 ∧ x.1 ≤ maxI) 8 (fun n x => ([(6, .int .i64 (7 - (n : Int))), (5, .int .u64 (m8.toNat : Int)), (4, .sl 4 0 (padE rest m8 n).length x.1), (3, .ptr 3 0), (2, .ptr 2 0), (0, .ptr 0 0)], [(4, .cells (bvs .u8 (padE rest m8 n) ++ x.2.map AV.val) 5), (3, (.cells (bvs .u32 (W) ++ [.sl 1 0 rest.length cap0, .int .u64 (many.toNat : Int)]) 262)), (2, (.cells (bvs .u8 (List.replicate 32 (0 : BitVec 8))) 199)), (0, (.cells (bvs .u32 (W) ++ [.sl 1 0 rest.length cap0, .int .u64 (many.toNat : Int)]) 262)), (1, (.cells (bvs .u8 rest ++ sp0.map AV.val) 5))], 5)) x ⟨hq1, hq2⟩ ⟨[(4, 4)], rfl, (show 2 ≤ 5 by decide), (by exact ⟨rfl, rfl, rfl, rfl, rfl, rfl, trivial⟩), ⟨by simp only [renO, renL_vals']; rfl, rfl, by simp only [renO, renL_append, bvs_ren]; rfl, rfl, by simp only [renO, bvs_ren]; rfl, rfl, by simp only [renO, renL_append, bvs_ren]; rfl, rfl, by simp only [renO, renL_vals']; rfl, rfl, trivial⟩, (by simp [injOn]; decide), (fun n e => by cases e), fun _ _ => rfl⟩ ?_
    clear hzl hzm hq1 hq2 he0 f1
    intro n x ⟨hn, hq1, hq2⟩
    have hel := padE_len rest m8 n
    rcases Nat.lt_or_ge n 8 with h8 | h8
    · have f1 : decide (7 - (n : Int) ≥ 0) = true := by simp; omega
      have w1 : IntKind.i64.wrap (8 * (7 - (n : Int))) = ((8 * (7 - n) : Nat) : Int) := by rw [wrap_i64] <;> omega
      have w2 : IntKind.i64.wrap (7 - (n : Int) - 1) = 7 - ((n + 1 : Nat) : Int) := by rw [wrap_i64] <;> omega
      simp (maxSteps := 1000000) -implicitDefEqProofs only [go_sem, Nat.reduceBEq, Nat.reduceLT, Nat.reduceLeDiff, Nat.reduceEqDiff, Nat.reduceAdd, Nat.reduceMul, Nat.reduceSub, reduceIte, reduceCtorEq, Int.reduceLT, Int.reduceLE, Int.reduceToNat, Int.reduceAdd, Int.reduceSub, Int.reduceNeg, Int.reduceEq, Int.reduceNe, Int.reduceBEq, Int.reduceBNe, BitVec.reduceBEq, BitVec.reduceBNe, BitVec.reduceOfInt, BitVec.reduceSetWidth, -List.reduceReplicate, f1, w1]
      refine ⟨.inr trivial, rfl, ?_⟩
      refine appk_bvs (x := padE rest m8 n) (y := [(m8 >>> (8 * (7 - n))).setWidth 8]) (sp := x.2) (n := 4) rfl rfl hq1 hq2 (by decide) (by simp only [List.length_cons, List.length_nil]; omega) fun cap3 sp3 g5 g6 => ?_
      rw [padE_succ]
      rw [padE_succ] at g5
      simp (maxSteps := 1000000) -implicitDefEqProofs only [go_sem, Nat.reduceBEq, Nat.reduceLT, Nat.reduceLeDiff, Nat.reduceEqDiff, Nat.reduceAdd, Nat.reduceMul, Nat.reduceSub, reduceIte, reduceCtorEq, Int.reduceLT, Int.reduceLE, Int.reduceToNat, Int.reduceAdd, Int.reduceSub, Int.reduceNeg, Int.reduceEq, Int.reduceNe, Int.reduceBEq, Int.reduceBNe, BitVec.reduceBEq, BitVec.reduceBNe, BitVec.reduceOfInt, BitVec.reduceSetWidth, -List.reduceReplicate, w2]
      refine UpX_normal h8 (cap3, sp3) ⟨g5, g6⟩ ⟨[(4, 6)], rfl, (show 2 ≤ 5 by decide), (by exact ⟨rfl, rfl, rfl, rfl, rfl, rfl, trivial⟩), ⟨by simp only [renO, renL_vals']; rfl, rfl, by simp only [renO, renL_append, bvs_ren]; rfl, rfl, by simp only [renO, bvs_ren]; rfl, rfl, by simp only [renO, renL_append, bvs_ren]; rfl, rfl, by simp only [renO, renL_vals']; rfl, rfl, trivial⟩, (by simp [injOn]; decide), (fun n e => by cases e), fun _ _ => rfl⟩
    · have hn8 : n = 8 := by omega
      subst hn8
      have f0 : decide ((-1 : Int) ≥ 0) = false := rfl
      simp (maxSteps := 1000000) -implicitDefEqProofs only [go_sem, Nat.reduceBEq, Nat.reduceLT, Nat.reduceLeDiff, Nat.reduceEqDiff, Nat.reduceAdd, Nat.reduceMul, Nat.reduceSub, reduceIte, reduceCtorEq, Int.reduceLT, Int.reduceLE, Int.reduceToNat, Int.reduceAdd, Int.reduceSub, Int.reduceNeg, Int.reduceEq, Int.reduceNe, Int.reduceBEq, Int.reduceBNe, BitVec.reduceBEq, BitVec.reduceBNe, BitVec.reduceOfInt, BitVec.reduceSetWidth, -List.reduceReplicate, f0]
      have hmod := padL_mod rest m8
      have hle := padL_le rest m8
      have hsum : sumW W rest many = bl W (padL rest m8) ((padL rest m8).length / 64) := by rw [sumW, hM8]
      have hPLd : padL rest m8 = padE rest m8 8 := rfl
      rw [hPLd] at hmod hle hsum
      clear hPLd
      generalize padE rest m8 8 = PL at *
      refine LoopOk.upF (PL.length / 64) (fun n => ([(4, .ro (PL.length - 64 * n) (bvs .u8 (PL.drop (64 * n)))), (3, .ptr 3 0), (2, .ptr 2 0)], [(3, (.cells (bvs .u32 (bl W PL n) ++ [.sl 1 0 rest.length cap0, .int .u64 (many.toNat : Int)]) 262)), (2, (.cells (bvs .u8 (List.replicate 32 (0 : BitVec 8))) 199)), (0, (.cells (bvs .u32 (W) ++ [.sl 1 0 rest.length cap0, .int .u64 (many.toNat : Int)]) 262)), (1, (.cells (bvs .u8 rest ++ sp0.map AV.val) 5))], 4)) ?_ ?_
      · refine .inr ⟨some (4, _), fun n l e => by cases e; exact ⟨rfl, 5, rfl⟩, [], ⟨rfl, (show 2 ≤ 4 by decide), ⟨?_, rfl, rfl, trivial⟩, ⟨by simp only [renO, renL_append, bvs_ren]; rfl, rfl, by simp only [renO, bvs_ren]; rfl, rfl, by simp only [renO, renL_append, bvs_ren]; rfl, rfl, by simp only [renO, renL_vals']; rfl, rfl, trivial⟩, (by simp [injOn]; decide), (fun n e => by cases e), fun _ _ => rfl⟩⟩
        simp only [fzS, Eng.look, Nat.reduceEqDiff, reduceIte, if_true, if_false, fzA, renA, bvs_ren, Nat.mul_zero, Nat.sub_zero, List.drop_zero]
        rw [List.take_append_of_le_length (by rw [bvs_length]; exact Nat.le_refl _), bvs_take, List.take_length]
      intro n hn
      have hbl := bl_len W PL n
      have hdl : (PL.drop (64 * n)).length = PL.length - 64 * n := List.length_drop
      rcases Nat.lt_or_ge n (PL.length / 64) with h' | h'
      · have f1 : decide (((PL.length - 64 * n : Nat) : Int) > 0) = true := by simp; omega
        simp (maxSteps := 1000000) -implicitDefEqProofs only [go_sem, Nat.reduceBEq, Nat.reduceLT, Nat.reduceLeDiff, Nat.reduceEqDiff, Nat.reduceAdd, Nat.reduceMul, Nat.reduceSub, reduceIte, reduceCtorEq, Int.reduceLT, Int.reduceLE, Int.reduceToNat, Int.reduceAdd, Int.reduceSub, Int.reduceNeg, Int.reduceEq, Int.reduceNe, Int.reduceBEq, Int.reduceBNe, BitVec.reduceBEq, BitVec.reduceBNe, BitVec.reduceOfInt, BitVec.reduceSetWidth, -List.reduceReplicate, f1]
        refine CallG.hide (n := 3) (ty := 262) (A := bvs .u32 (bl W PL n)) (T := [.sl 1 0 rest.length cap0, .int .u64 (many.toNat : Int)]) rfl fun us hus => ?_
        rw [← hdl]
        refine (blockOk (bl W PL n) (by rw [hbl]; exact hW) us hus (PL.drop (64 * n)) (by omega) (by omega)).use [(0, 3)] rfl ⟨by simp only [renO, renL_append, bvs_ren, renL_vals]; rfl, fun _ => rfl, trivial⟩ (by simp [injOn]) rfl (fun _ _ => rfl) (fun _ e => by cases e) ⟨rfl, by simp only [argx, renA, bvs_ren], trivial⟩ ?_
        rintro v m1 nx1 ⟨rfl, rfl, rfl⟩
        refine ⟨rfl, by simp only [noRoM, noRoO, noRoL_vals', Bool.and_self], Nat.le_refl _, bvs .u32 (bl W PL (n + 1)), by simp only [renM, renO, renL_append, bvs_ren, renL_vals, bl]; rfl, ?_⟩
        change After _ _ _ _ [(3, .cells (bvs .u32 (bl W PL (n + 1)) ++ [.sl 1 0 rest.length cap0, .int .u64 (many.toNat : Int)]) 262), (2, (.cells (bvs .u8 (List.replicate 32 (0 : BitVec 8))) 199)), (0, (.cells (bvs .u32 (W) ++ [.sl 1 0 rest.length cap0, .int .u64 (many.toNat : Int)]) 262)), (1, (.cells (bvs .u8 rest ++ sp0.map AV.val) 5))] 4
        have e1 : PL.length - 64 * n - 64 = PL.length - 64 * (n + 1) := by omega
        have e2 : List.take (PL.length - 64 * (n + 1)) (List.drop (64 * n + 64) PL) = PL.drop (64 * (n + 1)) := by
          rw [show 64 * n + 64 = 64 * (n + 1) by omega]
          exact List.take_of_length_le (by rw [List.length_drop]; exact Nat.le_refl _)
        simp (maxSteps := 1000000) -implicitDefEqProofs only [go_sem, Nat.reduceBEq, Nat.reduceLT, Nat.reduceLeDiff, Nat.reduceEqDiff, Nat.reduceAdd, Nat.reduceMul, Nat.reduceSub, reduceIte, reduceCtorEq, Int.reduceLT, Int.reduceLE, Int.reduceToNat, Int.reduceAdd, Int.reduceSub, Int.reduceNeg, Int.reduceEq, Int.reduceNe, Int.reduceBEq, Int.reduceBNe, BitVec.reduceBEq, BitVec.reduceBNe, BitVec.reduceOfInt, BitVec.reduceSetWidth, -List.reduceReplicate, hdl, e1, e2, List.drop_drop]
        refine ⟨by omega, UpK_normal h' (Le.sameT (by decide) (by simp only [-List.reduceReplicate, slotsSame, Eng.look, Nat.reduceEqDiff, reduceIte, reduceCtorEq, if_true, if_false, eq_self, true_and, and_true, Option.some.injEq, AV.int.injEq]; (try simp (disch := omega) only [wrap_i64]); (try simp [-List.reduceReplicate]); (try omega)) (by simp only [-List.reduceReplicate, memSame, Eng.look, Nat.reduceEqDiff, reduceIte, reduceCtorEq, if_true, if_false, eq_self, true_and, and_true, Option.some.injEq, AObj.cells.injEq, bvs_rep8, bvs_rep16, bvs_rep32, bvs_rep64, bvs_flat_rep, Nat.reduceMul, bvs_append, List.replicate_append_replicate, Nat.reduceAdd, bvs_inj]; try simp [-List.reduceReplicate]) (by simp [-List.reduceReplicate]))⟩
      · have f1 : decide (((PL.length - 64 * n : Nat) : Int) > 0) = false := by simp; omega
        have hnn : n = PL.length / 64 := by omega
        subst hnn
        rw [← hsum]
        rw [← hsum] at hbl
        generalize sumW W rest many = V at *
        simp (maxSteps := 1000000) -implicitDefEqProofs only [go_sem, Nat.reduceBEq, Nat.reduceLT, Nat.reduceLeDiff, Nat.reduceEqDiff, Nat.reduceAdd, Nat.reduceMul, Nat.reduceSub, reduceIte, reduceCtorEq, Int.reduceLT, Int.reduceLE, Int.reduceToNat, Int.reduceAdd, Int.reduceSub, Int.reduceNeg, Int.reduceEq, Int.reduceNe, Int.reduceBEq, Int.reduceBNe, BitVec.reduceBEq, BitVec.reduceBNe, BitVec.reduceOfInt, BitVec.reduceSetWidth, -List.reduceReplicate, f1]
        refine LoopOk.up 32 (fun n => ([(58, .int .i64 n), (7, .ptr 4 0), (3, .ptr 3 0), (2, .ptr 2 0)], [(4, .cells (bvs .u8 (outN V n)) 199), (3, (.cells (bvs .u32 (V) ++ [.sl 1 0 rest.length cap0, .int .u64 (many.toNat : Int)]) 262)), (2, (.cells (bvs .u8 (List.replicate 32 (0 : BitVec 8))) 199)), (0, (.cells (bvs .u32 (W) ++ [.sl 1 0 rest.length cap0, .int .u64 (many.toNat : Int)]) 262)), (1, (.cells (bvs .u8 rest ++ sp0.map AV.val) 5))], 5)) (Le.sameT (by decide) (by simp only [-List.reduceReplicate, slotsSame, Eng.look, Nat.reduceEqDiff, outN, reduceIte, reduceCtorEq, if_true, if_false, eq_self, true_and, and_true, Option.some.injEq, AV.int.injEq]; (try simp (disch := omega) only [wrap_i64]); (try simp [-List.reduceReplicate]); (try omega)) (by simp only [-List.reduceReplicate, memSame, Eng.look, Nat.reduceEqDiff, outN, reduceIte, reduceCtorEq, if_true, if_false, eq_self, true_and, and_true, Option.some.injEq, AObj.cells.injEq, bvs_rep8, bvs_rep16, bvs_rep32, bvs_rep64, bvs_flat_rep, Nat.reduceMul, bvs_append, List.replicate_append_replicate, Nat.reduceAdd, bvs_inj]; try simp [-List.reduceReplicate]) (by simp [-List.reduceReplicate])) ?_
        intro n hn
        have hol := outN_len V n
        rcases Nat.lt_or_ge n 32 with h3 | h3
        · have f1 : decide ((n : Int) < 32) = true := by simp; omega
          have w1 : IntKind.i64.wrap ((n : Int).tdiv 4) = ((n / 4 : Nat) : Int) := by rw [Int.tdiv_eq_ediv_of_nonneg (by omega), wrap_i64] <;> omega
          have w2 : (n : Int).tmod 4 = ((n % 4 : Nat) : Int) := by rw [Int.tmod_eq_emod_of_nonneg (by omega)]; omega
          have w3 : IntKind.i64.wrap (8 * ((n % 4 : Nat) : Int)) = ((8 * (n % 4) : Nat) : Int) := by rw [wrap_i64] <;> omega
          have w4 : IntKind.i64.wrap (24 - ((8 * (n % 4) : Nat) : Int)) = ((24 - 8 * (n % 4) : Nat) : Int) := by rw [wrap_i64] <;> omega
          have wn : IntKind.i64.wrap ((n : Int) + 1) = ((n + 1 : Nat) : Int) := by rw [wrap_i64] <;> omega
          have hgd := bvsS_getD .u32 V [.sl 1 0 rest.length cap0, .int .u64 (many.toNat : Int)] (n / 4) (by rw [hbl, hW]; omega)
          simp (maxSteps := 1000000) -implicitDefEqProofs only [go_sem, Nat.reduceBEq, Nat.reduceLT, Nat.reduceLeDiff, Nat.reduceEqDiff, Nat.reduceAdd, Nat.reduceMul, Nat.reduceSub, reduceIte, reduceCtorEq, Int.reduceLT, Int.reduceLE, Int.reduceToNat, Int.reduceAdd, Int.reduceSub, Int.reduceNeg, Int.reduceEq, Int.reduceNe, Int.reduceBEq, Int.reduceBNe, BitVec.reduceBEq, BitVec.reduceBNe, BitVec.reduceOfInt, BitVec.reduceSetWidth, -List.reduceReplicate, f1, w1, w2, w3, w4, wn, hgd]
          exact ⟨by omega, by omega, by omega, by omega, UpK_normal h3 (Le.sameT (by decide) (by simp only [-List.reduceReplicate, slotsSame, Eng.look, Nat.reduceEqDiff, outN, outB, reduceIte, reduceCtorEq, if_true, if_false, eq_self, true_and, and_true, Option.some.injEq, AV.int.injEq]; (try simp (disch := omega) only [wrap_i64]); (try simp [-List.reduceReplicate]); (try omega)) (by simp only [-List.reduceReplicate, memSame, Eng.look, Nat.reduceEqDiff, outN, outB, reduceIte, reduceCtorEq, if_true, if_false, eq_self, true_and, and_true, Option.some.injEq, AObj.cells.injEq, bvs_rep8, bvs_rep16, bvs_rep32, bvs_rep64, bvs_flat_rep, Nat.reduceMul, bvs_append, List.replicate_append_replicate, Nat.reduceAdd, bvs_inj]; try simp [-List.reduceReplicate]) (by simp [-List.reduceReplicate]))⟩
        · have hn3 : n = 32 := by omega
          subst hn3
          have f1 : decide ((32 : Int) < 32) = false := rfl
          have htk : List.take 32 (outN V 32) = outN V 32 := List.take_of_length_le (by rw [hol]; exact Nat.le_refl _)
          simp (maxSteps := 1000000) -implicitDefEqProofs only [go_sem, Nat.reduceBEq, Nat.reduceLT, Nat.reduceLeDiff, Nat.reduceEqDiff, Nat.reduceAdd, Nat.reduceMul, Nat.reduceSub, reduceIte, reduceCtorEq, Int.reduceLT, Int.reduceLE, Int.reduceToNat, Int.reduceAdd, Int.reduceSub, Int.reduceNeg, Int.reduceEq, Int.reduceNe, Int.reduceBEq, Int.reduceBNe, BitVec.reduceBEq, BitVec.reduceBNe, BitVec.reduceOfInt, BitVec.reduceSetWidth, -List.reduceReplicate, f1, htk, hol]
          exact ⟨[], .agg (bvs .u8 (outN V 32)), [(0, (.cells (bvs .u32 (W) ++ [.sl 1 0 rest.length cap0, .int .u64 (many.toNat : Int)]) 262)), (1, (.cells (bvs .u8 rest ++ sp0.map AV.val) 5))], 2, ⟨rfl, Nat.le_refl _⟩, by simp only [renA, bvs_ren], ⟨by simp only [renO, renL_append, bvs_ren]; rfl, rfl, by simp only [renO, renL_vals']; rfl, rfl, trivial⟩, (by simp [injOn]; decide), (fun n e => by cases e), rfl, rfl, rfl⟩
end Go.Proofs.Ytmdeoikpiiambaa
/-! Shf -/
namespace Go.Proofs.Ytmdeoikpiiambaa
open Go Go.Eng
def shaP (b : List (BitVec 8)) : List (BitVec 8) := outN (sumW (bl beginL b (b.length / 64)) (b.drop (64 * (b.length / 64))) (0 + BitVec.ofNat 64 b.length)) 32
theorem shaP_len (b : List (BitVec 8)) : (shaP b).length = 32 := outN_len _ _
set_option maxHeartbeats 800000 in
theorem shaSumOk (b : List (BitVec 8)) (hb : b.length ≤ 100000) : CallOk Try.prog 134 [.ro b.length (bvs .u8 b)] (fun _ => true) [] 0 fun v m nx => v = .agg (bvs .u8 (shaP b)) ∧ m = [] ∧ nx = 0 := by
  refine fn_ok Try.func134 rfl (by show 1 ≤ _; decide) ?_
  simp (maxSteps := 1000000) -implicitDefEqProofs only [go_sem, Nat.reduceBEq, Nat.reduceLT, Nat.reduceLeDiff, Nat.reduceEqDiff, Nat.reduceAdd, Nat.reduceMul, Nat.reduceSub, reduceIte, reduceCtorEq, Int.reduceLT, Int.reduceLE, Int.reduceToNat, Int.reduceAdd, Int.reduceSub, Int.reduceNeg, Int.reduceEq, Int.reduceNe, Int.reduceBEq, Int.reduceBNe, BitVec.reduceBEq, BitVec.reduceBNe, BitVec.reduceOfInt, BitVec.reduceSetWidth, -List.reduceReplicate, Try.results134, Try.ntmps134]
  refine newOk.more trivial ?_
  rintro v m' nx' ⟨rfl, rfl, rfl⟩
  refine ⟨rfl, by simp only [noRoM, noRoO, noRoL_append, bvs_noRo]; rfl, ?_⟩
  simp (maxSteps := 1000000) -implicitDefEqProofs only [go_sem, Nat.reduceBEq, Nat.reduceLT, Nat.reduceLeDiff, Nat.reduceEqDiff, Nat.reduceAdd, Nat.reduceMul, Nat.reduceSub, reduceIte, reduceCtorEq, Int.reduceLT, Int.reduceLE, Int.reduceToNat, Int.reduceAdd, Int.reduceSub, Int.reduceNeg, Int.reduceEq, Int.reduceNe, Int.reduceBEq, Int.reduceBNe, BitVec.reduceBEq, BitVec.reduceBNe, BitVec.reduceOfInt, BitVec.reduceSetWidth, -List.reduceReplicate, renL_append]
  refine (writeNil beginL rfl 0 b hb).use [(0, 1)] rfl ⟨by simp only [renO, renL_append, bvs_ren]; rfl, fun _ => rfl, trivial⟩ (by simp [injOn]) rfl (fun _ _ => rfl) (fun _ e => by cases e) ⟨rfl, by simp only [argx, renA, bvs_ren], trivial⟩ ?_
  rintro v m' nx' ⟨rfl, cap, sp, rfl, rfl, h1, h2⟩
  simp only [List.nil_append] at h1 ⊢
  refine ⟨rfl, by simp only [noRoM, noRoO, noRoL_append, bvs_noRo, noRoL_vals]; rfl, by decide, ?_⟩
  have hrl : (b.drop (64 * (b.length / 64))).length ≤ 100 := by rw [List.length_drop]; omega
  have hS : shaP b = outN (sumW (bl beginL b (b.length / 64)) (b.drop (64 * (b.length / 64))) (0 + BitVec.ofNat 64 b.length)) 32 := rfl
  have hWl : (bl beginL b (b.length / 64)).length = 8 := by rw [bl_len]; rfl
  generalize bl beginL b (b.length / 64) = W at *
  generalize b.drop (64 * (b.length / 64)) = rest at *
  generalize 0 + BitVec.ofNat 64 b.length = many at *
  simp only [renM, renO, renL_append, bvs_ren, renL_vals]
  change After _ _ _ _ [(1, .cells (bvs .u32 W ++ [.sl 2 0 rest.length cap, .int .u64 (many.toNat : Int)]) 262), (2, .cells (bvs .u8 rest ++ sp.map AV.val) 5), (0, .cells (bvs .u8 (List.replicate 32 (0 : BitVec 8))) 199)] 3
  simp (maxSteps := 1000000) -implicitDefEqProofs only [go_sem, Nat.reduceBEq, Nat.reduceLT, Nat.reduceLeDiff, Nat.reduceEqDiff, Nat.reduceAdd, Nat.reduceMul, Nat.reduceSub, reduceIte, reduceCtorEq, Int.reduceLT, Int.reduceLE, Int.reduceToNat, Int.reduceAdd, Int.reduceSub, Int.reduceNeg, Int.reduceEq, Int.reduceNe, Int.reduceBEq, Int.reduceBNe, BitVec.reduceBEq, BitVec.reduceBNe, BitVec.reduceOfInt, BitVec.reduceSetWidth, -List.reduceReplicate]
  refine (sumMOk W hWl rest hrl cap sp many).use [(0, 1), (1, 2)] rfl ⟨by simp only [renO, renL_append, bvs_ren]; rfl, fun _ => rfl, by simp only [renO, renL_append, bvs_ren, renL_vals]; rfl, fun _ => rfl, trivial⟩ (by simp [injOn]; decide) rfl (fun _ _ => rfl) (fun _ e => by cases e) ⟨rfl, trivial⟩ ?_
  rintro v m' nx' ⟨rfl, rfl, rfl⟩
  refine ⟨by simp only [noRo, bvs_noRo], by simp only [noRoM, noRoO, noRoL_append, bvs_noRo, noRoL_vals]; rfl, by decide, ?_⟩
  rw [← hS]
  have hl := shaP_len b
  have htk : List.take 32 (shaP b) = shaP b := List.take_of_length_le (by rw [hl]; exact Nat.le_refl _)
  simp only [renM, renO, renL_append, bvs_ren, renL_vals, renA]
  change After _ _ _ _ [(1, .cells (bvs .u32 W ++ [.sl 2 0 rest.length cap, .int .u64 (many.toNat : Int)]) 262), (2, .cells (bvs .u8 rest ++ sp.map AV.val) 5), (0, .cells (bvs .u8 (List.replicate 32 (0 : BitVec 8))) 199)] 3
  simp (maxSteps := 1000000) -implicitDefEqProofs only [go_sem, Nat.reduceBEq, Nat.reduceLT, Nat.reduceLeDiff, Nat.reduceEqDiff, Nat.reduceAdd, Nat.reduceMul, Nat.reduceSub, reduceIte, reduceCtorEq, Int.reduceLT, Int.reduceLE, Int.reduceToNat, Int.reduceAdd, Int.reduceSub, Int.reduceNeg, Int.reduceEq, Int.reduceNe, Int.reduceBEq, Int.reduceBNe, BitVec.reduceBEq, BitVec.reduceBNe, BitVec.reduceOfInt, BitVec.reduceSetWidth, -List.reduceReplicate, hl, htk]
  exact Fin.flatv (fun _ => rfl) (fun f => by simp only [renA, bvs_ren]) ⟨rfl, rfl, rfl⟩
/-- the document's words of a block -/
def rwB (b : List (BitVec 8)) (i : Nat) : Nat → BitVec 32
  | 0 => 0#32
  | k + 1 => 256#32 * rwB b i k + (b.getD (4 * i + k) 0).setWidth 32
def s0R (x : BitVec 32) : BitVec 32 := rotN x 7 ^^^ rotN x 18 ^^^ x / 8#32
def s1R (y : BitVec 32) : BitVec 32 := rotN y 17 ^^^ rotN y 19 ^^^ y / 1024#32
def rNext (b : List (BitVec 8)) (w : List (BitVec 32)) (n : Nat) : BitVec 32 := if n < 16 then rwB b n 4 else w.getD (n - 16) 0 + s0R (w.getD (n - 15) 0) + w.getD (n - 7) 0 + s1R (w.getD (n - 2) 0)
def rl (b : List (BitVec 8)) : Nat → List (BitVec 32)
  | 0 => []
  | n + 1 => rl b n ++ [rNext b (rl b n) n]
theorem rl_len (b : List (BitVec 8)) (n : Nat) : (rl b n).length = n := by
  induction n with
  | zero => rfl
  | succ n ih => simp [rl, ih]
theorem memSame_self : ∀ {m : Mem}, (m.map fun p => p.1).Nodup → memSame m m := by
  have key : ∀ (m0 m : Mem), (∀ p ∈ m, Eng.look m0 p.1 = some p.2) → memSame m0 m := by
    intro m0 m
    induction m with
    | nil => intro _; trivial
    | cons p r ih => intro h; exact ⟨h p (List.mem_cons_self ..), ih fun q hq => h q (List.mem_cons_of_mem _ hq)⟩
  intro m h
  refine key m m ?_
  induction m with
  | nil => intro p hp; cases hp
  | cons q r ih =>
    obtain ⟨k, o⟩ := q
    simp only [List.map_cons, List.nodup_cons] at h
    intro p hp
    rcases List.mem_cons.1 hp with rfl | hp
    · simp [Eng.look]
    · have hne : k ≠ p.1 := fun e => h.1 (by rw [e]; exact List.mem_map_of_mem hp)
      simp only [Eng.look]
      rw [if_neg hne]
      exact ih h.2 p hp
theorem Le.sameM {t t' : Slots} {m : Mem} {nx : Nat} (hs : slotsSame t t') (hd : (m.map fun p => p.1).Nodup) : ∃ l, Le 0 l (fun _ => true) t m nx t' m nx :=
  Le.sameT (Nat.zero_le _) hs (memSame_self hd) hd
theorem ApI_nodup {k : IntKind} {ty w : Nat} {X : List (BitVec w)} {x : AV × Mem × Nat} (h : ApI k ty X x) : (x.2.1.map fun p => p.1).Nodup := by
  rcases h with ⟨_, rfl⟩ | ⟨cap, sp, rfl, _⟩
  · simp
  · simp
theorem ApI_hd {k : IntKind} {ty w : Nat} {X : List (BitVec w)} {x : AV × Mem × Nat} (h : ApI k ty X x) {o q : AObj} (ho : Eng.look x.2.1 0 = some o) : Eng.look ((x.2.2, q) :: x.2.1) 0 = some o := by
  rcases h with ⟨_, rfl⟩ | ⟨cap, sp, rfl, _⟩
  · cases ho
  · exact ho
theorem vals_det (sp : List Value) : (sp.map AV.val).all det = true := by
  induction sp with
  | nil => rfl
  | cons x r ih => simp only [List.map_cons, List.all_cons, ih, Bool.and_true]; rfl
def idG (s : AV) : AV := s
set_option maxHeartbeats 1600000 in
theorem rspreadOk (b : List (BitVec 8)) (h64 : b.length = 64) : CallOk Try.prog 139 [.ro 64 (bvs .u8 b)] (fun _ => true) [] 0 (Rets idG .u32 (rl b 64) 108) := by
  refine fn_ok Try.func139 rfl (by show 1 ≤ _; decide) ?_
  simp (maxSteps := 1000000) -implicitDefEqProofs only [go_sem, Nat.reduceBEq, Nat.reduceLT, Nat.reduceLeDiff, Nat.reduceEqDiff, Nat.reduceAdd, Nat.reduceMul, Nat.reduceSub, reduceIte, reduceCtorEq, Int.reduceLT, Int.reduceLE, Int.reduceToNat, Int.reduceAdd, Int.reduceSub, Int.reduceNeg, Int.reduceEq, Int.reduceNe, Int.reduceBEq, Int.reduceBNe, BitVec.reduceBEq, BitVec.reduceBNe, BitVec.reduceOfInt, BitVec.reduceSetWidth, -List.reduceReplicate, Try.results139, Try.ntmps139]
  refine LoopOk.upX (fun n x => ApI .u32 108 (rl b n) x) 64 (fun n x => ((3, x.1) :: [(4, .int .i64 n), (0, .ro 64 (bvs .u8 b))], x.2.1, x.2.2)) (.nils, [], 0) (ApI.nil _ _) (Le.sameT (by decide) (by simp only [-List.reduceReplicate, slotsSame, Eng.look, Nat.reduceEqDiff, reduceIte, reduceCtorEq, if_true, if_false, eq_self, true_and, and_true, Option.some.injEq, AV.int.injEq]; (try simp (disch := omega) only [wrap_i64]); (try simp [-List.reduceReplicate]); (try omega)) (by simp only [-List.reduceReplicate, memSame, Eng.look, Nat.reduceEqDiff, reduceIte, reduceCtorEq, if_true, if_false, eq_self, true_and, and_true, Option.some.injEq, AObj.cells.injEq, bvs_rep8, bvs_rep16, bvs_rep32, bvs_rep64, bvs_flat_rep, Nat.reduceMul, bvs_append, List.replicate_append_replicate, Nat.reduceAdd, bvs_inj]; try simp [-List.reduceReplicate]) (by simp [-List.reduceReplicate])) ?_
  intro n x ⟨hn, hq⟩
  have hrl := rl_len b n
  have wn : IntKind.i64.wrap ((n : Int) + 1) = ((n + 1 : Nat) : Int) := by rw [wrap_i64] <;> omega
  rcases Nat.lt_or_ge n 64 with h' | h'
  · have f1 : decide ((n : Int) < 64) = true := by simp; omega
    rcases Nat.lt_or_ge n 16 with g | g
    · have f2 : decide ((n : Int) < 16) = true := by simp; omega
      simp (maxSteps := 1000000) -implicitDefEqProofs only [go_sem, Nat.reduceBEq, Nat.reduceLT, Nat.reduceLeDiff, Nat.reduceEqDiff, Nat.reduceAdd, Nat.reduceMul, Nat.reduceSub, reduceIte, reduceCtorEq, Int.reduceLT, Int.reduceLE, Int.reduceToNat, Int.reduceAdd, Int.reduceSub, Int.reduceNeg, Int.reduceEq, Int.reduceNe, Int.reduceBEq, Int.reduceBNe, BitVec.reduceBEq, BitVec.reduceBNe, BitVec.reduceOfInt, BitVec.reduceSetWidth, -List.reduceReplicate, f1, f2]
      refine LoopOk.up 4 (fun k => ([(6, .int .i64 k), (5, .int .u32 ((rwB b n k).toNat : Int)), (3, x.1), (4, .int .i64 n), (0, .ro 64 (bvs .u8 b))], x.2.1, x.2.2)) (Le.sameM ⟨rfl, rfl, rfl, rfl, rfl, trivial⟩ (ApI_nodup hq)) ?_
      intro k hk
      simp (maxSteps := 1000000) -implicitDefEqProofs only [go_sem, Nat.reduceBEq, Nat.reduceLT, Nat.reduceLeDiff, Nat.reduceEqDiff, Nat.reduceAdd, Nat.reduceMul, Nat.reduceSub, reduceIte, reduceCtorEq, Int.reduceLT, Int.reduceLE, Int.reduceToNat, Int.reduceAdd, Int.reduceSub, Int.reduceNeg, Int.reduceEq, Int.reduceNe, Int.reduceBEq, Int.reduceBNe, BitVec.reduceBEq, BitVec.reduceBNe, BitVec.reduceOfInt, BitVec.reduceSetWidth, -List.reduceReplicate]
      refine cndv_split (fun h => ?_) (fun h => ?_)
      · have h4 : k < 4 := by have := of_decide_eq_true h; omega
        have wk : IntKind.i64.wrap ((k : Int) + 1) = ((k + 1 : Nat) : Int) := by rw [wrap_i64] <;> omega
        have w4 : IntKind.i64.wrap (4 * (n : Int)) = ((4 * n : Nat) : Int) := by rw [wrap_i64] <;> omega
        have w5 : IntKind.i64.wrap (((4 * n : Nat) : Int) + (k : Int)) = ((4 * n + k : Nat) : Int) := by rw [wrap_i64] <;> omega
        simp (maxSteps := 1000000) -implicitDefEqProofs only [go_sem, Nat.reduceBEq, Nat.reduceLT, Nat.reduceLeDiff, Nat.reduceEqDiff, Nat.reduceAdd, Nat.reduceMul, Nat.reduceSub, reduceIte, reduceCtorEq, Int.reduceLT, Int.reduceLE, Int.reduceToNat, Int.reduceAdd, Int.reduceSub, Int.reduceNeg, Int.reduceEq, Int.reduceNe, Int.reduceBEq, Int.reduceBNe, BitVec.reduceBEq, BitVec.reduceBNe, BitVec.reduceOfInt, BitVec.reduceSetWidth, -List.reduceReplicate, wk, w4, w5, h64, List.length_drop]
        refine ⟨by omega, by omega, by omega, UpK_normal h4 (Le.sameM ⟨rfl, ?_, rfl, rfl, rfl, trivial⟩ (ApI_nodup hq))⟩
        simp only [Eng.look, Nat.reduceEqDiff, reduceIte, if_true, if_false, rwB, Option.some.injEq]
      · have h4 : k = 4 := by have := of_decide_eq_false h; omega
        subst h4
        simp (maxSteps := 1000000) -implicitDefEqProofs only [go_sem, Nat.reduceBEq, Nat.reduceLT, Nat.reduceLeDiff, Nat.reduceEqDiff, Nat.reduceAdd, Nat.reduceMul, Nat.reduceSub, reduceIte, reduceCtorEq, Int.reduceLT, Int.reduceLE, Int.reduceToNat, Int.reduceAdd, Int.reduceSub, Int.reduceNeg, Int.reduceEq, Int.reduceNe, Int.reduceBEq, Int.reduceBNe, BitVec.reduceBEq, BitVec.reduceBNe, BitVec.reduceOfInt, BitVec.reduceSetWidth, -List.reduceReplicate]
        refine ⟨.inr trivial, rfl, ?_⟩
        have hnx : rNext b (rl b n) n = rwB b n 4 := by rw [rNext, if_pos g]
        refine appk_ap (y := [rwB b n 4]) hq (fun o h => ?_) (fun _ => rfl) (by simp) (by decide) (by rw [hrl]; simp only [List.length_cons, List.length_nil]; omega) fun cap sp m3 c1 c2 => ?_
        · exact ApI_hd hq h
        simp (maxSteps := 1000000) -implicitDefEqProofs only [go_sem, Nat.reduceBEq, Nat.reduceLT, Nat.reduceLeDiff, Nat.reduceEqDiff, Nat.reduceAdd, Nat.reduceMul, Nat.reduceSub, reduceIte, reduceCtorEq, Int.reduceLT, Int.reduceLE, Int.reduceToNat, Int.reduceAdd, Int.reduceSub, Int.reduceNeg, Int.reduceEq, Int.reduceNe, Int.reduceBEq, Int.reduceBNe, BitVec.reduceBEq, BitVec.reduceBNe, BitVec.reduceOfInt, BitVec.reduceSetWidth, -List.reduceReplicate, wn]
        refine UpX_normal h' (_, _, _) (ApI.some (X := rl b (n + 1)) (by rw [rl, hnx]; exact c1) c2) ?_
        exact Le.ap (n := x.2.2 + 1) (by rw [rl, hnx, List.length_append]; rfl) (by rw [rl, hnx]; exact look_hd _ _ _) rfl ⟨rfl, rfl, trivial⟩ (by simp only [List.all_cons, List.all_nil, flatro, flatroL_bvs, Bool.and_self])
    · have f2 : decide ((n : Int) < 16) = false := by simp; omega
      rcases hq with ⟨hnil, rfl⟩ | ⟨cap, sp, rfl, hc1, hc2⟩
      · have := congrArg List.length hnil; rw [hrl] at this; simp at this; omega
      have hnx : rNext b (rl b n) n = (rl b n).getD (n - 16) 0 + s0R ((rl b n).getD (n - 15) 0) + (rl b n).getD (n - 7) 0 + s1R ((rl b n).getD (n - 2) 0) := by rw [rNext, if_neg (by omega)]
      have hrs : rl b (n + 1) = rl b n ++ [rNext b (rl b n) n] := rfl
      rw [hnx] at hrs
      have w15 : IntKind.i64.wrap ((n : Int) - 15) = ((n - 15 : Nat) : Int) := by rw [wrap_i64] <;> omega
      have w2 : IntKind.i64.wrap ((n : Int) - 2) = ((n - 2 : Nat) : Int) := by rw [wrap_i64] <;> omega
      have w16 : IntKind.i64.wrap ((n : Int) - 16) = ((n - 16 : Nat) : Int) := by rw [wrap_i64] <;> omega
      have w7 : IntKind.i64.wrap ((n : Int) - 7) = ((n - 7 : Nat) : Int) := by rw [wrap_i64] <;> omega
      have g15 := bvsS_getD .u32 (rl b n) (sp.map AV.val) (n - 15) (by omega)
      have g2 := bvsS_getD .u32 (rl b n) (sp.map AV.val) (n - 2) (by omega)
      have g16 := bvsS_getD .u32 (rl b n) (sp.map AV.val) (n - 16) (by omega)
      have g7 := bvsS_getD .u32 (rl b n) (sp.map AV.val) (n - 7) (by omega)
      simp (maxSteps := 1000000) -implicitDefEqProofs only [go_sem, Nat.reduceBEq, Nat.reduceLT, Nat.reduceLeDiff, Nat.reduceEqDiff, Nat.reduceAdd, Nat.reduceMul, Nat.reduceSub, reduceIte, reduceCtorEq, Int.reduceLT, Int.reduceLE, Int.reduceToNat, Int.reduceAdd, Int.reduceSub, Int.reduceNeg, Int.reduceEq, Int.reduceNe, Int.reduceBEq, Int.reduceBNe, BitVec.reduceBEq, BitVec.reduceBNe, BitVec.reduceOfInt, BitVec.reduceSetWidth, -List.reduceReplicate, f1, f2, w15, w2, g15, g2]
      refine ⟨by omega, by omega, by omega, by omega, ?_⟩
      refine (rrotOk ((rl b n).getD (n - 15) 0) 7 (by decide)).flatv (by simp only [argsx, argx_int, argx_bool, argx_fn, argx_ro, argx_nils, eq_self, true_and, and_true, and_self]; try trivial) (fun _ => rfl) rfl ?_
      simp (maxSteps := 1000000) -implicitDefEqProofs only [go_sem, Nat.reduceBEq, Nat.reduceLT, Nat.reduceLeDiff, Nat.reduceEqDiff, Nat.reduceAdd, Nat.reduceMul, Nat.reduceSub, reduceIte, reduceCtorEq, Int.reduceLT, Int.reduceLE, Int.reduceToNat, Int.reduceAdd, Int.reduceSub, Int.reduceNeg, Int.reduceEq, Int.reduceNe, Int.reduceBEq, Int.reduceBNe, BitVec.reduceBEq, BitVec.reduceBNe, BitVec.reduceOfInt, BitVec.reduceSetWidth, -List.reduceReplicate]
      refine (rrotOk ((rl b n).getD (n - 15) 0) 18 (by decide)).flatv (by simp only [argsx, argx_int, argx_bool, argx_fn, argx_ro, argx_nils, eq_self, true_and, and_true, and_self]; try trivial) (fun _ => rfl) rfl ?_
      simp (maxSteps := 1000000) -implicitDefEqProofs only [go_sem, Nat.reduceBEq, Nat.reduceLT, Nat.reduceLeDiff, Nat.reduceEqDiff, Nat.reduceAdd, Nat.reduceMul, Nat.reduceSub, reduceIte, reduceCtorEq, Int.reduceLT, Int.reduceLE, Int.reduceToNat, Int.reduceAdd, Int.reduceSub, Int.reduceNeg, Int.reduceEq, Int.reduceNe, Int.reduceBEq, Int.reduceBNe, BitVec.reduceBEq, BitVec.reduceBNe, BitVec.reduceOfInt, BitVec.reduceSetWidth, -List.reduceReplicate]
      refine (rrotOk ((rl b n).getD (n - 2) 0) 17 (by decide)).flatv (by simp only [argsx, argx_int, argx_bool, argx_fn, argx_ro, argx_nils, eq_self, true_and, and_true, and_self]; try trivial) (fun _ => rfl) rfl ?_
      simp (maxSteps := 1000000) -implicitDefEqProofs only [go_sem, Nat.reduceBEq, Nat.reduceLT, Nat.reduceLeDiff, Nat.reduceEqDiff, Nat.reduceAdd, Nat.reduceMul, Nat.reduceSub, reduceIte, reduceCtorEq, Int.reduceLT, Int.reduceLE, Int.reduceToNat, Int.reduceAdd, Int.reduceSub, Int.reduceNeg, Int.reduceEq, Int.reduceNe, Int.reduceBEq, Int.reduceBNe, BitVec.reduceBEq, BitVec.reduceBNe, BitVec.reduceOfInt, BitVec.reduceSetWidth, -List.reduceReplicate]
      refine (rrotOk ((rl b n).getD (n - 2) 0) 19 (by decide)).flatv (by simp only [argsx, argx_int, argx_bool, argx_fn, argx_ro, argx_nils, eq_self, true_and, and_true, and_self]; try trivial) (fun _ => rfl) rfl ?_
      simp (maxSteps := 1000000) -implicitDefEqProofs only [go_sem, Nat.reduceBEq, Nat.reduceLT, Nat.reduceLeDiff, Nat.reduceEqDiff, Nat.reduceAdd, Nat.reduceMul, Nat.reduceSub, reduceIte, reduceCtorEq, Int.reduceLT, Int.reduceLE, Int.reduceToNat, Int.reduceAdd, Int.reduceSub, Int.reduceNeg, Int.reduceEq, Int.reduceNe, Int.reduceBEq, Int.reduceBNe, BitVec.reduceBEq, BitVec.reduceBNe, BitVec.reduceOfInt, BitVec.reduceSetWidth, -List.reduceReplicate]
      refine ⟨Fx.mixed, .inr (.inl ⟨[(0, false), (1, false), (2, false), (3, false), (4, false), (5, false), (6, false), (7, false), (8, false), (9, false), (10, false), (11, false), (12, false), (13, false), (14, false), (15, false), (16, true), (17, true), (18, false)], [0], [17], [5, 12], by kernel_rfl, by kernel_rfl, (fun n hn => by cases List.mem_singleton.1 hn; exact ⟨rfl, rfl⟩), ?_⟩)⟩
      simp (maxSteps := 1000000) -implicitDefEqProofs only [go_sem, Nat.reduceBEq, Nat.reduceLT, Nat.reduceLeDiff, Nat.reduceEqDiff, Nat.reduceAdd, Nat.reduceMul, Nat.reduceSub, reduceIte, reduceCtorEq, Int.reduceLT, Int.reduceLE, Int.reduceToNat, Int.reduceAdd, Int.reduceSub, Int.reduceNeg, Int.reduceEq, Int.reduceNe, Int.reduceBEq, Int.reduceBNe, BitVec.reduceBEq, BitVec.reduceBNe, BitVec.reduceOfInt, BitVec.reduceSetWidth, -List.reduceReplicate, w16, w7, g16, g7]
      refine ⟨by omega, by omega, by omega, by omega, .inr trivial, rfl, ?_⟩
      obtain ⟨z, hz⟩ : ∃ z, z = (rl b n).getD (n - 16) 0 + s0R ((rl b n).getD (n - 15) 0) + (rl b n).getD (n - 7) 0 + s1R ((rl b n).getD (n - 2) 0) := ⟨_, rfl⟩
      rw [← hz] at hrs
      change appk _ _ _ _ _ _ _ (1, bvs .u32 (List.take 1 ((List.replicate 1 (0 : BitVec 32)).set 0 ((rl b n).getD (n - 16) 0 + s0R ((rl b n).getD (n - 15) 0) + (rl b n).getD (n - 7) 0 + s1R ((rl b n).getD (n - 2) 0))))) _
      rw [← hz]
      refine appk_bvs (x := rl b n) (y := [z]) (sp := sp) (n := 0) rfl rfl hc1 hc2 (by decide) (by simp only [List.length_cons, List.length_nil]; omega) fun cap2 sp2 c1 c2 => ?_
      rw [← hrs]
      rw [← hrs] at c1
      simp (maxSteps := 1000000) -implicitDefEqProofs only [go_sem, Nat.reduceBEq, Nat.reduceLT, Nat.reduceLeDiff, Nat.reduceEqDiff, Nat.reduceAdd, Nat.reduceMul, Nat.reduceSub, reduceIte, reduceCtorEq, Int.reduceLT, Int.reduceLE, Int.reduceToNat, Int.reduceAdd, Int.reduceSub, Int.reduceNeg, Int.reduceEq, Int.reduceNe, Int.reduceBEq, Int.reduceBNe, BitVec.reduceBEq, BitVec.reduceBNe, BitVec.reduceOfInt, BitVec.reduceSetWidth, -List.reduceReplicate, wn]
      refine UpX_normal h' (_, _, _) (ApI.some c1 c2) ?_
      exact Le.ap (n := 2) rfl (look_hd _ _ _) rfl ⟨rfl, rfl, trivial⟩ (by simp only [List.all_cons, List.all_nil, flatro, flatroL_bvs, Bool.and_self])
  · have hnn : n = 64 := by omega
    subst hnn
    have f1 : decide ((64 : Int) < 64) = false := rfl
    simp (maxSteps := 1000000) -implicitDefEqProofs only [go_sem, Nat.reduceBEq, Nat.reduceLT, Nat.reduceLeDiff, Nat.reduceEqDiff, Nat.reduceAdd, Nat.reduceMul, Nat.reduceSub, reduceIte, reduceCtorEq, Int.reduceLT, Int.reduceLE, Int.reduceToNat, Int.reduceAdd, Int.reduceSub, Int.reduceNeg, Int.reduceEq, Int.reduceNe, Int.reduceBEq, Int.reduceBNe, BitVec.reduceBEq, BitVec.reduceBNe, BitVec.reduceOfInt, BitVec.reduceSetWidth, -List.reduceReplicate, f1]
    exact Fin.ap hq idG (fun _ _ => rfl) (fun _ => rfl)
end Go.Proofs.Ytmdeoikpiiambaa
end
section
/- SHA-256: the document: roots, bytes that are padded. -/
set_option linter.unusedVariables false
set_option linter.unusedSimpArgs false
set_option maxRecDepth 100000
/-! Shg -/
namespace Go.Proofs.Ytmdeoikpiiambaa
open Go Go.Eng
def pw (n : Nat) : BitVec 64 := BitVec.ofNat 64 (256 ^ (7 - n))
theorem pw_step : ∀ n : Fin 8, (pw n.val / 256#64).toNat = if n.val + 1 < 8 then (pw (n.val + 1)).toNat else 0 := by decide
theorem pw_pos : ∀ n : Fin 8, 0 < (pw n.val).toNat := by decide
/-- eight bytes of a number, by its quotients -/
def ry8 (m : BitVec 64) : Nat → List (BitVec 8)
  | 0 => []
  | n + 1 => ry8 m n ++ [(m / pw n % 256#64).setWidth 8]
theorem ry8_len (m : BitVec 64) (n : Nat) : (ry8 m n).length = n := by
  induction n with
  | zero => rfl
  | succ n ih => simp [ry8, ih]
def rpE (b : List (BitVec 8)) (m : BitVec 64) (n : Nat) : List (BitVec 8) := padZ b (zN b.length) ++ ry8 m n
theorem rpE_len (b : List (BitVec 8)) (m : BitVec 64) (n : Nat) : (rpE b m n).length = b.length + 1 + zN b.length + n := by simp [rpE, padZ_len, ry8_len]
theorem rpE_succ (b : List (BitVec 8)) (m : BitVec 64) (n : Nat) : rpE b m n ++ [(m / pw n % 256#64).setWidth 8] = rpE b m (n + 1) := by simp [rpE, ry8]
def padR (b : List (BitVec 8)) : List (BitVec 8) := rpE b (8#64 * BitVec.ofNat 64 b.length) 8
set_option maxHeartbeats 800000 in
theorem rpadOk (b : List (BitVec 8)) (hb : b.length ≤ 100000) : CallOk Try.prog 138 [.ro b.length (bvs .u8 b)] (fun _ => true) [] 0 (Rets idG .u8 (padR b) 5) := by
  refine fn_ok Try.func138 rfl (by show 1 ≤ _; decide) ?_
  have hzN : zN b.length < 64 := Nat.mod_lt _ (by decide)
  simp (maxSteps := 1000000) -implicitDefEqProofs only [go_sem, Nat.reduceBEq, Nat.reduceLT, Nat.reduceLeDiff, Nat.reduceEqDiff, Nat.reduceAdd, Nat.reduceMul, Nat.reduceSub, reduceIte, reduceCtorEq, Int.reduceLT, Int.reduceLE, Int.reduceToNat, Int.reduceAdd, Int.reduceSub, Int.reduceNeg, Int.reduceEq, Int.reduceNe, Int.reduceBEq, Int.reduceBNe, BitVec.reduceBEq, BitVec.reduceBNe, BitVec.reduceOfInt, BitVec.reduceSetWidth, -List.reduceReplicate, Try.results138, Try.ntmps138, List.take_length]
  refine ⟨.inl trivial, ?_⟩
  refine appk_bvs (x := ([] : List (BitVec 8))) (sp := []) rfl rfl rfl (by decide) (by decide) (by rw [List.length_nil]; omega) fun cap1 sp1 g1 g2 => ?_
  simp only [List.nil_append] at g1
  simp (maxSteps := 1000000) -implicitDefEqProofs only [go_sem, Nat.reduceBEq, Nat.reduceLT, Nat.reduceLeDiff, Nat.reduceEqDiff, Nat.reduceAdd, Nat.reduceMul, Nat.reduceSub, reduceIte, reduceCtorEq, Int.reduceLT, Int.reduceLE, Int.reduceToNat, Int.reduceAdd, Int.reduceSub, Int.reduceNeg, Int.reduceEq, Int.reduceNe, Int.reduceBEq, Int.reduceBNe, BitVec.reduceBEq, BitVec.reduceBNe, BitVec.reduceOfInt, BitVec.reduceSetWidth, -List.reduceReplicate]
  refine ⟨.inr trivial, rfl, rfl, ?_⟩
  refine appk_bvs (x := b) (y := [128#8]) (sp := sp1) (n := 1) rfl rfl g1 g2 (by decide) (by simp only [List.length_cons, List.length_nil]; omega) fun cap2 sp2 g3 g4 => ?_
  have hp0 : b ++ [128#8] = padZ b 0 := by simp [padZ]
  rw [hp0]
  rw [hp0] at g3
  simp (maxSteps := 1000000) -implicitDefEqProofs only [go_sem, Nat.reduceBEq, Nat.reduceLT, Nat.reduceLeDiff, Nat.reduceEqDiff, Nat.reduceAdd, Nat.reduceMul, Nat.reduceSub, reduceIte, reduceCtorEq, Int.reduceLT, Int.reduceLE, Int.reduceToNat, Int.reduceAdd, Int.reduceSub, Int.reduceNeg, Int.reduceEq, Int.reduceNe, Int.reduceBEq, Int.reduceBNe, BitVec.reduceBEq, BitVec.reduceBNe, BitVec.reduceOfInt, BitVec.reduceSetWidth, -List.reduceReplicate]
  refine LoopOk.upX (fun n x => (padZ b n).length + x.2.length = x.1 ∧ x.1 ≤ maxI) (zN b.length) (fun n x => ([(3, .sl 0 0 (padZ b n).length x.1), (0, .ro b.length (bvs .u8 b))], [(0, .cells (bvs .u8 (padZ b n) ++ x.2.map AV.val) 5)], 1)) (cap2, sp2) ⟨g3, g4⟩ ?_ ?_
  · exact Le.ap (n := 3) rfl (look_hd _ _ _) rfl ⟨rfl, trivial⟩ (by simp only [List.all_cons, List.all_nil, flatro, flatroL_bvs, Bool.and_self])
  intro n x ⟨hn, hq1, hq2⟩
  have hzl := padZ_len b n
  have hzm : ((padZ b n).length : Int).tmod 64 = (((b.length + 1 + n) % 64 : Nat) : Int) := by rw [hzl, Int.tmod_eq_emod_of_nonneg (by omega)]; omega
  rcases Nat.lt_or_ge n (zN b.length) with h' | h'
  · have f1 : ((((b.length + 1 + n) % 64 : Nat) : Int) != 56) = true := by
      rw [bne_iff_ne]; unfold zN at h'; omega
    simp (maxSteps := 1000000) -implicitDefEqProofs only [go_sem, Nat.reduceBEq, Nat.reduceLT, Nat.reduceLeDiff, Nat.reduceEqDiff, Nat.reduceAdd, Nat.reduceMul, Nat.reduceSub, reduceIte, reduceCtorEq, Int.reduceLT, Int.reduceLE, Int.reduceToNat, Int.reduceAdd, Int.reduceSub, Int.reduceNeg, Int.reduceEq, Int.reduceNe, Int.reduceBEq, Int.reduceBNe, BitVec.reduceBEq, BitVec.reduceBNe, BitVec.reduceOfInt, BitVec.reduceSetWidth, -List.reduceReplicate, hzm, f1]
    refine ⟨.inr trivial, rfl, rfl, ?_⟩
    refine appk_bvs (x := padZ b n) (y := [0#8]) (sp := x.2) (n := 0) rfl rfl hq1 hq2 (by decide) (by simp only [List.length_cons, List.length_nil]; omega) fun cap3 sp3 g5 g6 => ?_
    rw [padZ_succ]
    rw [padZ_succ] at g5
    simp (maxSteps := 1000000) -implicitDefEqProofs only [go_sem, Nat.reduceBEq, Nat.reduceLT, Nat.reduceLeDiff, Nat.reduceEqDiff, Nat.reduceAdd, Nat.reduceMul, Nat.reduceSub, reduceIte, reduceCtorEq, Int.reduceLT, Int.reduceLE, Int.reduceToNat, Int.reduceAdd, Int.reduceSub, Int.reduceNeg, Int.reduceEq, Int.reduceNe, Int.reduceBEq, Int.reduceBNe, BitVec.reduceBEq, BitVec.reduceBNe, BitVec.reduceOfInt, BitVec.reduceSetWidth, -List.reduceReplicate]
    refine UpX_normal h' (cap3, sp3) ⟨g5, g6⟩ (Le.ap (n := 2) rfl (look_hd _ _ _) rfl ⟨rfl, trivial⟩ (by simp only [List.all_cons, List.all_nil, flatro, flatroL_bvs, Bool.and_self]))
  · have hnz : n = zN b.length := by omega
    subst hnz
    have f1 : ((((b.length + 1 + zN b.length) % 64 : Nat) : Int) != 56) = false := by
      have : (b.length + 1 + zN b.length) % 64 = 56 := by unfold zN; omega
      rw [this]; rfl
    have he0 : padZ b (zN b.length) = rpE b (8#64 * BitVec.ofNat 64 b.length) 0 := by simp [rpE, ry8]
    have hR : padR b = rpE b (8#64 * BitVec.ofNat 64 b.length) 8 := rfl
    rw [hR]
    simp (maxSteps := 1000000) -implicitDefEqProofs only [go_sem, Nat.reduceBEq, Nat.reduceLT, Nat.reduceLeDiff, Nat.reduceEqDiff, Nat.reduceAdd, Nat.reduceMul, Nat.reduceSub, reduceIte, reduceCtorEq, Int.reduceLT, Int.reduceLE, Int.reduceToNat, Int.reduceAdd, Int.reduceSub, Int.reduceNeg, Int.reduceEq, Int.reduceNe, Int.reduceBEq, Int.reduceBNe, BitVec.reduceBEq, BitVec.reduceBNe, BitVec.reduceOfInt, BitVec.reduceSetWidth, -List.reduceReplicate, hzm, f1]
    rw [he0]
    rw [he0] at hq1
    generalize 8#64 * BitVec.ofNat 64 b.length = m8 at *
    refine LoopOk.upX (fun n x => (rpE b m8 n).length + x.2.length = x.1 ∧ x.1 ≤ maxI) 8 (fun n x => ([(3, .sl 0 0 (rpE b m8 n).length x.1), (6, .int .i64 n), (5, .int .u64 ((if n < 8 then (pw n).toNat else 0 : Nat) : Int)), (4, .int .u64 (m8.toNat : Int)), (0, .ro b.length (bvs .u8 b))], [(0, .cells (bvs .u8 (rpE b m8 n) ++ x.2.map AV.val) 5)], 1)) x ⟨hq1, hq2⟩ ?_ ?_
    · exact Le.ap (n := 0) rfl (look_hd _ _ _) rfl ⟨rfl, rfl, rfl, rfl, trivial⟩ (by simp only [List.all_cons, List.all_nil, flatro, flatroL_bvs, Bool.and_self])
    clear hzl hzm hq1 hq2 he0 f1
    intro n x ⟨hn, hq1, hq2⟩
    have hel := rpE_len b m8 n
    have wn : IntKind.i64.wrap ((n : Int) + 1) = ((n + 1 : Nat) : Int) := by rw [wrap_i64] <;> omega
    rcases Nat.lt_or_ge n 8 with h8 | h8
    · have f1 : decide ((n : Int) < 8) = true := by simp; omega
      have hpn : (if n < 8 then (pw n).toNat else 0 : Nat) = (pw n).toNat := if_pos h8
      rw [hpn]
      have hdv : (m8.toNat : Int).tdiv ((pw n).toNat : Int) = ((m8 / pw n).toNat : Int) := by
        rw [Int.tdiv_eq_ediv_of_nonneg (by omega), BitVec.toNat_udiv, Int.natCast_ediv]
      have hps := pw_step ⟨n, h8⟩
      have hp0 := pw_pos ⟨n, h8⟩
      simp only at hps hp0
      simp (maxSteps := 1000000) -implicitDefEqProofs only [go_sem, Nat.reduceBEq, Nat.reduceLT, Nat.reduceLeDiff, Nat.reduceEqDiff, Nat.reduceAdd, Nat.reduceMul, Nat.reduceSub, reduceIte, reduceCtorEq, Int.reduceLT, Int.reduceLE, Int.reduceToNat, Int.reduceAdd, Int.reduceSub, Int.reduceNeg, Int.reduceEq, Int.reduceNe, Int.reduceBEq, Int.reduceBNe, BitVec.reduceBEq, BitVec.reduceBNe, BitVec.reduceOfInt, BitVec.reduceSetWidth, -List.reduceReplicate, f1, hdv]
      refine ⟨by omega, .inr trivial, rfl, ?_⟩
      refine appk_bvs (x := rpE b m8 n) (y := [(m8 / pw n % 256#64).setWidth 8]) (sp := x.2) (n := 0) rfl rfl hq1 hq2 (by decide) (by simp only [List.length_cons, List.length_nil]; omega) fun cap3 sp3 g5 g6 => ?_
      rw [rpE_succ]
      rw [rpE_succ] at g5
      simp (maxSteps := 1000000) -implicitDefEqProofs only [go_sem, Nat.reduceBEq, Nat.reduceLT, Nat.reduceLeDiff, Nat.reduceEqDiff, Nat.reduceAdd, Nat.reduceMul, Nat.reduceSub, reduceIte, reduceCtorEq, Int.reduceLT, Int.reduceLE, Int.reduceToNat, Int.reduceAdd, Int.reduceSub, Int.reduceNeg, Int.reduceEq, Int.reduceNe, Int.reduceBEq, Int.reduceBNe, BitVec.reduceBEq, BitVec.reduceBNe, BitVec.reduceOfInt, BitVec.reduceSetWidth, -List.reduceReplicate, wn]
      refine UpX_normal h8 (cap3, sp3) ⟨g5, g6⟩ (Le.ap (n := 2) rfl (look_hd _ _ _) rfl ⟨rfl, ?_, rfl, rfl, trivial⟩ (by simp only [List.all_cons, List.all_nil, flatro, flatroL_bvs, Bool.and_self]))
      rw [← hps]
      rfl
    · have hn8 : n = 8 := by omega
      subst hn8
      have f1 : decide ((8 : Int) < 8) = false := rfl
      simp (maxSteps := 1000000) -implicitDefEqProofs only [go_sem, Nat.reduceBEq, Nat.reduceLT, Nat.reduceLeDiff, Nat.reduceEqDiff, Nat.reduceAdd, Nat.reduceMul, Nat.reduceSub, reduceIte, reduceCtorEq, Int.reduceLT, Int.reduceLE, Int.reduceToNat, Int.reduceAdd, Int.reduceSub, Int.reduceNeg, Int.reduceEq, Int.reduceNe, Int.reduceBEq, Int.reduceBNe, BitVec.reduceBEq, BitVec.reduceBNe, BitVec.reduceOfInt, BitVec.reduceSetWidth, -List.reduceReplicate, f1]
      exact Fin.sl rfl idG (fun _ _ => rfl) (fun _ => rfl) (look_hd _ _ _)
end Go.Proofs.Ytmdeoikpiiambaa
/-! Shh -/
namespace Go.Proofs.Ytmdeoikpiiambaa
open Go Go.Eng
def mulM (a b : BitVec 64) : BitVec 64 := a % 4294967296#64 * (b % 4294967296#64) / 4294967296#64 + a / 4294967296#64 * (b % 4294967296#64) % 4294967296#64 + a % 4294967296#64 * (b / 4294967296#64) % 4294967296#64
def mulH (a b : BitVec 64) : BitVec 64 := a / 4294967296#64 * (b / 4294967296#64) + a / 4294967296#64 * (b % 4294967296#64) / 4294967296#64 + a % 4294967296#64 * (b / 4294967296#64) / 4294967296#64 + mulM a b / 4294967296#64
def mulL (a b : BitVec 64) : BitVec 64 := mulM a b % 4294967296#64 * 4294967296#64 + a % 4294967296#64 * (b % 4294967296#64) % 4294967296#64
theorem mulOk (a b : BitVec 64) : CallOk Try.prog 201 [.int .u64 (a.toNat : Int), .int .u64 (b.toNat : Int)] (fun _ => true) [] 0 fun v m nx => v = .tup [.int .u64 ((mulH a b).toNat : Int), .int .u64 ((mulL a b).toNat : Int)] ∧ m = [] ∧ nx = 0 := by
  refine fn_ok Try.func201 rfl (by show 2 ≤ _; decide) ?_
  simp (maxSteps := 1000000) -implicitDefEqProofs only [go_sem, Nat.reduceBEq, Nat.reduceLT, Nat.reduceLeDiff, Nat.reduceEqDiff, Nat.reduceAdd, Nat.reduceMul, Nat.reduceSub, reduceIte, reduceCtorEq, Int.reduceLT, Int.reduceLE, Int.reduceToNat, Int.reduceAdd, Int.reduceSub, Int.reduceNeg, Int.reduceEq, Int.reduceNe, Int.reduceBEq, Int.reduceBNe, BitVec.reduceBEq, BitVec.reduceBNe, BitVec.reduceOfInt, BitVec.reduceSetWidth, -List.reduceReplicate, Try.results201, Try.ntmps201]
  exact Fin.flatv (fun _ => rfl) (fun f => rfl) ⟨rfl, rfl, rfl⟩
def bitS (k : Nat) : BitVec 64 := 68719476736#64 >>> k
def sqN (v : BitVec 64) : Nat → BitVec 64
  | 0 => 0#64
  | k + 1 => if decide (((mulH (sqN v k + bitS k) (sqN v k + bitS k)).toNat : Int) < (v.toNat : Int)) then sqN v k + bitS k else sqN v k
def squareW (v : BitVec 64) : BitVec 32 := (sqN v 37 % 4294967296#64).setWidth 32
theorem bitS_succ (k : Nat) : bitS k / 2#64 = bitS (k + 1) := by
  apply BitVec.eq_of_toNat_eq
  have e2 : (2#64).toNat = 2 := rfl
  rw [bitS, bitS, BitVec.toNat_udiv, BitVec.toNat_ushiftRight, BitVec.toNat_ushiftRight, e2, Nat.shiftRight_succ]
theorem bitS_pos : ∀ k : Fin 37, decide (((bitS k.val).toNat : Int) > 0) = true := by decide
theorem squareOk (v : BitVec 64) : CallOk Try.prog 181 [.int .u64 (v.toNat : Int)] (fun _ => true) [] 0 fun r m nx => r = .int .u32 ((squareW v).toNat : Int) ∧ m = [] ∧ nx = 0 := by
  refine fn_ok Try.func181 rfl (by show 1 ≤ _; decide) ?_
  simp (maxSteps := 1000000) -implicitDefEqProofs only [go_sem, Nat.reduceBEq, Nat.reduceLT, Nat.reduceLeDiff, Nat.reduceEqDiff, Nat.reduceAdd, Nat.reduceMul, Nat.reduceSub, reduceIte, reduceCtorEq, Int.reduceLT, Int.reduceLE, Int.reduceToNat, Int.reduceAdd, Int.reduceSub, Int.reduceNeg, Int.reduceEq, Int.reduceNe, Int.reduceBEq, Int.reduceBNe, BitVec.reduceBEq, BitVec.reduceBNe, BitVec.reduceOfInt, BitVec.reduceSetWidth, -List.reduceReplicate, Try.results181, Try.ntmps181]
  refine LoopOk.up 37 (fun k => ([(4, .int .u64 ((bitS k).toNat : Int)), (3, .int .u64 ((sqN v k).toNat : Int)), (0, .int .u64 (v.toNat : Int))], [], 0)) (Le.sameM ⟨rfl, rfl, rfl, trivial⟩ List.nodup_nil) ?_
  intro k hk
  have hbs := bitS_succ k
  have hnx : sqN v (k + 1) = if decide (((mulH (sqN v k + bitS k) (sqN v k + bitS k)).toNat : Int) < (v.toNat : Int)) then sqN v k + bitS k else sqN v k := rfl
  rcases Nat.lt_or_ge k 37 with h' | h'
  · have f1 : decide (((bitS k).toNat : Int) > 0) = true := bitS_pos ⟨k, h'⟩
    simp (maxSteps := 1000000) -implicitDefEqProofs only [go_sem, Nat.reduceBEq, Nat.reduceLT, Nat.reduceLeDiff, Nat.reduceEqDiff, Nat.reduceAdd, Nat.reduceMul, Nat.reduceSub, reduceIte, reduceCtorEq, Int.reduceLT, Int.reduceLE, Int.reduceToNat, Int.reduceAdd, Int.reduceSub, Int.reduceNeg, Int.reduceEq, Int.reduceNe, Int.reduceBEq, Int.reduceBNe, BitVec.reduceBEq, BitVec.reduceBNe, BitVec.reduceOfInt, BitVec.reduceSetWidth, -List.reduceReplicate, f1]
    refine (mulOk (sqN v k + bitS k) (sqN v k + bitS k)).flatv (by simp only [argsx, argx_int, argx_bool, argx_fn, argx_ro, argx_nils, eq_self, true_and, and_true, and_self]; try trivial) (fun _ => rfl) rfl ?_
    cases f2 : decide (((mulH (sqN v k + bitS k) (sqN v k + bitS k)).toNat : Int) < (v.toNat : Int)) with
    | true =>
      rw [f2, if_pos rfl] at hnx
      simp (maxSteps := 1000000) -implicitDefEqProofs only [go_sem, Nat.reduceBEq, Nat.reduceLT, Nat.reduceLeDiff, Nat.reduceEqDiff, Nat.reduceAdd, Nat.reduceMul, Nat.reduceSub, reduceIte, reduceCtorEq, Int.reduceLT, Int.reduceLE, Int.reduceToNat, Int.reduceAdd, Int.reduceSub, Int.reduceNeg, Int.reduceEq, Int.reduceNe, Int.reduceBEq, Int.reduceBNe, BitVec.reduceBEq, BitVec.reduceBNe, BitVec.reduceOfInt, BitVec.reduceSetWidth, -List.reduceReplicate, f2, hbs]
      exact UpK_normal h' (Le.sameM ⟨rfl, by rw [hnx]; rfl, rfl, trivial⟩ List.nodup_nil)
    | false =>
      rw [f2, if_neg (by decide)] at hnx
      simp (maxSteps := 1000000) -implicitDefEqProofs only [go_sem, Nat.reduceBEq, Nat.reduceLT, Nat.reduceLeDiff, Nat.reduceEqDiff, Nat.reduceAdd, Nat.reduceMul, Nat.reduceSub, reduceIte, reduceCtorEq, Int.reduceLT, Int.reduceLE, Int.reduceToNat, Int.reduceAdd, Int.reduceSub, Int.reduceNeg, Int.reduceEq, Int.reduceNe, Int.reduceBEq, Int.reduceBNe, BitVec.reduceBEq, BitVec.reduceBNe, BitVec.reduceOfInt, BitVec.reduceSetWidth, -List.reduceReplicate, f2, hbs]
      exact UpK_normal h' (Le.sameM ⟨rfl, by rw [hnx]; rfl, rfl, trivial⟩ List.nodup_nil)
  · have hk : k = 37 := by omega
    subst hk
    have f1 : decide (((bitS 37).toNat : Int) > 0) = false := by decide
    simp (maxSteps := 1000000) -implicitDefEqProofs only [go_sem, Nat.reduceBEq, Nat.reduceLT, Nat.reduceLeDiff, Nat.reduceEqDiff, Nat.reduceAdd, Nat.reduceMul, Nat.reduceSub, reduceIte, reduceCtorEq, Int.reduceLT, Int.reduceLE, Int.reduceToNat, Int.reduceAdd, Int.reduceSub, Int.reduceNeg, Int.reduceEq, Int.reduceNe, Int.reduceBEq, Int.reduceBNe, BitVec.reduceBEq, BitVec.reduceBNe, BitVec.reduceOfInt, BitVec.reduceSetWidth, -List.reduceReplicate, f1]
    exact Fin.flatv (fun _ => rfl) (fun f => rfl) ⟨rfl, rfl, rfl⟩
def bitC (k : Nat) : BitVec 64 := 34359738368#64 >>> k
def cbA (y : BitVec 64) : BitVec 64 := mulH (mulH y y) y
def cbB (y : BitVec 64) : BitVec 64 := mulL (mulH y y) y
def cbC (y : BitVec 64) : BitVec 64 := mulH (mulL y y) y
def cbT (v y : BitVec 64) : Bool := if decide (((cbB y + cbC y).toNat : Int) < ((cbB y).toNat : Int)) then (cbA y + 1#64 == 0#64) && decide ((((cbB y + cbC y) / 4294967296#64).toNat : Int) < (v.toNat : Int)) else (cbA y == 0#64) && decide ((((cbB y + cbC y) / 4294967296#64).toNat : Int) < (v.toNat : Int))
def cbN (v : BitVec 64) : Nat → BitVec 64
  | 0 => 0#64
  | k + 1 => if cbT v (cbN v k + bitC k) then cbN v k + bitC k else cbN v k
def cubeW (v : BitVec 64) : BitVec 32 := (cbN v 36 % 4294967296#64).setWidth 32
theorem bitC_succ (k : Nat) : bitC k / 2#64 = bitC (k + 1) := by
  apply BitVec.eq_of_toNat_eq
  have e2 : (2#64).toNat = 2 := rfl
  rw [bitC, bitC, BitVec.toNat_udiv, BitVec.toNat_ushiftRight, BitVec.toNat_ushiftRight, e2, Nat.shiftRight_succ]
theorem bitC_pos : ∀ k : Fin 36, decide (((bitC k.val).toNat : Int) > 0) = true := by decide
set_option maxHeartbeats 800000 in
theorem cubeOk (v : BitVec 64) : CallOk Try.prog 182 [.int .u64 (v.toNat : Int)] (fun _ => true) [] 0 fun r m nx => r = .int .u32 ((cubeW v).toNat : Int) ∧ m = [] ∧ nx = 0 := by
  refine fn_ok Try.func182 rfl (by show 1 ≤ _; decide) ?_
  simp (maxSteps := 1000000) -implicitDefEqProofs only [go_sem, Nat.reduceBEq, Nat.reduceLT, Nat.reduceLeDiff, Nat.reduceEqDiff, Nat.reduceAdd, Nat.reduceMul, Nat.reduceSub, reduceIte, reduceCtorEq, Int.reduceLT, Int.reduceLE, Int.reduceToNat, Int.reduceAdd, Int.reduceSub, Int.reduceNeg, Int.reduceEq, Int.reduceNe, Int.reduceBEq, Int.reduceBNe, BitVec.reduceBEq, BitVec.reduceBNe, BitVec.reduceOfInt, BitVec.reduceSetWidth, -List.reduceReplicate, Try.results182, Try.ntmps182]
  refine LoopOk.up 36 (fun k => ([(4, .int .u64 ((bitC k).toNat : Int)), (3, .int .u64 ((cbN v k).toNat : Int)), (0, .int .u64 (v.toNat : Int))], [], 0)) (Le.sameM ⟨rfl, rfl, rfl, trivial⟩ List.nodup_nil) ?_
  intro k hk
  have hbs := bitC_succ k
  have hnx : cbN v (k + 1) = if cbT v (cbN v k + bitC k) then cbN v k + bitC k else cbN v k := rfl
  rcases Nat.lt_or_ge k 36 with h' | h'
  · have f1 : decide (((bitC k).toNat : Int) > 0) = true := bitC_pos ⟨k, h'⟩
    simp (maxSteps := 1000000) -implicitDefEqProofs only [go_sem, Nat.reduceBEq, Nat.reduceLT, Nat.reduceLeDiff, Nat.reduceEqDiff, Nat.reduceAdd, Nat.reduceMul, Nat.reduceSub, reduceIte, reduceCtorEq, Int.reduceLT, Int.reduceLE, Int.reduceToNat, Int.reduceAdd, Int.reduceSub, Int.reduceNeg, Int.reduceEq, Int.reduceNe, Int.reduceBEq, Int.reduceBNe, BitVec.reduceBEq, BitVec.reduceBNe, BitVec.reduceOfInt, BitVec.reduceSetWidth, -List.reduceReplicate, f1]
    obtain ⟨y, hy⟩ : ∃ y, y = cbN v k + bitC k := ⟨_, rfl⟩
    rw [← hy] at hnx ⊢
    have hA : mulH (mulH y y) y = cbA y := rfl
    have hB : mulL (mulH y y) y = cbB y := rfl
    have hC : mulH (mulL y y) y = cbC y := rfl
    refine (mulOk y y).flatv (by simp only [argsx, argx_int, argx_bool, argx_fn, argx_ro, argx_nils, eq_self, true_and, and_true, and_self]; try trivial) (fun _ => rfl) rfl ?_
    simp (maxSteps := 1000000) -implicitDefEqProofs only [go_sem, Nat.reduceBEq, Nat.reduceLT, Nat.reduceLeDiff, Nat.reduceEqDiff, Nat.reduceAdd, Nat.reduceMul, Nat.reduceSub, reduceIte, reduceCtorEq, Int.reduceLT, Int.reduceLE, Int.reduceToNat, Int.reduceAdd, Int.reduceSub, Int.reduceNeg, Int.reduceEq, Int.reduceNe, Int.reduceBEq, Int.reduceBNe, BitVec.reduceBEq, BitVec.reduceBNe, BitVec.reduceOfInt, BitVec.reduceSetWidth, -List.reduceReplicate]
    refine (mulOk (mulH y y) y).flatv (by simp only [argsx, argx_int, argx_bool, argx_fn, argx_ro, argx_nils, eq_self, true_and, and_true, and_self]; try trivial) (fun _ => rfl) rfl ?_
    simp (maxSteps := 1000000) -implicitDefEqProofs only [go_sem, Nat.reduceBEq, Nat.reduceLT, Nat.reduceLeDiff, Nat.reduceEqDiff, Nat.reduceAdd, Nat.reduceMul, Nat.reduceSub, reduceIte, reduceCtorEq, Int.reduceLT, Int.reduceLE, Int.reduceToNat, Int.reduceAdd, Int.reduceSub, Int.reduceNeg, Int.reduceEq, Int.reduceNe, Int.reduceBEq, Int.reduceBNe, BitVec.reduceBEq, BitVec.reduceBNe, BitVec.reduceOfInt, BitVec.reduceSetWidth, -List.reduceReplicate]
    refine (mulOk (mulL y y) y).flatv (by simp only [argsx, argx_int, argx_bool, argx_fn, argx_ro, argx_nils, eq_self, true_and, and_true, and_self]; try trivial) (fun _ => rfl) rfl ?_
    rw [hA, hB, hC]
    cases f2 : decide (((cbB y + cbC y).toNat : Int) < ((cbB y).toNat : Int)) with
    | true =>
      have hT : cbT v y = ((cbA y + 1#64 == 0#64) && decide ((((cbB y + cbC y) / 4294967296#64).toNat : Int) < (v.toNat : Int))) := by rw [cbT, f2, if_pos rfl]
      cases f3 : (cbA y + 1#64 == 0#64) with
      | true =>
        cases f4 : decide ((((cbB y + cbC y) / 4294967296#64).toNat : Int) < (v.toNat : Int)) with
        | true =>
          rw [hT, f3, f4] at hnx
          simp (maxSteps := 1000000) -implicitDefEqProofs only [go_sem, Nat.reduceBEq, Nat.reduceLT, Nat.reduceLeDiff, Nat.reduceEqDiff, Nat.reduceAdd, Nat.reduceMul, Nat.reduceSub, reduceIte, reduceCtorEq, Int.reduceLT, Int.reduceLE, Int.reduceToNat, Int.reduceAdd, Int.reduceSub, Int.reduceNeg, Int.reduceEq, Int.reduceNe, Int.reduceBEq, Int.reduceBNe, BitVec.reduceBEq, BitVec.reduceBNe, BitVec.reduceOfInt, BitVec.reduceSetWidth, -List.reduceReplicate, f2, f3, f4, hbs]
          exact UpK_normal h' (Le.sameM ⟨rfl, by rw [hnx]; rfl, rfl, trivial⟩ List.nodup_nil)
        | false =>
          rw [hT, f3, f4] at hnx
          simp (maxSteps := 1000000) -implicitDefEqProofs only [go_sem, Nat.reduceBEq, Nat.reduceLT, Nat.reduceLeDiff, Nat.reduceEqDiff, Nat.reduceAdd, Nat.reduceMul, Nat.reduceSub, reduceIte, reduceCtorEq, Int.reduceLT, Int.reduceLE, Int.reduceToNat, Int.reduceAdd, Int.reduceSub, Int.reduceNeg, Int.reduceEq, Int.reduceNe, Int.reduceBEq, Int.reduceBNe, BitVec.reduceBEq, BitVec.reduceBNe, BitVec.reduceOfInt, BitVec.reduceSetWidth, -List.reduceReplicate, f2, f3, f4, hbs]
          exact UpK_normal h' (Le.sameM ⟨rfl, by rw [hnx]; rfl, rfl, trivial⟩ List.nodup_nil)
      | false =>
        rw [hT, f3] at hnx
        simp (maxSteps := 1000000) -implicitDefEqProofs only [go_sem, Nat.reduceBEq, Nat.reduceLT, Nat.reduceLeDiff, Nat.reduceEqDiff, Nat.reduceAdd, Nat.reduceMul, Nat.reduceSub, reduceIte, reduceCtorEq, Int.reduceLT, Int.reduceLE, Int.reduceToNat, Int.reduceAdd, Int.reduceSub, Int.reduceNeg, Int.reduceEq, Int.reduceNe, Int.reduceBEq, Int.reduceBNe, BitVec.reduceBEq, BitVec.reduceBNe, BitVec.reduceOfInt, BitVec.reduceSetWidth, -List.reduceReplicate, f2, f3, hbs]
        exact UpK_normal h' (Le.sameM ⟨rfl, by rw [hnx]; rfl, rfl, trivial⟩ List.nodup_nil)
    | false =>
      have hT : cbT v y = ((cbA y == 0#64) && decide ((((cbB y + cbC y) / 4294967296#64).toNat : Int) < (v.toNat : Int))) := by rw [cbT, f2, if_neg (by decide)]
      cases f3 : (cbA y == 0#64) with
      | true =>
        cases f4 : decide ((((cbB y + cbC y) / 4294967296#64).toNat : Int) < (v.toNat : Int)) with
        | true =>
          rw [hT, f3, f4] at hnx
          simp (maxSteps := 1000000) -implicitDefEqProofs only [go_sem, Nat.reduceBEq, Nat.reduceLT, Nat.reduceLeDiff, Nat.reduceEqDiff, Nat.reduceAdd, Nat.reduceMul, Nat.reduceSub, reduceIte, reduceCtorEq, Int.reduceLT, Int.reduceLE, Int.reduceToNat, Int.reduceAdd, Int.reduceSub, Int.reduceNeg, Int.reduceEq, Int.reduceNe, Int.reduceBEq, Int.reduceBNe, BitVec.reduceBEq, BitVec.reduceBNe, BitVec.reduceOfInt, BitVec.reduceSetWidth, -List.reduceReplicate, f2, f3, f4, hbs]
          exact UpK_normal h' (Le.sameM ⟨rfl, by rw [hnx]; rfl, rfl, trivial⟩ List.nodup_nil)
        | false =>
          rw [hT, f3, f4] at hnx
          simp (maxSteps := 1000000) -implicitDefEqProofs only [go_sem, Nat.reduceBEq, Nat.reduceLT, Nat.reduceLeDiff, Nat.reduceEqDiff, Nat.reduceAdd, Nat.reduceMul, Nat.reduceSub, reduceIte, reduceCtorEq, Int.reduceLT, Int.reduceLE, Int.reduceToNat, Int.reduceAdd, Int.reduceSub, Int.reduceNeg, Int.reduceEq, Int.reduceNe, Int.reduceBEq, Int.reduceBNe, BitVec.reduceBEq, BitVec.reduceBNe, BitVec.reduceOfInt, BitVec.reduceSetWidth, -List.reduceReplicate, f2, f3, f4, hbs]
          exact UpK_normal h' (Le.sameM ⟨rfl, by rw [hnx]; rfl, rfl, trivial⟩ List.nodup_nil)
      | false =>
        rw [hT, f3] at hnx
        simp (maxSteps := 1000000) -implicitDefEqProofs only [go_sem, Nat.reduceBEq, Nat.reduceLT, Nat.reduceLeDiff, Nat.reduceEqDiff, Nat.reduceAdd, Nat.reduceMul, Nat.reduceSub, reduceIte, reduceCtorEq, Int.reduceLT, Int.reduceLE, Int.reduceToNat, Int.reduceAdd, Int.reduceSub, Int.reduceNeg, Int.reduceEq, Int.reduceNe, Int.reduceBEq, Int.reduceBNe, BitVec.reduceBEq, BitVec.reduceBNe, BitVec.reduceOfInt, BitVec.reduceSetWidth, -List.reduceReplicate, f2, f3, hbs]
        exact UpK_normal h' (Le.sameM ⟨rfl, by rw [hnx]; rfl, rfl, trivial⟩ List.nodup_nil)
  · have hk : k = 36 := by omega
    subst hk
    have f1 : decide (((bitC 36).toNat : Int) > 0) = false := by decide
    simp (maxSteps := 1000000) -implicitDefEqProofs only [go_sem, Nat.reduceBEq, Nat.reduceLT, Nat.reduceLeDiff, Nat.reduceEqDiff, Nat.reduceAdd, Nat.reduceMul, Nat.reduceSub, reduceIte, reduceCtorEq, Int.reduceLT, Int.reduceLE, Int.reduceToNat, Int.reduceAdd, Int.reduceSub, Int.reduceNeg, Int.reduceEq, Int.reduceNe, Int.reduceBEq, Int.reduceBNe, BitVec.reduceBEq, BitVec.reduceBNe, BitVec.reduceOfInt, BitVec.reduceSetWidth, -List.reduceReplicate, f1]
    exact Fin.flatv (fun _ => rfl) (fun f => rfl) ⟨rfl, rfl, rfl⟩
end Go.Proofs.Ytmdeoikpiiambaa
/-! Shi -/
namespace Go.Proofs.Ytmdeoikpiiambaa
open Go Go.Eng
def isJ (l : List (BitVec 64)) (n : BitVec 64) : Nat → Bool
  | 0 => true
  | j + 1 => if n % l.getD j 0 == 0#64 then false else isJ l n j
def prL : Nat → List (BitVec 64)
  | 0 => []
  | i + 1 => if isJ (prL i) (BitVec.ofNat 64 (i + 2)) (prL i).length then prL i ++ [BitVec.ofNat 64 (i + 2)] else prL i
def primesL : List (BitVec 64) := [2#64, 3#64, 5#64, 7#64, 11#64, 13#64, 17#64, 19#64, 23#64, 29#64, 31#64, 37#64, 41#64, 43#64, 47#64, 53#64, 59#64, 61#64, 67#64, 71#64, 73#64, 79#64, 83#64, 89#64, 97#64, 101#64, 103#64, 107#64, 109#64, 113#64, 127#64, 131#64, 137#64, 139#64, 149#64, 151#64, 157#64, 163#64, 167#64, 173#64, 179#64, 181#64, 191#64, 193#64, 197#64, 199#64, 211#64, 223#64, 227#64, 229#64, 233#64, 239#64, 241#64, 251#64, 257#64, 263#64, 269#64, 271#64, 277#64, 281#64, 283#64, 293#64, 307#64, 311#64]
theorem prL_len_mono (i : Nat) : (prL i).length ≤ (prL (i + 1)).length := by
  rw [prL]
  split
  · rw [List.length_append]; omega
  · exact Nat.le_refl _
theorem prL_mono (i j : Nat) (h : i ≤ j) : (prL i).length ≤ (prL j).length := by
  induction j with
  | zero => have : i = 0 := by omega
            rw [this]; exact Nat.le_refl _
  | succ j ih =>
    rcases Nat.lt_or_ge i (j + 1) with h' | h'
    · exact Nat.le_trans (ih (by omega)) (prL_len_mono j)
    · have : i = j + 1 := by omega
      rw [this]; exact Nat.le_refl _
theorem prL_309 : (prL 309).length = 63 := by kernel_rfl
theorem prL_310 : prL 310 = primesL := by kernel_rfl
theorem prL_nz (i : Nat) (hi : i ≤ 310) : ∀ x ∈ prL i, x.toNat ≠ 0 := by
  induction i with
  | zero => intro x hx; cases hx
  | succ i ih =>
    intro x hx
    rw [prL] at hx
    split at hx
    · rcases List.mem_append.1 hx with h | h
      · exact ih (by omega) x h
      · rw [List.mem_singleton.1 h, BitVec.toNat_ofNat]; omega
    · exact ih (by omega) x hx
theorem ApI_map {k : IntKind} {ty w : Nat} {X : List (BitVec w)} {x : AV × Mem × Nat} (h : ApI k ty X x) : mapOf [x.1] = none := by
  rcases h with ⟨_, rfl⟩ | ⟨cap, sp, rfl, _⟩
  · rfl
  · rfl
theorem ApI_len {P : Program} {k : IntKind} {ty w : Nat} {X : List (BitVec w)} {x : AV × Mem × Nat} (h : ApI k ty X x) (t : TypeId) (K : AV → Prop) : lenx P t x.1 K = ((elemT P t).isSome = true ∧ K (.int .i64 X.length)) := by
  rcases h with ⟨rfl, rfl⟩ | ⟨cap, sp, rfl, _⟩
  · rfl
  · rfl
theorem nat_step (i : Nat) : BitVec.ofNat 64 (i + 2) + 1#64 = BitVec.ofNat 64 (i + 1 + 2) := by
  apply BitVec.eq_of_toNat_eq
  rw [BitVec.toNat_add, BitVec.toNat_ofNat, BitVec.toNat_ofNat, BitVec.toNat_ofNat]
  omega
set_option maxHeartbeats 800000 in
theorem primesOk : CallOk Try.prog 180 [.int .i64 64] (fun _ => true) [] 0 (Rets idG .u64 primesL 116) := by
  refine fn_ok Try.func180 rfl (by show 1 ≤ _; decide) ?_
  simp (maxSteps := 1000000) -implicitDefEqProofs only [go_sem, Nat.reduceBEq, Nat.reduceLT, Nat.reduceLeDiff, Nat.reduceEqDiff, Nat.reduceAdd, Nat.reduceMul, Nat.reduceSub, reduceIte, reduceCtorEq, Int.reduceLT, Int.reduceLE, Int.reduceToNat, Int.reduceAdd, Int.reduceSub, Int.reduceNeg, Int.reduceEq, Int.reduceNe, Int.reduceBEq, Int.reduceBNe, BitVec.reduceBEq, BitVec.reduceBNe, BitVec.reduceOfInt, BitVec.reduceSetWidth, -List.reduceReplicate, Try.results180, Try.ntmps180]
  refine LoopOk.upX (fun i x => ApI .u64 116 (prL i) x) 310 (fun i x => ((3, x.1) :: [(4, .int .u64 ((BitVec.ofNat 64 (i + 2)).toNat : Int)), (0, .int .i64 64)], x.2.1, x.2.2)) (.nils, [], 0) (ApI.nil _ _) (Le.sameT (by decide) (by simp only [-List.reduceReplicate, slotsSame, Eng.look, Nat.reduceEqDiff, reduceIte, reduceCtorEq, if_true, if_false, eq_self, true_and, and_true, Option.some.injEq, AV.int.injEq]; (try simp (disch := omega) only [wrap_i64]); (try simp [-List.reduceReplicate]); (try omega)) (by simp only [-List.reduceReplicate, memSame, Eng.look, Nat.reduceEqDiff, reduceIte, reduceCtorEq, if_true, if_false, eq_self, true_and, and_true, Option.some.injEq, AObj.cells.injEq, bvs_rep8, bvs_rep16, bvs_rep32, bvs_rep64, bvs_flat_rep, Nat.reduceMul, bvs_append, List.replicate_append_replicate, Nat.reduceAdd, bvs_inj]; try simp [-List.reduceReplicate]) (by simp [-List.reduceReplicate])) ?_
  intro i x ⟨hi, hq⟩
  have hlen := fun (K : AV → Prop) => ApI_len (P := Try.prog) hq 240 K
  have hmp := ApI_map hq
  rcases Nat.lt_or_ge i 310 with h' | h'
  · have hl63 : (prL i).length ≤ 63 := by rw [← prL_309]; exact prL_mono i 309 (by omega)
    have f1 : decide (((prL i).length : Int) < 64) = true := by simp; omega
    have hst := nat_step i
    have hnz := prL_nz i hi
    have hnext : prL (i + 1) = if isJ (prL i) (BitVec.ofNat 64 (i + 2)) (prL i).length then prL i ++ [BitVec.ofNat 64 (i + 2)] else prL i := rfl
    simp (maxSteps := 1000000) -implicitDefEqProofs only [go_sem, Nat.reduceBEq, Nat.reduceLT, Nat.reduceLeDiff, Nat.reduceEqDiff, Nat.reduceAdd, Nat.reduceMul, Nat.reduceSub, reduceIte, reduceCtorEq, Int.reduceLT, Int.reduceLE, Int.reduceToNat, Int.reduceAdd, Int.reduceSub, Int.reduceNeg, Int.reduceEq, Int.reduceNe, Int.reduceBEq, Int.reduceBNe, BitVec.reduceBEq, BitVec.reduceBNe, BitVec.reduceOfInt, BitVec.reduceSetWidth, -List.reduceReplicate, hmp, hlen, f1]
    refine LoopOk.up (prL i).length (fun j => ([(6, .int .i64 j), (5, .bool (isJ (prL i) (BitVec.ofNat 64 (i + 2)) j)), (3, x.1), (4, .int .u64 ((BitVec.ofNat 64 (i + 2)).toNat : Int)), (0, .int .i64 64)], x.2.1, x.2.2)) (Le.sameM ⟨rfl, rfl, rfl, rfl, rfl, trivial⟩ (ApI_nodup hq)) ?_
    intro j hj
    have wj : IntKind.i64.wrap ((j : Int) + 1) = ((j + 1 : Nat) : Int) := by rw [wrap_i64] <;> omega
    rcases Nat.lt_or_ge j (prL i).length with g | g
    · have f2 : decide ((j : Int) < ((prL i).length : Int)) = true := by simp; omega
      have hnd := ApI_nodup hq
      have hjn : isJ (prL i) (BitVec.ofNat 64 (i + 2)) (j + 1) = if BitVec.ofNat 64 (i + 2) % (prL i).getD j 0 == 0#64 then false else isJ (prL i) (BitVec.ofNat 64 (i + 2)) j := rfl
      have hgz : ((prL i).getD j 0).toNat ≠ 0 := by
        refine hnz _ ?_
        rw [List.getD_eq_getElem?_getD, List.getElem?_eq_getElem g]
        exact List.getElem_mem g
      rcases hq with ⟨hnil, rfl⟩ | ⟨cap, sp, rfl, hc1, hc2⟩
      · rw [hnil] at g; cases g
      have hgd := bvsS_getD .u64 (prL i) (sp.map AV.val) j g
      have htm : ((BitVec.ofNat 64 (i + 2)).toNat : Int).tmod (((prL i).getD j 0).toNat : Int) = ((BitVec.ofNat 64 (i + 2) % (prL i).getD j 0).toNat : Int) := by
        rw [Int.tmod_eq_emod_of_nonneg (by omega), BitVec.toNat_umod, Int.natCast_emod]
      cases f3 : (BitVec.ofNat 64 (i + 2) % (prL i).getD j 0 == 0#64) with
      | true =>
        rw [f3, if_pos rfl] at hjn
        simp (maxSteps := 1000000) -implicitDefEqProofs only [go_sem, Nat.reduceBEq, Nat.reduceLT, Nat.reduceLeDiff, Nat.reduceEqDiff, Nat.reduceAdd, Nat.reduceMul, Nat.reduceSub, reduceIte, reduceCtorEq, Int.reduceLT, Int.reduceLE, Int.reduceToNat, Int.reduceAdd, Int.reduceSub, Int.reduceNeg, Int.reduceEq, Int.reduceNe, Int.reduceBEq, Int.reduceBNe, BitVec.reduceBEq, BitVec.reduceBNe, BitVec.reduceOfInt, BitVec.reduceSetWidth, -List.reduceReplicate, f2, hgd, htm, f3, wj]
        exact ⟨by omega, by omega, by omega, UpK_normal g (Le.sameM ⟨rfl, by rw [hjn]; rfl, rfl, rfl, rfl, trivial⟩ hnd)⟩
      | false =>
        rw [f3, if_neg (by decide)] at hjn
        simp (maxSteps := 1000000) -implicitDefEqProofs only [go_sem, Nat.reduceBEq, Nat.reduceLT, Nat.reduceLeDiff, Nat.reduceEqDiff, Nat.reduceAdd, Nat.reduceMul, Nat.reduceSub, reduceIte, reduceCtorEq, Int.reduceLT, Int.reduceLE, Int.reduceToNat, Int.reduceAdd, Int.reduceSub, Int.reduceNeg, Int.reduceEq, Int.reduceNe, Int.reduceBEq, Int.reduceBNe, BitVec.reduceBEq, BitVec.reduceBNe, BitVec.reduceOfInt, BitVec.reduceSetWidth, -List.reduceReplicate, f2, hgd, htm, f3, wj]
        exact ⟨by omega, by omega, by omega, UpK_normal g (Le.sameM ⟨rfl, by rw [hjn]; rfl, rfl, rfl, rfl, trivial⟩ hnd)⟩
    · have hjl : j = (prL i).length := by omega
      subst hjl
      have f2 : decide (((prL i).length : Int) < ((prL i).length : Int)) = false := by simp
      cases f3 : isJ (prL i) (BitVec.ofNat 64 (i + 2)) (prL i).length with
      | true =>
        rw [f3, if_pos rfl] at hnext
        simp (maxSteps := 1000000) -implicitDefEqProofs only [go_sem, Nat.reduceBEq, Nat.reduceLT, Nat.reduceLeDiff, Nat.reduceEqDiff, Nat.reduceAdd, Nat.reduceMul, Nat.reduceSub, reduceIte, reduceCtorEq, Int.reduceLT, Int.reduceLE, Int.reduceToNat, Int.reduceAdd, Int.reduceSub, Int.reduceNeg, Int.reduceEq, Int.reduceNe, Int.reduceBEq, Int.reduceBNe, BitVec.reduceBEq, BitVec.reduceBNe, BitVec.reduceOfInt, BitVec.reduceSetWidth, -List.reduceReplicate, hmp, hlen, f2, f3]
        refine ⟨.inr trivial, rfl, ?_⟩
        refine appk_ap (y := [BitVec.ofNat 64 (i + 2)]) hq (fun o h => ApI_hd hq h) (fun _ => rfl) (by simp) (by decide) (by simp only [List.length_cons, List.length_nil]; omega) fun cap sp m3 c1 c2 => ?_
        simp (maxSteps := 1000000) -implicitDefEqProofs only [go_sem, Nat.reduceBEq, Nat.reduceLT, Nat.reduceLeDiff, Nat.reduceEqDiff, Nat.reduceAdd, Nat.reduceMul, Nat.reduceSub, reduceIte, reduceCtorEq, Int.reduceLT, Int.reduceLE, Int.reduceToNat, Int.reduceAdd, Int.reduceSub, Int.reduceNeg, Int.reduceEq, Int.reduceNe, Int.reduceBEq, Int.reduceBNe, BitVec.reduceBEq, BitVec.reduceBNe, BitVec.reduceOfInt, BitVec.reduceSetWidth, -List.reduceReplicate, hst]
        refine UpX_normal h' (_, _, _) (ApI.some (X := prL (i + 1)) (by rw [hnext]; exact c1) c2) ?_
        exact Le.ap (n := x.2.2 + 1) (by rw [hnext, List.length_append]; rfl) (by rw [hnext]; exact look_hd _ _ _) rfl ⟨rfl, rfl, trivial⟩ (by simp only [List.all_cons, List.all_nil, flatro, Bool.and_self])
      | false =>
        rw [f3, if_neg (by decide)] at hnext
        simp (maxSteps := 1000000) -implicitDefEqProofs only [go_sem, Nat.reduceBEq, Nat.reduceLT, Nat.reduceLeDiff, Nat.reduceEqDiff, Nat.reduceAdd, Nat.reduceMul, Nat.reduceSub, reduceIte, reduceCtorEq, Int.reduceLT, Int.reduceLE, Int.reduceToNat, Int.reduceAdd, Int.reduceSub, Int.reduceNeg, Int.reduceEq, Int.reduceNe, Int.reduceBEq, Int.reduceBNe, BitVec.reduceBEq, BitVec.reduceBNe, BitVec.reduceOfInt, BitVec.reduceSetWidth, -List.reduceReplicate, hmp, hlen, f2, f3, hst]
        refine UpX_normal h' x (by rw [hnext]; exact hq) (Le.sameM ⟨rfl, rfl, rfl, trivial⟩ (ApI_nodup hq))
  · have hii : i = 310 := by omega
    subst hii
    have hl : (prL 310).length = 64 := by rw [prL_310]; rfl
    have f1 : decide ((64 : Int) < 64) = false := rfl
    rw [hl] at hlen
    rw [prL_310] at hq
    simp (maxSteps := 1000000) -implicitDefEqProofs only [go_sem, Nat.reduceBEq, Nat.reduceLT, Nat.reduceLeDiff, Nat.reduceEqDiff, Nat.reduceAdd, Nat.reduceMul, Nat.reduceSub, reduceIte, reduceCtorEq, Int.reduceLT, Int.reduceLE, Int.reduceToNat, Int.reduceAdd, Int.reduceSub, Int.reduceNeg, Int.reduceEq, Int.reduceNe, Int.reduceBEq, Int.reduceBNe, BitVec.reduceBEq, BitVec.reduceBNe, BitVec.reduceOfInt, BitVec.reduceSetWidth, -List.reduceReplicate, hmp, hlen, f1]
    exact Fin.ap hq idG (fun _ _ => rfl) (fun _ => rfl)
end Go.Proofs.Ytmdeoikpiiambaa
/-! Shj -/
namespace Go.Proofs.Ytmdeoikpiiambaa
open Go Go.Eng
theorem beginL_roots : (primesL.take 8).map squareW = beginL := by kernel_rfl
theorem rootsL_roots : primesL.map cubeW = rootsL := by kernel_rfl
def hX (i : Nat) : List (BitVec 32) := (primesL.take (min i 8)).map squareW
def qX (i : Nat) : List (BitVec 32) := (primesL.take i).map cubeW
theorem primesL_len : primesL.length = 64 := rfl
theorem take_succ' (i : Nat) (h : i < 64) : primesL.take (i + 1) = primesL.take i ++ [primesL.getD i 0] := by
  rw [List.take_add_one, List.getD_eq_getElem?_getD, List.getElem?_eq_getElem (by rw [primesL_len]; exact h)]
  rfl
theorem hX_succ (i : Nat) (h : i < 8) : hX (i + 1) = hX i ++ [squareW (primesL.getD i 0)] := by
  rw [hX, hX, Nat.min_eq_left (by omega), Nat.min_eq_left (by omega), take_succ' i (by omega), List.map_append]; rfl
theorem hX_stay (i : Nat) (h : 8 ≤ i) : hX (i + 1) = hX i := by
  rw [hX, hX, Nat.min_eq_right (by omega), Nat.min_eq_right (by omega)]
theorem qX_succ (i : Nat) (h : i < 64) : qX (i + 1) = qX i ++ [cubeW (primesL.getD i 0)] := by
  rw [qX, qX, take_succ' i h, List.map_append]; rfl
theorem hX_len (i : Nat) : (hX i).length = min i 8 := by rw [hX, List.length_map, List.length_take, primesL_len]; omega
theorem qX_len (i : Nat) : (qX i).length = min i 64 := by rw [qX, List.length_map, List.length_take, primesL_len]
theorem Le.two {n1 n2 : Nat} {t t' : Slots} {m : Mem} {nx : Nat} {o1 o2 : AObj} (hne : n1 ≠ n2) (hs : slotsLe (rf [(0, n1), (1, n2)] nx 2) t t') (h1 : Eng.look m n1 = some (renO (rf [(0, n1), (1, n2)] nx 2) o1)) (h2 : Eng.look m n2 = some (renO (rf [(0, n1), (1, n2)] nx 2) o2)) :
    ∃ l, Le 0 l (fun _ => true) t m nx t' [(0, o1), (1, o2)] 2 :=
  ⟨[(0, n1), (1, n2)], rfl, Nat.zero_le _, hs, ⟨h1, rfl, h2, rfl, trivial⟩, by
    have : n2 ≠ n1 := fun e => hne e.symm
    simp [injOn, rf, Eng.look, hne, this], (fun n e => by cases e), fun _ _ => rfl⟩
/-- two rows of words, both appended to, or none yet -/
def Two (X Y : List (BitVec 32)) (x : AV × AV × Mem × Nat) : Prop :=
  (X = [] ∧ Y = [] ∧ x = (.nils, .nils, [], 0)) ∨ ∃ (c1 : Nat) (s1 : List Value) (c2 : Nat) (s2 : List Value), x = (.sl 0 0 X.length c1, .sl 1 0 Y.length c2, [(0, .cells (bvs .u32 X ++ s1.map AV.val) 108), (1, .cells (bvs .u32 Y ++ s2.map AV.val) 108)], 2) ∧ X.length + s1.length = c1 ∧ c1 ≤ maxI ∧ Y.length + s2.length = c2 ∧ c2 ≤ maxI
def RootsK : Kv := fun v m nx => ∃ (c1 : Nat) (s1 : List Value) (c2 : Nat) (s2 : List Value), v = .tup [.sl 0 0 8 c1, .sl 1 0 64 c2] ∧ m = [(0, .cells (bvs .u32 beginL ++ s1.map AV.val) 108), (1, .cells (bvs .u32 rootsL ++ s2.map AV.val) 108)] ∧ nx = 2
set_option maxHeartbeats 800000 in
theorem rootsROk : CallOk Try.prog 137 [] (fun _ => true) [] 0 RootsK := by
  refine fn_ok Try.func137 rfl (by show 0 ≤ _; decide) ?_
  simp (maxSteps := 1000000) -implicitDefEqProofs only [go_sem, Nat.reduceBEq, Nat.reduceLT, Nat.reduceLeDiff, Nat.reduceEqDiff, Nat.reduceAdd, Nat.reduceMul, Nat.reduceSub, reduceIte, reduceCtorEq, Int.reduceLT, Int.reduceLE, Int.reduceToNat, Int.reduceAdd, Int.reduceSub, Int.reduceNeg, Int.reduceEq, Int.reduceNe, Int.reduceBEq, Int.reduceBNe, BitVec.reduceBEq, BitVec.reduceBNe, BitVec.reduceOfInt, BitVec.reduceSetWidth, -List.reduceReplicate, Try.results137, Try.ntmps137]
  refine primesOk.bytes (by simp only [argsx, argx_int, argx_bool, argx_fn, argx_ro, argx_nils, eq_self, true_and, and_true, and_self]; try trivial) (fun _ _ => rfl) (fun _ _ => rfl) (fun _ => rfl) ?_
  rw [primesL_len]
  simp (maxSteps := 1000000) -implicitDefEqProofs only [go_sem, Nat.reduceBEq, Nat.reduceLT, Nat.reduceLeDiff, Nat.reduceEqDiff, Nat.reduceAdd, Nat.reduceMul, Nat.reduceSub, reduceIte, reduceCtorEq, Int.reduceLT, Int.reduceLE, Int.reduceToNat, Int.reduceAdd, Int.reduceSub, Int.reduceNeg, Int.reduceEq, Int.reduceNe, Int.reduceBEq, Int.reduceBNe, BitVec.reduceBEq, BitVec.reduceBNe, BitVec.reduceOfInt, BitVec.reduceSetWidth, -List.reduceReplicate]
  refine LoopOk.upX (fun i x => Two (hX i) (qX i) x) 64 (fun i x => ([(3, x.1), (4, x.2.1), (5, .int .i64 i), (2, .ro 64 (bvs .u64 primesL))], x.2.2.1, x.2.2.2)) (.nils, .nils, [], 0) (.inl ⟨rfl, rfl, rfl⟩) ?_ ?_
  · exact ⟨[], rfl, Nat.zero_le _, ⟨rfl, rfl, rfl, by simp only [renA, bvs_ren]; rfl, trivial⟩, trivial, List.nodup_nil, (fun n e => by cases e), fun _ _ => rfl⟩
  intro i x ⟨hi, hq⟩
  have wi : IntKind.i64.wrap ((i : Int) + 1) = ((i + 1 : Nat) : Int) := by rw [wrap_i64] <;> omega
  have hgd : ∀ h : i < 64, (bvs .u64 primesL).getD i (.int .u64 0) = .int .u64 ((primesL.getD i 0).toNat : Int) := fun h => bvs_getD ..
  rcases Nat.lt_or_ge i 64 with h' | h'
  · have f1 : decide ((i : Int) < 64) = true := by simp; omega
    have hq2 := qX_succ i h'
    have hgd := hgd h'
    rcases Nat.lt_or_ge i 8 with h8 | h8
    · have f2 : decide ((i : Int) < 8) = true := by simp; omega
      have hh2 := hX_succ i h8
      rcases hq with ⟨hn1, hn2, rfl⟩ | ⟨c1, s1, c2, s2, rfl, g1, g2, g3, g4⟩
      · rw [hn1, List.nil_append] at hh2
        rw [hn2, List.nil_append] at hq2
        simp (maxSteps := 1000000) -implicitDefEqProofs only [go_sem, Nat.reduceBEq, Nat.reduceLT, Nat.reduceLeDiff, Nat.reduceEqDiff, Nat.reduceAdd, Nat.reduceMul, Nat.reduceSub, reduceIte, reduceCtorEq, Int.reduceLT, Int.reduceLE, Int.reduceToNat, Int.reduceAdd, Int.reduceSub, Int.reduceNeg, Int.reduceEq, Int.reduceNe, Int.reduceBEq, Int.reduceBNe, BitVec.reduceBEq, BitVec.reduceBNe, BitVec.reduceOfInt, BitVec.reduceSetWidth, -List.reduceReplicate, f1, f2, hgd]
        refine ⟨by omega, by rw [primesL_len]; omega, by rw [List.length_drop, primesL_len]; omega, ?_⟩
        refine (squareOk (primesL.getD i 0)).flatv (by simp only [argsx, argx_int, argx_bool, argx_fn, argx_ro, argx_nils, eq_self, true_and, and_true, and_self]; try trivial) (fun _ => rfl) rfl ?_
        simp (maxSteps := 1000000) -implicitDefEqProofs only [go_sem, Nat.reduceBEq, Nat.reduceLT, Nat.reduceLeDiff, Nat.reduceEqDiff, Nat.reduceAdd, Nat.reduceMul, Nat.reduceSub, reduceIte, reduceCtorEq, Int.reduceLT, Int.reduceLE, Int.reduceToNat, Int.reduceAdd, Int.reduceSub, Int.reduceNeg, Int.reduceEq, Int.reduceNe, Int.reduceBEq, Int.reduceBNe, BitVec.reduceBEq, BitVec.reduceBNe, BitVec.reduceOfInt, BitVec.reduceSetWidth, -List.reduceReplicate]
        refine ⟨.inr trivial, rfl, by show 1 * 4 ≤ _; decide, by show 1 ≤ _; decide, (fun e => by cases e), fun _ c1 s1 a1 g2 b1 => ?_⟩
        have g1 : 1 + s1.length = c1 := by
          change 1 ≤ c1 at a1
          change s1.length = (c1 - 1) * 1 at b1
          omega
        simp (maxSteps := 1000000) -implicitDefEqProofs only [go_sem, Nat.reduceBEq, Nat.reduceLT, Nat.reduceLeDiff, Nat.reduceEqDiff, Nat.reduceAdd, Nat.reduceMul, Nat.reduceSub, reduceIte, reduceCtorEq, Int.reduceLT, Int.reduceLE, Int.reduceToNat, Int.reduceAdd, Int.reduceSub, Int.reduceNeg, Int.reduceEq, Int.reduceNe, Int.reduceBEq, Int.reduceBNe, BitVec.reduceBEq, BitVec.reduceBNe, BitVec.reduceOfInt, BitVec.reduceSetWidth, -List.reduceReplicate, hgd]
        refine ⟨by omega, by rw [primesL_len]; omega, by rw [List.length_drop, primesL_len]; omega, ?_⟩
        refine (cubeOk (primesL.getD i 0)).flatv (by simp only [argsx, argx_int, argx_bool, argx_fn, argx_ro, argx_nils, eq_self, true_and, and_true, and_self]; try trivial) (fun _ => rfl) rfl ?_
        simp (maxSteps := 1000000) -implicitDefEqProofs only [go_sem, Nat.reduceBEq, Nat.reduceLT, Nat.reduceLeDiff, Nat.reduceEqDiff, Nat.reduceAdd, Nat.reduceMul, Nat.reduceSub, reduceIte, reduceCtorEq, Int.reduceLT, Int.reduceLE, Int.reduceToNat, Int.reduceAdd, Int.reduceSub, Int.reduceNeg, Int.reduceEq, Int.reduceNe, Int.reduceBEq, Int.reduceBNe, BitVec.reduceBEq, BitVec.reduceBNe, BitVec.reduceOfInt, BitVec.reduceSetWidth, -List.reduceReplicate]
        refine ⟨.inr trivial, rfl, by show 1 * 4 ≤ _; decide, by show 1 ≤ _; decide, (fun e => by cases e), fun _ c2 s2 a2 g4 b2 => ?_⟩
        have g3 : 1 + s2.length = c2 := by
          change 1 ≤ c2 at a2
          change s2.length = (c2 - 1) * 1 at b2
          omega
        simp (maxSteps := 1000000) -implicitDefEqProofs only [go_sem, Nat.reduceBEq, Nat.reduceLT, Nat.reduceLeDiff, Nat.reduceEqDiff, Nat.reduceAdd, Nat.reduceMul, Nat.reduceSub, reduceIte, reduceCtorEq, Int.reduceLT, Int.reduceLE, Int.reduceToNat, Int.reduceAdd, Int.reduceSub, Int.reduceNeg, Int.reduceEq, Int.reduceNe, Int.reduceBEq, Int.reduceBNe, BitVec.reduceBEq, BitVec.reduceBNe, BitVec.reduceOfInt, BitVec.reduceSetWidth, -List.reduceReplicate, wi]
        refine UpX_normal h' (_, _, _, _) (.inr ⟨c1, s1, c2, s2, rfl, by rw [hh2]; exact g1, g2, by rw [hq2]; exact g3, g4⟩) ?_
        exact Le.two (n1 := 1) (n2 := 3) (by decide) ⟨by rw [hh2]; rfl, by rw [hq2]; rfl, rfl, by simp only [renA, bvs_ren]; rfl, trivial⟩ (by rw [hh2]; simp only [renO, renL_vals']; rfl) (by rw [hq2]; simp only [renO, renL_vals']; rfl)
      · simp (maxSteps := 1000000) -implicitDefEqProofs only [go_sem, Nat.reduceBEq, Nat.reduceLT, Nat.reduceLeDiff, Nat.reduceEqDiff, Nat.reduceAdd, Nat.reduceMul, Nat.reduceSub, reduceIte, reduceCtorEq, Int.reduceLT, Int.reduceLE, Int.reduceToNat, Int.reduceAdd, Int.reduceSub, Int.reduceNeg, Int.reduceEq, Int.reduceNe, Int.reduceBEq, Int.reduceBNe, BitVec.reduceBEq, BitVec.reduceBNe, BitVec.reduceOfInt, BitVec.reduceSetWidth, -List.reduceReplicate, f1, f2, hgd]
        refine ⟨by omega, by rw [primesL_len]; omega, by rw [List.length_drop, primesL_len]; omega, ?_⟩
        refine (squareOk (primesL.getD i 0)).flatv (by simp only [argsx, argx_int, argx_bool, argx_fn, argx_ro, argx_nils, eq_self, true_and, and_true, and_self]; try trivial) (fun _ => rfl) rfl ?_
        simp (maxSteps := 1000000) -implicitDefEqProofs only [go_sem, Nat.reduceBEq, Nat.reduceLT, Nat.reduceLeDiff, Nat.reduceEqDiff, Nat.reduceAdd, Nat.reduceMul, Nat.reduceSub, reduceIte, reduceCtorEq, Int.reduceLT, Int.reduceLE, Int.reduceToNat, Int.reduceAdd, Int.reduceSub, Int.reduceNeg, Int.reduceEq, Int.reduceNe, Int.reduceBEq, Int.reduceBNe, BitVec.reduceBEq, BitVec.reduceBNe, BitVec.reduceOfInt, BitVec.reduceSetWidth, -List.reduceReplicate]
        refine ⟨.inr trivial, rfl, ?_⟩
        refine appk_bvs (x := hX i) (y := [squareW (primesL.getD i 0)]) (n := 0) (sp := s1) rfl rfl g1 g2 (bt := 4) (by decide) (by simp only [List.length_cons, List.length_nil, hX_len]; omega) fun c1 s1 g1 g2 => ?_
        rw [← hh2]
        rw [← hh2] at g1
        simp (maxSteps := 1000000) -implicitDefEqProofs only [go_sem, Nat.reduceBEq, Nat.reduceLT, Nat.reduceLeDiff, Nat.reduceEqDiff, Nat.reduceAdd, Nat.reduceMul, Nat.reduceSub, reduceIte, reduceCtorEq, Int.reduceLT, Int.reduceLE, Int.reduceToNat, Int.reduceAdd, Int.reduceSub, Int.reduceNeg, Int.reduceEq, Int.reduceNe, Int.reduceBEq, Int.reduceBNe, BitVec.reduceBEq, BitVec.reduceBNe, BitVec.reduceOfInt, BitVec.reduceSetWidth, -List.reduceReplicate, hgd]
        refine ⟨by omega, by rw [primesL_len]; omega, by rw [List.length_drop, primesL_len]; omega, ?_⟩
        refine (cubeOk (primesL.getD i 0)).flatv (by simp only [argsx, argx_int, argx_bool, argx_fn, argx_ro, argx_nils, eq_self, true_and, and_true, and_self]; try trivial) (fun _ => rfl) rfl ?_
        simp (maxSteps := 1000000) -implicitDefEqProofs only [go_sem, Nat.reduceBEq, Nat.reduceLT, Nat.reduceLeDiff, Nat.reduceEqDiff, Nat.reduceAdd, Nat.reduceMul, Nat.reduceSub, reduceIte, reduceCtorEq, Int.reduceLT, Int.reduceLE, Int.reduceToNat, Int.reduceAdd, Int.reduceSub, Int.reduceNeg, Int.reduceEq, Int.reduceNe, Int.reduceBEq, Int.reduceBNe, BitVec.reduceBEq, BitVec.reduceBNe, BitVec.reduceOfInt, BitVec.reduceSetWidth, -List.reduceReplicate]
        refine ⟨.inr trivial, rfl, ?_⟩
        refine appk_bvs (x := qX i) (y := [cubeW (primesL.getD i 0)]) (n := 1) (sp := s2) rfl rfl g3 g4 (bt := 4) (by decide) (by simp only [List.length_cons, List.length_nil, qX_len]; omega) fun c2 s2 g3 g4 => ?_
        rw [← hq2]
        rw [← hq2] at g3
        simp (maxSteps := 1000000) -implicitDefEqProofs only [go_sem, Nat.reduceBEq, Nat.reduceLT, Nat.reduceLeDiff, Nat.reduceEqDiff, Nat.reduceAdd, Nat.reduceMul, Nat.reduceSub, reduceIte, reduceCtorEq, Int.reduceLT, Int.reduceLE, Int.reduceToNat, Int.reduceAdd, Int.reduceSub, Int.reduceNeg, Int.reduceEq, Int.reduceNe, Int.reduceBEq, Int.reduceBNe, BitVec.reduceBEq, BitVec.reduceBNe, BitVec.reduceOfInt, BitVec.reduceSetWidth, -List.reduceReplicate, wi]
        refine UpX_normal h' (_, _, _, _) (.inr ⟨c1, s1, c2, s2, rfl, g1, g2, g3, g4⟩) ?_
        exact Le.two (n1 := 3) (n2 := 5) (by decide) ⟨rfl, rfl, rfl, by simp only [renA, bvs_ren]; rfl, trivial⟩ (by simp only [renO, renL_vals']; rfl) (by simp only [renO, renL_vals']; rfl)
    · have f2 : decide ((i : Int) < 8) = false := by simp; omega
      have hh2 := hX_stay i h8
      rcases hq with ⟨hn1, hn2, rfl⟩ | ⟨c1, s1, c2, s2, rfl, g1, g2, g3, g4⟩
      · have := hX_len i; rw [hn1, List.length_nil] at this; omega
      · simp (maxSteps := 1000000) -implicitDefEqProofs only [go_sem, Nat.reduceBEq, Nat.reduceLT, Nat.reduceLeDiff, Nat.reduceEqDiff, Nat.reduceAdd, Nat.reduceMul, Nat.reduceSub, reduceIte, reduceCtorEq, Int.reduceLT, Int.reduceLE, Int.reduceToNat, Int.reduceAdd, Int.reduceSub, Int.reduceNeg, Int.reduceEq, Int.reduceNe, Int.reduceBEq, Int.reduceBNe, BitVec.reduceBEq, BitVec.reduceBNe, BitVec.reduceOfInt, BitVec.reduceSetWidth, -List.reduceReplicate, f1, f2, hgd]
        refine ⟨by omega, by rw [primesL_len]; omega, by rw [List.length_drop, primesL_len]; omega, ?_⟩
        refine (cubeOk (primesL.getD i 0)).flatv (by simp only [argsx, argx_int, argx_bool, argx_fn, argx_ro, argx_nils, eq_self, true_and, and_true, and_self]; try trivial) (fun _ => rfl) rfl ?_
        simp (maxSteps := 1000000) -implicitDefEqProofs only [go_sem, Nat.reduceBEq, Nat.reduceLT, Nat.reduceLeDiff, Nat.reduceEqDiff, Nat.reduceAdd, Nat.reduceMul, Nat.reduceSub, reduceIte, reduceCtorEq, Int.reduceLT, Int.reduceLE, Int.reduceToNat, Int.reduceAdd, Int.reduceSub, Int.reduceNeg, Int.reduceEq, Int.reduceNe, Int.reduceBEq, Int.reduceBNe, BitVec.reduceBEq, BitVec.reduceBNe, BitVec.reduceOfInt, BitVec.reduceSetWidth, -List.reduceReplicate]
        refine ⟨.inr trivial, rfl, ?_⟩
        refine appk_bvs (x := qX i) (y := [cubeW (primesL.getD i 0)]) (n := 1) (sp := s2) rfl rfl g3 g4 (bt := 4) (by decide) (by simp only [List.length_cons, List.length_nil, qX_len]; omega) fun c2 s2 g3 g4 => ?_
        rw [← hq2]
        rw [← hq2] at g3
        simp (maxSteps := 1000000) -implicitDefEqProofs only [go_sem, Nat.reduceBEq, Nat.reduceLT, Nat.reduceLeDiff, Nat.reduceEqDiff, Nat.reduceAdd, Nat.reduceMul, Nat.reduceSub, reduceIte, reduceCtorEq, Int.reduceLT, Int.reduceLE, Int.reduceToNat, Int.reduceAdd, Int.reduceSub, Int.reduceNeg, Int.reduceEq, Int.reduceNe, Int.reduceBEq, Int.reduceBNe, BitVec.reduceBEq, BitVec.reduceBNe, BitVec.reduceOfInt, BitVec.reduceSetWidth, -List.reduceReplicate, wi]
        refine UpX_normal h' (_, _, _, _) (.inr ⟨c1, s1, c2, s2, rfl, by rw [hh2]; exact g1, g2, g3, g4⟩) ?_
        exact Le.two (n1 := 0) (n2 := 3) (by decide) ⟨by rw [hh2]; rfl, rfl, rfl, by simp only [renA, bvs_ren]; rfl, trivial⟩ (by rw [hh2]; simp only [renO, renL_vals']; rfl) (by simp only [renO, renL_vals']; rfl)
  · have hii : i = 64 := by omega
    subst hii
    have f1 : decide ((64 : Int) < 64) = false := rfl
    have e1 : hX 64 = beginL := beginL_roots
    have e2 : qX 64 = rootsL := rootsL_roots
    rw [e1, e2] at hq
    rcases hq with ⟨hn1, hn2, rfl⟩ | ⟨c1, s1, c2, s2, rfl, g1, g2, g3, g4⟩
    · exact absurd hn1 (by decide)
    simp (maxSteps := 1000000) -implicitDefEqProofs only [go_sem, Nat.reduceBEq, Nat.reduceLT, Nat.reduceLeDiff, Nat.reduceEqDiff, Nat.reduceAdd, Nat.reduceMul, Nat.reduceSub, reduceIte, reduceCtorEq, Int.reduceLT, Int.reduceLE, Int.reduceToNat, Int.reduceAdd, Int.reduceSub, Int.reduceNeg, Int.reduceEq, Int.reduceNe, Int.reduceBEq, Int.reduceBNe, BitVec.reduceBEq, BitVec.reduceBNe, BitVec.reduceOfInt, BitVec.reduceSetWidth, -List.reduceReplicate, f1]
    exact ⟨[(0, 0), (1, 1)], .tup [.sl 0 0 8 c1, .sl 1 0 64 c2], [(0, .cells (bvs .u32 beginL ++ s1.map AV.val) 108), (1, .cells (bvs .u32 rootsL ++ s2.map AV.val) 108)], 2, ⟨rfl, by decide⟩, rfl, ⟨by simp only [renO, renL_vals']; rfl, rfl, by simp only [renO, renL_vals']; rfl, rfl, trivial⟩, by simp [injOn, rf, Eng.look], (fun n e => by cases e), c1, s1, c2, s2, rfl, rfl, rfl⟩
end Go.Proofs.Ytmdeoikpiiambaa
end
