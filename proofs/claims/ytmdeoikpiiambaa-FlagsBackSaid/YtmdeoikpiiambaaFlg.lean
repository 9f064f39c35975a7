/- A stream's ends: the law on what is read back. BRIEF -/
import Derived.Test.YtmdeoikpiiambaaEng35
import Derived.Test.YtmdeoikpiiambaaFlf
set_option linter.unusedVariables false
set_option linter.unusedSimpArgs false
set_option maxRecDepth 100000
namespace Go.Proofs.Ytmdeoikpiiambaa
open Go Go.Eng

theorem byRow {ty : TypeId} {m : Mem} {v : AV} {X : List (BitVec 8)} {ns : List Nat} (h : ByAt ty m v X ns) (h0 : X ≠ []) (hv : v ≠ .ro X.length (bvs .u8 X)) : ∃ (n cap : Nat) (pre sp : List AV), v = .sl n pre.length X.length cap ∧ ns = [n] ∧ Eng.look m n = some (.cells (pre ++ (bvs .u8 X ++ sp)) ty) ∧ X.length ≤ cap ∧ cap ≤ X.length + sp.length ∧ cap ≤ maxI ∧ pre.all pln = true ∧ sp.all pln = true := by
  rcases h with ⟨_, h1, _⟩ | ⟨h1, _⟩ | ⟨n, off, cap, pre, sp, rfl, rfl, h3, rfl, h5, h6, h7, h8, h9⟩
  · exact absurd h1 h0
  · exact absurd h1 hv
  · exact ⟨n, cap, pre, sp, rfl, rfl, h3, h5, h6, h7, h8, h9⟩
theorem row_get (pre : List AV) (X : List (BitVec 8)) (sp : List AV) (i : Nat) (h : i < X.length) : (pre ++ (bvs .u8 X ++ sp)).getD (pre.length + i) (.int .u8 0) = .int .u8 ((X.getD i 0).toNat : Int) := by
  rw [List.getD_eq_getElem?_getD, List.getElem?_append_right (Nat.le_add_right _ _), Nat.add_sub_cancel_left, List.getElem?_append_left (by rw [bvs_length]; exact h), ← List.getD_eq_getElem?_getD, bvs_getD]
theorem row_set (pre : List AV) (X : List (BitVec 8)) (sp : List AV) (i : Nat) (h : i < X.length) (y : BitVec 8) : (pre ++ (bvs .u8 X ++ sp)).set (pre.length + i) (.int .u8 (y.toNat : Int)) = pre ++ (bvs .u8 (X.set i y) ++ sp) := by
  rw [List.set_append_right _ _ (Nat.le_add_right _ _), Nat.add_sub_cancel_left, List.set_append_left _ _ (by rw [bvs_length]; exact h), bvs_set]
theorem rowUpd {ty : TypeId} {m : Mem} {n cap len : Nat} {pre sp : List AV} {X : List (BitVec 8)} (i : Nat) (e : BitVec 8) (hl : X.length = len) (hn : Eng.look m n = some (.cells (pre ++ (bvs .u8 X ++ sp)) ty)) (k5 : X.length ≤ cap) (k6 : cap ≤ X.length + sp.length) (k7 : cap ≤ maxI) (k8 : pre.all pln = true) (k9 : sp.all pln = true) :
    ByAt ty (Eng.upd m n (.cells (pre ++ (bvs .u8 (setX X i e) ++ sp)) ty)) (.sl n pre.length len cap) (setX X i e) [n] := by
  subst hl
  exact .inr (.inr ⟨n, pre.length, cap, pre, sp, by rw [setX_len], rfl, look_upd_same _ hn, rfl, by rw [setX_len]; exact k5, by rw [setX_len]; exact k6, k7, k8, k9⟩)
theorem shl_one : ∀ k : Nat, k < 8 → BitVec.ofInt 8 (shlI .u8 1 (k : Int)) = 1#8 <<< k := by decide
set_option maxHeartbeats 4000000 in
theorem flagsBackOk (c : Int) (hcl : -9223372036854775808 ≤ c) (hcr : c < 9223372036854775808) (size : Int) (hsl : -9223372036854775808 ≤ size) (hsr : size < 9223372036854775808) (bit : BitVec 8) :
    CallOk Try.prog 5 [.int .i64 c, .int .i64 size, .int .u8 (bit.toNat : Int)] (fun _ => true) [] 0 fun v _ _ => v = .bool true := by
  refine fn_ok Try.func5 rfl (by show 3 ≤ _; decide) ?_
  have fin : ∀ {m : Mem} {nx : Nat}, Eng.Fin 0 (fun _ => true) m nx (fun v _ _ => v = .bool true) (.bool true) := Fin.flatv (fun _ => rfl) (fun _ => rfl) rfl
  cases hc : isC c
  · simp (maxSteps := 1000000) -implicitDefEqProofs only [go_sem, seval, -List.reduceReplicate, Try.results5, Try.ntmps5]
    refine (headNo c hc).flat0 ⟨rfl, trivial⟩ (fun _ => rfl) rfl ?_
    simp (maxSteps := 1000000) -implicitDefEqProofs only [go_sem, seval, -List.reduceReplicate]
    refine (footNo c size (by rw [hc]; rfl)).flat0 ⟨rfl, rfl, trivial⟩ (fun _ => rfl) rfl ?_
    simp (maxSteps := 1000000) -implicitDefEqProofs only [go_sem, seval, -List.reduceReplicate]
    refine kn16 ?_
    simp (maxSteps := 1000000) -implicitDefEqProofs only [go_sem, seval, -List.reduceReplicate]
    exact fin
  have hb := bit.isLt
  obtain ⟨at_, hat⟩ : ∃ at_ : Nat, at_ = bit.toNat % 96 := ⟨_, rfl⟩
  have i12 : at_ / 8 < 12 := by omega
  have s8 : at_ % 8 < 8 := by omega
  have w1 : IntKind.i64.wrap (bit.toNat : Int) = (bit.toNat : Int) := by rw [wrap_i64] <;> omega
  have r1 : Int.tmod (bit.toNat : Int) 96 = (at_ : Int) := by rw [hat]; exact (Int.ofNat_tmod _ _).symm
  have r2 : Int.tdiv (at_ : Int) 8 = ((at_ / 8 : Nat) : Int) := (Int.ofNat_tdiv _ _).symm
  have r3 : Int.tmod (at_ : Int) 8 = ((at_ % 8 : Nat) : Int) := (Int.ofNat_tmod _ _).symm
  have w2 : IntKind.i64.wrap ((at_ / 8 : Nat) : Int) = ((at_ / 8 : Nat) : Int) := by rw [wrap_i64] <;> omega
  obtain ⟨H1, H2, H3, H4, H5⟩ := head_parts c
  have hread := head_read hc
  have hbit := head_bit c (at_ / 8) (at_ % 8) i12 s8
  have hb1 : ((rHead (setX (headX c) (at_ / 8) (1#8 <<< (at_ % 8)))).2 == 0) = false := by simpa using hbit
  have hsh := shl_one (at_ % 8) s8
  have cne : (c != c) = false := bne_self_eq_false c
  simp (maxSteps := 1000000) -implicitDefEqProofs only [go_sem, seval, -List.reduceReplicate, Try.results5, Try.ntmps5]
  refine byT (headOk c hc) nd0 lt0 ⟨rfl, trivial⟩ ?_
  intro s1 m1 nx1 ns1 a1 a2 a3 ga
  have a1' := a1
  simp (maxSteps := 1000000) -implicitDefEqProofs only [go_sem, seval, -List.reduceReplicate]
  cases hz : szOk size
  · refine (footNo c size (by rw [hz, Bool.and_false])).flat0 ⟨rfl, rfl, trivial⟩ (fun _ => rfl) rfl ?_
    simp (maxSteps := 1000000) -implicitDefEqProofs only [go_sem, seval, -List.reduceReplicate]
    refine (readHeadOk (headX c) (by omega)).flat0 ⟨a1.arg, trivial⟩ (fun _ => rfl) rfl ?_
    obtain ⟨q1, q2, q3, q4, q5⟩ := a1.facts
    have q6 := a1.len Try.prog 22
    rw [hread]
    simp (maxSteps := 1000000) -implicitDefEqProofs only [go_sem, seval, -List.reduceReplicate, cne, q1, q2, q3, q4, q6, H1, w1, r1]
    obtain ⟨n1, cap1, pre1, sp1, rfl, rfl, hn1, k51, k61, k71, k81, k91⟩ := byRow a1 (fun e => by rw [e] at H1; cases H1) a2
    have hg1 := row_get pre1 (headX c) sp1 (at_ / 8) (by omega)
    have hs1 := row_set pre1 (headX c) sp1 (at_ / 8) (by omega)
    refine ⟨Fx.mixed, .inr (.inl ⟨[(0, false), (1, false), (2, false), (3, false), (4, false), (5, false), (6, false), (7, false), (8, false), (9, false), (10, false), (11, false), (12, false), (13, true)], [n1], [13], [7], by kernel_rfl, by kernel_rfl, (fun j hj => by cases List.mem_singleton.1 hj; exact ⟨rfl, by rw [hn1]; rfl⟩), ?_⟩)⟩
    simp (maxSteps := 1000000) -implicitDefEqProofs only [go_sem, seval, -List.reduceReplicate, r2, r3, w2, hn1, hg1, hs1, H1, hsh]
    refine ⟨by omega, by omega, by omega, by omega, ?_⟩
    have u1 := rowUpd (at_ / 8) (1#8 <<< (at_ % 8)) H1 hn1 k51 k61 k71 k81 k91
    refine (readHeadOk (setX (headX c) (at_ / 8) (1#8 <<< (at_ % 8))) (by rw [setX_len]; omega)).flat0 ⟨u1.arg, trivial⟩ (fun _ => rfl) rfl ?_
    simp (maxSteps := 1000000) -implicitDefEqProofs only [go_sem, seval, -List.reduceReplicate, hb1]
    refine kn16 ?_
    simp (maxSteps := 1000000) -implicitDefEqProofs only [go_sem, seval, -List.reduceReplicate]
    exact fin
  · obtain ⟨q, hq, rfl⟩ := szOk_q hz
    obtain ⟨F1, F2, F3, F4, F5, F6⟩ := foot_parts c q
    have fread := foot_read hc q hq
    have fbit := foot_bit c q (at_ / 8) (at_ % 8) i12 s8
    have fb1 : ((rFoot (setX (footX c q) (at_ / 8) (1#8 <<< (at_ % 8)))).2.2 != 0) = true := by simpa using fbit
    have sne : (((4 * (q + 1) : Nat) : Int) != ((4 * (q + 1) : Nat) : Int)) = false := bne_self_eq_false _
    refine byT (footOk c hc q hq) ga.nd ga.lt ⟨rfl, rfl, trivial⟩ ?_
    intro s2 m2 nx2 ns2 y1 y2 y3 gy
    simp (maxSteps := 1000000) -implicitDefEqProofs only [go_sem, seval, -List.reduceReplicate]
    have g2 : Gr [] 0 m2 nx2 := ga.trans gy
    have a1 := a1.grow gy
    refine (readHeadOk (headX c) (by omega)).flat0 ⟨a1.arg, trivial⟩ (fun _ => rfl) rfl ?_
    obtain ⟨q1, q2, q3, q4, q5⟩ := a1.facts
    have q6 := a1.len Try.prog 22
    have dis : ∀ k ∈ ns2, k ∉ ns1 := fun k hk h => by have := a1'.lt ga.lt k h; have := y3 k hk; omega
    rw [hread]
    simp (maxSteps := 1000000) -implicitDefEqProofs only [go_sem, seval, -List.reduceReplicate, cne, q1, q2, q3, q4, q6, H1, w1, r1]
    obtain ⟨n1, cap1, pre1, sp1, rfl, rfl, hn1, k51, k61, k71, k81, k91⟩ := byRow a1 (fun e => by rw [e] at H1; cases H1) a2
    have hg1 := row_get pre1 (headX c) sp1 (at_ / 8) (by omega)
    have hs1 := row_set pre1 (headX c) sp1 (at_ / 8) (by omega)
    refine ⟨Fx.mixed, .inr (.inl ⟨[(0, false), (1, false), (2, false), (3, false), (4, false), (5, false), (6, false), (7, false), (8, false), (9, false), (10, false), (11, false), (12, false), (13, true)], [n1], [13], [7], by kernel_rfl, by kernel_rfl, (fun j hj => by cases List.mem_singleton.1 hj; exact ⟨rfl, by rw [hn1]; rfl⟩), ?_⟩)⟩
    simp (maxSteps := 1000000) -implicitDefEqProofs only [go_sem, seval, -List.reduceReplicate, r2, r3, w2, hn1, hg1, hs1, H1, hsh]
    refine ⟨by omega, by omega, by omega, by omega, ?_⟩
    have u1 := rowUpd (at_ / 8) (1#8 <<< (at_ % 8)) H1 hn1 k51 k61 k71 k81 k91
    refine (readHeadOk (setX (headX c) (at_ / 8) (1#8 <<< (at_ % 8))) (by rw [setX_len]; omega)).flat0 ⟨u1.arg, trivial⟩ (fun _ => rfl) rfl ?_
    obtain ⟨M, hM⟩ : ∃ M : Mem, M = Eng.upd m2 n1 (.cells (pre1 ++ (bvs .u8 (setX (headX c) (at_ / 8) (1#8 <<< (at_ % 8))) ++ sp1)) 5) := ⟨_, rfl⟩
    have y1 : ByAt 5 M s2 (footX c q) ns2 := y1.ext fun k hk o ho => by
      rw [hM, look_upd_other _ (fun e => dis k hk (by rw [e]; exact .head _))]; exact ho
    have hMd : (Eng.upd m2 n1 (.cells (pre1 ++ (bvs .u8 ((headX c).set (at_ / 8) ((headX c).getD (at_ / 8) 0#8 ^^^ 1#8 <<< (at_ % 8))) ++ sp1)) 5)) = M := hM.symm
    simp (maxSteps := 1000000) -implicitDefEqProofs only [go_sem, seval, -List.reduceReplicate, hb1, hMd]
    refine (readFootOk (footX c q) (by omega)).flat0 ⟨y1.arg, trivial⟩ (fun _ => rfl) rfl ?_
    obtain ⟨p1, p2, p3, p4, p5⟩ := y1.facts
    have p6 := y1.len Try.prog 22
    rw [fread]
    simp (maxSteps := 1000000) -implicitDefEqProofs only [go_sem, seval, -List.reduceReplicate, cne, sne, p1, p2, p3, p4, p6, F1]
    obtain ⟨n2, cap2, pre2, sp2, rfl, rfl, hn2, k52, k62, k72, k82, k92⟩ := byRow y1 (fun e => by rw [e] at F1; cases F1) y2
    have hg2 := row_get pre2 (footX c q) sp2 (at_ / 8) (by omega)
    have hs2 := row_set pre2 (footX c q) sp2 (at_ / 8) (by omega)
    refine ⟨Fx.mixed, .inr (.inl ⟨[(0, false), (1, false), (2, false), (3, false), (4, false), (5, false), (6, false), (7, false), (8, false), (9, false), (10, false), (11, false), (12, false), (13, true)], [n2], [13], [7], by kernel_rfl, by kernel_rfl, (fun j hj => by cases List.mem_singleton.1 hj; exact ⟨rfl, by rw [hn2]; rfl⟩), ?_⟩)⟩
    simp (maxSteps := 1000000) -implicitDefEqProofs only [go_sem, seval, -List.reduceReplicate, r2, r3, w2, hn2, hg2, hs2, F1, hsh]
    refine ⟨by omega, by omega, by omega, by omega, ?_⟩
    have u2 := rowUpd (at_ / 8) (1#8 <<< (at_ % 8)) F1 hn2 k52 k62 k72 k82 k92
    refine (readFootOk (setX (footX c q) (at_ / 8) (1#8 <<< (at_ % 8))) (by rw [setX_len]; omega)).flat0 ⟨u2.arg, trivial⟩ (fun _ => rfl) rfl ?_
    simp (maxSteps := 1000000) -implicitDefEqProofs only [go_sem, seval, -List.reduceReplicate, fb1]
    refine kn16 ?_
    simp (maxSteps := 1000000) -implicitDefEqProofs only [go_sem, seval, -List.reduceReplicate]
    exact fin
end Go.Proofs.Ytmdeoikpiiambaa
