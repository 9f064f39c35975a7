/- Part 6 of the proof of the statement ModelBack: Mps, Mpv. -/
import Derived.Test.YtmdeoikpiiambaaModelBackZ5
section
/- The law on what symbols are coded to: what the program codes is what the document says. BRIEF -/
set_option linter.unusedVariables false
set_option linter.unusedSimpArgs false
set_option maxRecDepth 100000
namespace Go.Proofs.Ytmdeoikpiiambaa
open Go Go.Eng

/-- what is under way: the program's coder and the document's, who codes, the history -/
structure MG where
  C : MC
  P : List (BitVec 16)
  e : ES
  s : RS
  h : List (BitVec 8)
  hv : AV
  hs : List Nat
  ns : List Nat
  nd : List Nat
  M : Mem
  n : Nat
theorem elBy : elemT Try.prog 22 = some 5 := by kernel_rfl
theorem inBy : intT Try.prog 5 = some .u8 := by kernel_rfl
theorem stBy : isStrT Try.prog 9 = true := by kernel_rfl
structure MI (c q x d a lc lp pb : Nat) (i : Nat) (g : MG) : Prop where
  S : MS (encIo x) c q g.hv g.h g.hs g.C g.P g.e g.ns g.M
  K : KA d a g.C g.M (g.P, g.s) g.nd
  nd : (g.M.map fun p => p.1).Nodup
  lt : ∀ p ∈ g.M, p.1 < g.n
  d1 : c ∉ g.nd
  d2 : q ∉ g.nd
  d3 : ∀ k ∈ g.ns, k ∉ g.nd
  d4 : ∀ k ∈ g.hs, k ∉ g.nd
  R : RelE g.e g.s
  C : MCok g.C
  k1 : g.C.lc = lc ∧ g.C.lp = lp ∧ g.C.pb = pb
  b1 : encB g.e (24 * (60 - i) + 24)
  b2 : rencB g.s (24 * (60 - i) + 24)
  hl : g.h.length ≤ 500 + 273 * i
set_option maxHeartbeats 8000000 in
theorem modelPutsOk (lc : Int) (l0 : -9223372036854775808 ≤ lc) (r0 : lc < 9223372036854775808) (lp : Int) (l1 : -9223372036854775808 ≤ lp) (r1 : lp < 9223372036854775808) (pb : Int) (l2 : -9223372036854775808 ≤ pb) (r2 : pb < 9223372036854775808) (b : List (BitVec 8)) (hb : b.length ≤ maxLen) (L : List SyE) (hL : L.length ≤ maxLen ∧ ∀ z ∈ L, (-9223372036854775808 ≤ z.1 ∧ z.1 < 9223372036854775808) ∧ True ∧ (-9223372036854775808 ≤ z.2.2.1 ∧ z.2.2.1 < 9223372036854775808) ∧ (-9223372036854775808 ≤ z.2.2.2.1 ∧ z.2.2.2.1 < 9223372036854775808) ∧ (-9223372036854775808 ≤ z.2.2.2.2.1 ∧ z.2.2.2.2.1 < 9223372036854775808) ∧ True) :
    CallOk Try.prog 8 [.int .i64 lc, .int .i64 lp, .int .i64 pb, .ro b.length (bvs .u8 b), .ro L.length (L.flatMap syC)] (fun _ => true) [] 0 fun v _ _ => v = .bool true := by
  refine fn_ok Try.func8 rfl (by show 5 ≤ _; decide) ?_
  have fin : ∀ {m : Mem} {nx : Nat}, Eng.Fin 0 (fun _ => true) m nx (fun v _ _ => v = .bool true) (.bool true) := Fin.flatv (fun _ => rfl) (fun _ => rfl) rfl
  obtain ⟨Y, hY⟩ : ∃ Y, Y = syE L := ⟨_, rfl⟩
  have hYl : L.length = Y.length := by rw [hY, syE_len]
  rw [syE_sys, ← hY, hYl]
  have D : Rdm (fun _ => true) ([] : Mem) 0 := rdmT nd0
  by_cases h1 : 500 < b.length
  · have e1 : decide ((b.length : Int) > 500) = true := decide_eq_true (by omega)
    simp (maxSteps := 1000000) -implicitDefEqProofs only [go_sem, seval, -List.reduceReplicate, Try.results8, Try.ntmps8, e1]
    refine kn07 ?_
    simp (maxSteps := 1000000) -implicitDefEqProofs only [go_sem, seval, -List.reduceReplicate]
    exact fin
  have e1 : decide ((b.length : Int) > 500) = false := decide_eq_false (by omega)
  by_cases h2 : 60 < Y.length
  · have e2 : decide ((Y.length : Int) > 60) = true := decide_eq_true (by omega)
    simp (maxSteps := 1000000) -implicitDefEqProofs only [go_sem, seval, -List.reduceReplicate, Try.results8, Try.ntmps8, e1, e2]
    refine kn07 ?_
    simp (maxSteps := 1000000) -implicitDefEqProofs only [go_sem, seval, -List.reduceReplicate]
    exact fin
  have e2 : decide ((Y.length : Int) > 60) = false := decide_eq_false (by omega)
  cases hm : mayB lc lp pb with
  | false =>
    simp (maxSteps := 1000000) -implicitDefEqProofs only [go_sem, seval, -List.reduceReplicate, Try.results8, Try.ntmps8, e1, e2]
    refine CallG.any (CallG.weak (rnewN D lt0 lc lp pb hm) ?_)
    rintro v mA nA ⟨rfl, rfl, rfl⟩
    simp (maxSteps := 1000000) -implicitDefEqProofs only [go_sem, seval, -List.reduceReplicate]
    have hk := kmay D lc lp pb
    rw [hm] at hk
    refine CallG.any (CallG.pk hk ?_)
    simp (maxSteps := 1000000) -implicitDefEqProofs only [go_sem, seval, -List.reduceReplicate]
    refine kn07 ?_
    simp (maxSteps := 1000000) -implicitDefEqProofs only [go_sem, seval, -List.reduceReplicate]
    exact fin
  | true =>
    obtain ⟨A, B, E, rfl, rfl, rfl, hAB, hE⟩ : ∃ A B E : Nat, lc = (A : Int) ∧ lp = (B : Int) ∧ pb = (E : Int) ∧ A + B ≤ 4 ∧ E ≤ 4 := by
      unfold mayB at hm
      simp only [Bool.and_eq_true, decide_eq_true_eq] at hm
      exact ⟨lc.toNat, lp.toNat, pb.toNat, by omega, by omega, by omega, by omega, by omega⟩
    simp (maxSteps := 1000000) -implicitDefEqProofs only [go_sem, seval, -List.reduceReplicate, Try.results8, Try.ntmps8, e1, e2]
    have n1 := rnewY D lt0 A B E hm
    rw [Int.toNat_natCast, Int.toNat_natCast, Int.toNat_natCast] at n1
    refine CallG.any (CallG.weak n1 ?_)
    rintro v m1 nx1 ⟨rfl, g1, co1⟩
    have co1 : CoAt 1 0 (newC A B E) (newP A B) m1 := co1
    have D1 := g1.rdm D
    simp (maxSteps := 1000000) -implicitDefEqProofs only [go_sem, seval, -List.reduceReplicate]
    have hk := kmay D1 A B E
    rw [hm] at hk
    refine CallG.any (CallG.pk hk ?_)
    simp (maxSteps := 1000000) -implicitDefEqProofs only [go_sem, seval, -List.reduceReplicate]
    refine CallG.any (CallG.weak (enewOk D1 g1.lt) ?_)
    rintro v mB nB ⟨rfl, rfl, rfl⟩
    have g2 := g1.trans (Gr.cons g1.nd g1.lt (eO .nils newS))
    have D2 := g2.rdm D
    simp (maxSteps := 1000000) -implicitDefEqProofs only [go_sem, seval, -List.reduceReplicate]
    refine CallG.any (CallG.weak (knew D2 g2.lt A B E hAB hE) ?_)
    rintro v m3 nx3 ⟨rfl, g3, q', qc, qs, hd3, hq'⟩
    have D3 := g3.rdm D2
    have G3 := g2.trans g3
    simp (maxSteps := 1000000) -implicitDefEqProofs only [go_sem, seval, -List.reduceReplicate]
    refine CallG.any (CallG.weak (rcnewOk D3 g3.lt) ?_)
    rintro v m4 nx4 ⟨rfl, hm4, rfl⟩
    have g4a := Gr.cons g3.nd g3.lt (rowO newR.low [])
    have g4 := g4a.trans (Gr.cons g4a.nd g4a.lt (rEO (.sl nx3 0 4 4) newR))
    rw [← hm4] at g4
    have D4 := g4.rdm D3
    have g24 := g3.trans g4
    have cl := look_ltm g1.lt co1.co
    have le3 := g3.le
    have ql3 := look_ltm g3.lt hd3.ch
    have S0 : MS (encIo nx1) 1 0 (.ro b.length (bvs .u8 b)) b [] (newC A B E) (newP A B) newS [nx1] m4 := ⟨co1.ext (fun o h => g24.kp _ _ ((Gr.cons g1.nd g1.lt (eO .nils newS)).kp _ _ h)) (fun o h => g24.kp _ _ ((Gr.cons g1.nd g1.lt (eO .nils newS)).kp _ _ h)), (encAt_new m1 nx1).ext fun k _ o ho => g24.kp _ _ ho, .ro _ _, (fun h => by cases List.mem_singleton.1 h; omega), (fun h => by cases List.mem_singleton.1 h; omega), (fun h => by cases h), (fun h => by cases h), fun k h => by cases h⟩
    have K0 : KA (nx1 + 1 + 1) (nx3 + 1) (newC A B E) m4 (newP A B, newR) [nx1 + 1 + 1, nx1 + 1, q', nx3 + 1, nx3] := ⟨nx1 + 1, 4, q', qc, [], qs, [nx3 + 1, nx3], rfl, hd3.ext fun k _ o ho => g4.kp _ _ ho, ⟨nx3, 4, [], rfl, by rw [hm4, look_cons, if_pos rfl]; rfl, by rw [hm4, look_cons, if_neg (by omega), look_cons, if_pos rfl], by omega, rfl, by decide⟩, by simp; omega, by simp; omega, by simp; omega⟩
    have le4 := g4.le
    simp (maxSteps := 1000000) -implicitDefEqProofs only [go_sem, seval, -List.reduceReplicate]
    refine LoopOk.upX (MI 1 0 nx1 (nx1 + 1 + 1) (nx3 + 1) A B E) Y.length
      (fun i g => ([(17, .int .i64 (i : Nat)), (16, g.hv), (15, .ptr (nx3 + 1) 0), (14, .ptr (nx1 + 1 + 1) 0), (13, .ptr nx1 0), (11, .ptr 1 0), (10, .bool false), (4, .ro Y.length (sys Y))], g.M, g.n)) ⟨newC A B E, newP A B, newS, newR, b, .ro b.length (bvs .u8 b), [], [nx1], [nx1 + 1 + 1, nx1 + 1, q', nx3 + 1, nx3], m4, nx3 + 1 + 1⟩
      ⟨S0, K0, g4.nd, g4.lt, (by simp; omega), (by simp; omega), (fun k hk => by cases List.mem_singleton.1 hk; simp; omega), (fun k hk => by cases hk), newRel, CoAt.mok A B E hAB hE, ⟨rfl, rfl, rfl⟩, encB_new _ (by decide), rencB_new _ (by decide), by show b.length ≤ 500 + 273 * 0; omega⟩ (D4.leN (Nat.zero_le _) ⟨rfl, rfl, rfl, rfl, rfl, rfl, rfl, rfl, trivial⟩) ?_
    rintro i g ⟨hi, I⟩
    have D := rdmT I.nd (nx := g.n)
    have wi : IntKind.i64.wrap ((i : Int) + 1) = ((i + 1 : Nat) : Int) := by rw [wrap_i64] <;> omega
    have hlen := I.hl
    rcases Nat.lt_or_ge i Y.length with h | h
    · have c1 : decide ((i : Int) < (Y.length : Int)) = true := decide_eq_true (by omega)
      obtain ⟨q1, q2, q3, q4, q5⟩ := I.S.hi.facts
      obtain ⟨y, hy⟩ : ∃ y, y = Y.getD i syZ := ⟨_, rfl⟩
      have s5 := sys_take Y i h
      rw [← hy] at s5
      have s6 : i * 5 < (sys Y).length := by rw [sys_len]; omega
      have s7 : 5 ≤ (List.drop (i * 5) (sys Y)).length := by rw [List.length_drop, sys_len]; omega
      have s8 : (i : Int) < (Y.length : Int) := by omega
      have hw : ∀ k ∈ 1 :: 0 :: g.ns, (fun _ : Nat => true) k = true := fun _ _ => rfl
      have b24 : encB g.e 24 := encBud.less _ _ 24 I.b1 (by omega)
      have hdis : ∀ k ∈ g.nd, k ∉ 1 :: 0 :: g.ns := fun k hk hm => by
        rcases List.mem_cons.1 hm with rfl | hm
        · exact I.d1 hk
        rcases List.mem_cons.1 hm with rfl | hm
        · exact I.d2 hk
        · exact I.d3 k hm hk
      simp (maxSteps := 1000000) -implicitDefEqProofs only [go_sem, seval, -List.reduceReplicate, c1, q1, q2, q3, q4, q5, s5]
      refine ⟨s8, s6, s7, ?_⟩
      cases hf : fitsB g.C g.h.length y with
      | false =>
        refine CallG.any (CallG.weak (rputN D I.lt I.S I.C (by omega) hw b24 y hf) ?_)
        rintro v m5 n5 ⟨rfl, fr5, ns5, S5, hn5⟩
        have D5 := fr5.rdm D hw
        have K5 := I.K.frm fr5 hdis
        obtain ⟨r, rc, qq, qc', rs, qs', ne, e0, hd5, he5⟩ := K5
        have hfit := kfits D5 fr5.lt hd5 S5.hi (by omega) y
        rw [hf] at hfit
        simp (maxSteps := 1000000) -implicitDefEqProofs only [go_sem, seval, -List.reduceReplicate, q1, q2, q3, q4, q5, s5]
        refine ⟨s8, s6, s7, ?_⟩
        refine CallG.any (CallG.weak hfit ?_)
        rintro v m6 n6 ⟨rfl, g6⟩
        simp (maxSteps := 1000000) -implicitDefEqProofs only [go_sem, seval, -List.reduceReplicate, wi]
        refine UpX_normal h { g with ns := ns5, M := m6, n := n6 } ⟨S5.gr g6, (I.K.frm fr5 hdis).gr g6, g6.nd, g6.lt, I.d1, I.d2, fun k hk hm => ?_, I.d4, I.R, I.C, I.k1, encBud.less _ _ _ I.b1 (by omega), rencBud.less _ _ _ I.b2 (by omega), by show g.h.length ≤ _; omega⟩ ((rdmT g6.nd).leN (Nat.zero_le _) ⟨rfl, rfl, rfl, rfl, rfl, rfl, rfl, rfl, trivial⟩)
        rcases hn5 k hk with h | h
        · exact I.d3 k h hm
        · obtain ⟨o, ho⟩ := I.K.live k hm
          have := look_ltm I.lt ho
          omega
      | true =>
        obtain ⟨dq, hkd, hkr⟩ := distN_eq I.C hf
        obtain ⟨hC', kc1, kc2, kc3⟩ := becC_ok I.C hf (by omega)
        obtain ⟨z1, z2, z3, z4⟩ := put_rel (C := g.C) (h := g.h) (P := g.P) I.R y (j := 24 * (60 - (i + 1)) + 24) (encBud.less _ _ _ I.b1 (by omega)) (rencBud.less _ _ _ I.b2 (by omega))
        have hput := rputY D I.lt I.S I.C (by omega) hw b24 y hf
        refine CallG.any (CallG.weak hput ?_)
        rintro v m5 n5 ⟨rfl, fr5, ns5, S5, hn5⟩
        have D5 := fr5.rdm D hw
        have K5 := I.K.frm fr5 hdis
        have ltd : ∀ k ∈ g.nd, k < g.n := fun k hk => by obtain ⟨o, ho⟩ := I.K.live k hk; exact look_ltm I.lt ho
        obtain ⟨lc1, lq1, lns1, lhs1⟩ := I.S.live I.lt
        simp (maxSteps := 1000000) -implicitDefEqProofs only [go_sem, seval, -List.reduceReplicate, q1, q2, q3, q4, q5, s5]
        refine ⟨s8, s6, s7, ?_⟩
        obtain ⟨r, rc, qq, qc', rs, qs', ne, e0, hd5, he5⟩ := id K5
        have hfit := kfits D5 fr5.lt hd5 S5.hi (by omega) y
        rw [hf] at hfit
        refine CallG.any (CallG.weak hfit ?_)
        rintro v m6 n6 ⟨rfl, g6⟩
        have D6 := g6.rdm D5
        have hd6 : DoA _ r rc qq qc' rs qs' g.C g.P m6 := hd5.ext fun k _ o ho => g6.kp _ _ ho
        simp (maxSteps := 1000000) -implicitDefEqProofs only [go_sem, seval, -List.reduceReplicate, q1, q2, q3, q4, q5, s5]
        refine ⟨s8, s6, s7, ?_⟩
        refine CallG.any (CallG.weak (kdist D6 g6.lt hd6 y hkr) ?_)
        rintro v m7 n7 ⟨rfl, g7⟩
        rw [dq]
        have D7 := g7.rdm D6
        have g57 := g6.trans g7
        have S7 := S5.gr g57
        have K7 := K5.gr g57
        have n57 := g57.le
        have n5l := fr5.le
        have dis7 : ∀ k ∈ ns5, k ∉ g.nd := fun k hk hm => by
          rcases hn5 k hk with h | h
          · exact I.d3 k h hm
          · have := ltd k hm; omega
        have dis8 : ∀ k ∈ g.hs, k ∉ g.nd := I.d4
        have hkp := kput D7 g7.lt K7 (fun _ _ => rfl) S7.hi (by omega) dis8 I.C (by unfold szP; have := I.C.lc; have : 2 ^ (g.C.lc + g.C.lp) ≤ 2 ^ 4 := Nat.pow_le_pow_right (by decide) this; omega) (rencBud.less _ _ 24 I.b2 (by omega)) y hf
        simp (maxSteps := 1000000) -implicitDefEqProofs only [go_sem, seval, -List.reduceReplicate, q1, q2, q3, q4, q5, s5]
        refine ⟨s8, s6, s7, ?_⟩
        generalize told rencM (cmds (symP g.C g.h y)).2 g.P g.s = z at *
        obtain ⟨P8, s8'⟩ := z
        generalize (run encM (symP g.C g.h y) g.P g.e).2.1 = P8' at *
        generalize (run encM (symP g.C g.h y) g.P g.e).2.2 = e8 at *
        have z1 : P8' = P8 := z1
        subst z1
        refine CallG.any (CallG.weak hkp ?_)
        rintro v m8 n8 ⟨rfl, fr8, nd8, K8, hn8⟩
        have D8 := fr8.rdm D7 (fun _ _ => rfl)
        have S8 := S7.frm fr8 I.d1 I.d2 dis7 dis8
        have n8l := fr8.le
        simp (maxSteps := 1000000) -implicitDefEqProofs only [go_sem, seval, -List.reduceReplicate, q1, q2, q3, q4, q5, s5]
        refine ⟨s8, s6, s7, ?_⟩
        refine CallG.any (CallG.weak (kgrow D8 fr8.lt S8.hi (by omega) y (distN g.C y) hkd) ?_)
        rintro hv9 m9 n9 ⟨g9, hv9r, hs9, hi9, hn9⟩
        have D9 := g9.rdm D8
        have S9 := (S8.gr g9)
        have K9 := K8.gr g9
        obtain ⟨r9, rc9, qq9, qc9, rs9, qs9, ne9, e9, hd9, he9⟩ := id K9
        have co9 := hd9.co
        obtain ⟨p1, p2, p3, p4, p5⟩ := hi9.facts
        simp (maxSteps := 1000000) -implicitDefEqProofs only [go_sem, seval, -List.reduceReplicate, q1, q2, q3, q4, q5, p1, p2, p3, p4, p5]
        refine ⟨Fx.mixed, .inl ⟨[(0, false), (1, false), (2, false), (3, false), (5, false), (6, false), (7, false), (8, false), (4, true), (9, false), (10, false), (11, false), (12, false), (14, false), (15, false), (16, false), (17, false), (13, true), (18, true), (19, false), (20, false)], [], by kernel_rfl, (fun n hn => by cases hn), ?_⟩⟩
        have DW := D9.drawn []
        have hst : CallG false Try.prog 48 [.ptr 1 0] (wrD m9 n9 []) m9 n9 (PK (.int .i64 ((becC g.C y).st : Nat)) m9 n9) := rstate DW S9.co
        have dl9 := look_ltm g9.lt co9
        have fd : decide (n9 ≤ nx1 + 1 + 1) = false := decide_eq_false (by omega)
        simp (maxSteps := 1000000) -implicitDefEqProofs only [go_sem, seval, -List.reduceReplicate, co9, fd]
        refine CallG.any (CallG.pk hst ?_)
        simp (maxSteps := 1000000) -implicitDefEqProofs only [go_sem, seval, -List.reduceReplicate, co9, fd]
        refine CallG.any (CallG.weak (rrepeats DW g9.lt S9.co) ?_)
        rintro v m10 n10 ⟨rfl, g10⟩
        have re10 := g10.kp _ _ hd9.re
        simp (maxSteps := 1000000) -implicitDefEqProofs only [go_sem, seval, -List.reduceReplicate, co9, fd]
        refine CallG.any (CallG.weak (kreps (g10.rdm DW) g10.lt (becC g.C y) re10) ?_)
        rintro v m11 n11 ⟨rfl, g11⟩
        simp (maxSteps := 1000000) -implicitDefEqProofs only [go_sem, seval, -List.reduceReplicate, wi]
        have g911 := g10.trans g11
        have hhl : (growS g.h y (distN g.C y)).length ≤ 500 + 273 * (i + 1) := by
          unfold growS
          split
          · rw [List.length_append]; show _ + 1 ≤ _; omega
          · rename_i h0
            have := hkd.resolve_left h0
            rw [growN_len]; omega
        have hnew : ∀ k ∈ hs9, k ∉ nd8 := fun k hk hm => by
          obtain ⟨o, ho⟩ := K8.live k hm
          have := look_ltm fr8.lt ho
          have := hn9 k hk
          omega
        have hnew2 := fun k (hk : k ∈ hs9) => hn9 k hk
        obtain ⟨x1, x2, x3, x4⟩ := S8.live fr8.lt
        have S11 := (S9.his (hs' := hs9) hi9 (fun h => by have := hnew2 _ h; omega) (fun h => by have := hnew2 _ h; omega) (fun k hk hm => by have := hnew2 _ hk; have := x3 k hm; omega)).gr g911
        have nd7 : ∀ k, k ∈ nd8 → k ∈ g.nd ∨ g.n ≤ k := fun k hk => (hn8 k hk).imp id fun h => by have := fr5.le; omega
        refine UpX_normal h ⟨becC g.C y, P8', e8, s8', growS g.h y (distN g.C y), hv9, hs9, ns5, nd8, m11, n11⟩ ⟨S11, K9.gr g911, g911.nd, g911.lt, fun hm => ?_, fun hm => ?_, fun k hk hm => ?_, hnew, z2, hC', ⟨kc1.trans I.k1.1, kc2.trans I.k1.2.1, kc3.trans I.k1.2.2⟩, z3, z4, hhl⟩ ((rdmT g911.nd).leN (Nat.zero_le _) ⟨rfl, rfl, rfl, rfl, rfl, rfl, rfl, rfl, trivial⟩)
        · rcases hn8 _ hm with h | h
          · exact I.d1 h
          · omega
        · rcases hn8 _ hm with h | h
          · exact I.d2 h
          · omega
        · rcases hn8 k hm with h | h
          · exact dis7 k hk h
          · have := S5.live fr5.lt
            have := this.2.2.1 k hk
            omega
    · have hil : i = Y.length := by omega
      have c1 : decide ((i : Int) < (Y.length : Int)) = false := decide_eq_false (by omega)
      obtain ⟨q1, q2, q3, q4, q5⟩ := I.S.hi.facts
      simp (maxSteps := 1000000) -implicitDefEqProofs only [go_sem, seval, -List.reduceReplicate, c1, q1, q2, q3, q4, q5]
      refine ⟨Fx.mixed, .inr (.inr ⟨(.step 0 false (.step 3 false (.step 1 true (.both 2 (.step 4 true (.step 5 true (.step 6 false (.step 7 false (.step 8 true (.step 9 false (.step 10 false .done))))))) 4 (.both 2 (.step 5 true (.step 6 false (.step 7 false (.step 8 true (.step 9 false (.step 10 false .done)))))) 5 (.step 2 true (.step 6 false (.step 7 false (.step 8 true (.step 9 false (.step 10 false .done))))))))))), [], by kernel_rfl, (fun n hn => by cases hn), ?_⟩)⟩
      have DW := D.drawn []
      have heq : bytE g.e = 0#8 :: g.s.low := bytE_eq I.R.1 (by have := I.R.2; omega)
      obtain ⟨r, rc, qq, qc', rs, qs', ne, e0, hd5, he5, _⟩ := id I.K
      have hx := bytEOk DW I.lt (show EncAt nx1 g.M g.e g.ns from I.S.io) (by have := I.b1.2; omega)
      rw [heq] at hx
      generalize hX : 0#8 :: g.s.low = X at *
      simp (maxSteps := 1000000) -implicitDefEqProofs only [go_sem, seval, -List.reduceReplicate, drawT_done, drawT_step, drawT_both, List.cons_append, List.nil_append]
      refine CallG.any (CallG.weak hx ?_)
      rintro v1 m1' n1' ⟨ns1', b1, b2, b3, gA⟩
      have hy := rcbytOk (gA.rdm DW) gA.lt (he5.ext fun k _ o ho => gA.kp k o ho) (show 1 ≤ g.s.low.length ∧ g.s.low.length ≤ 1000000 from ⟨I.b2.2.1, by have := I.b2.2.2; omega⟩)
      rw [hX] at hy
      simp (maxSteps := 1000000) -implicitDefEqProofs only [go_sem, seval, -List.reduceReplicate, drawT_done, drawT_step, drawT_both, List.cons_append, List.nil_append]
      refine ⟨?_, ?_⟩
      · rw [b1.cvx elBy inBy stBy]
        simp (maxSteps := 1000000) -implicitDefEqProofs only [go_sem, seval, -List.reduceReplicate, drawT_done, drawT_step, drawT_both, List.cons_append, List.nil_append]
        refine CallG.any (CallG.weak hy ?_)
        rintro v2 m2' n2' ⟨ns2', d1, d2, d3, gB⟩
        simp (maxSteps := 1000000) -implicitDefEqProofs only [go_sem, seval, -List.reduceReplicate, drawT_done, drawT_step, drawT_both, List.cons_append, List.nil_append]
        rw [d1.cvx elBy inBy stBy]
        simp (maxSteps := 1000000) -implicitDefEqProofs only [go_sem, seval, -List.reduceReplicate, drawT_done, drawT_step, drawT_both, List.cons_append, List.nil_append, strEq]
        refine kn07 ?_
        simp (maxSteps := 1000000) -implicitDefEqProofs only [go_sem, seval, -List.reduceReplicate, drawT_done, drawT_step, drawT_both, List.cons_append, List.nil_append]
        exact fin
      · refine CallG.any (CallG.weak hy ?_)
        rintro v2 m2' n2' ⟨ns2', d1, d2, d3, gB⟩
        simp (maxSteps := 1000000) -implicitDefEqProofs only [go_sem, seval, -List.reduceReplicate, drawT_done, drawT_step, drawT_both, List.cons_append, List.nil_append]
        refine ⟨?_, ?_⟩
        · rw [(b1.grow gB).cvx elBy inBy stBy]
          simp (maxSteps := 1000000) -implicitDefEqProofs only [go_sem, seval, -List.reduceReplicate, drawT_done, drawT_step, drawT_both, List.cons_append, List.nil_append]
          rw [d1.cvx elBy inBy stBy]
          simp (maxSteps := 1000000) -implicitDefEqProofs only [go_sem, seval, -List.reduceReplicate, drawT_done, drawT_step, drawT_both, List.cons_append, List.nil_append, strEq]
          refine kn07 ?_
          simp (maxSteps := 1000000) -implicitDefEqProofs only [go_sem, seval, -List.reduceReplicate, drawT_done, drawT_step, drawT_both, List.cons_append, List.nil_append]
          exact fin
        · rw [d1.cvx elBy inBy stBy]
          simp (maxSteps := 1000000) -implicitDefEqProofs only [go_sem, seval, -List.reduceReplicate, drawT_done, drawT_step, drawT_both, List.cons_append, List.nil_append]
          rw [(b1.grow gB).cvx elBy inBy stBy]
          simp (maxSteps := 1000000) -implicitDefEqProofs only [go_sem, seval, -List.reduceReplicate, drawT_done, drawT_step, drawT_both, List.cons_append, List.nil_append, strEq]
          refine kn07 ?_
          simp (maxSteps := 1000000) -implicitDefEqProofs only [go_sem, seval, -List.reduceReplicate, drawT_done, drawT_step, drawT_both, List.cons_append, List.nil_append]
          exact fin
end Go.Proofs.Ytmdeoikpiiambaa
end
section
/- The law on what is coded and told back. BRIEF -/
set_option linter.unusedVariables false
set_option linter.unusedSimpArgs false
set_option maxRecDepth 100000
namespace Go.Proofs.Ytmdeoikpiiambaa
open Go Go.Eng

structure GC where
  hv : AV
  hs : List Nat
  ns : List Nat
  nd : List Nat
  M : Mem
  n : Nat
/-- what is under way while symbols are read -/
structure CI (c q a d : Nat) (DD : List (BitVec 8)) (hDD : DD.length ≤ 1000000) (C0 : MC) (P0 : List (BitVec 16)) (b : List (BitVec 8)) (T : List Sy) (t0 : DS) (Pd : List (BitVec 16)) (pv : AV) (ps : List Nat) (hv1 : AV) (hs1 : List Nat) (i : Nat) (g : GC) : Prop where
  S : MS (decIo a DD hDD) c q g.hv (walkS C0 b (T.take i)).2 g.hs (walkS C0 b (T.take i)).1 (chs (cmdA C0 b (T.take i)) P0) ((deeds (cmdA C0 b (T.take i)) P0).foldl (stepD DD) t0) g.ns g.M
  K : KD noR d (walkS C0 b (T.take i)).1 g.M Pd g.nd
  A : SlA 71 5 g.M pv T.length (sys T) ps
  H : ByAt 5 g.M hv1 (walkS C0 b T).2 hs1
  nd : (g.M.map fun p => p.1).Nodup
  lt : ∀ p ∈ g.M, p.1 < g.n
  d1 : ∀ k ∈ g.nd, k ∉ c :: q :: g.ns
  d2 : ∀ k ∈ g.hs, k ∉ g.nd
  d3 : ∀ k ∈ ps, k ∉ c :: q :: g.ns
  d4 : ∀ k ∈ ps, k ∉ g.nd
  d5 : ∀ k ∈ hs1, k ∉ c :: q :: g.ns
  d6 : ∀ k ∈ hs1, k ∉ g.nd
  C : MCok (walkS C0 b (T.take i)).1
  ok : okS DD ((deeds (cmdA C0 b (T.take i)) P0).foldl (stepD DD) t0)
  hl : (walkS C0 b (T.take i)).2.length ≤ 500 + 273 * i
structure GB where
  C : MC
  P : List (BitVec 16)
  e : ES
  s : RS
  h : List (BitVec 8)
  hv : AV
  hs : List Nat
  ns : List Nat
  nd : List Nat
  M : Mem
  n : Nat
  T : List Sy
  pv : AV
  ps : List Nat
/-- what is under way while symbols are coded -/
structure BI (c q x d c2 q2 : Nat) (C0 : MC) (P0 : List (BitVec 16)) (b : List (BitVec 8)) (Pd : List (BitVec 16)) (i : Nat) (g : GB) : Prop where
  S : MS (encIo x) c q g.hv g.h g.hs g.C g.P g.e g.ns g.M
  K : KD noR d g.C g.M Pd g.nd
  W : CoAt c2 q2 C0 P0 g.M
  A : SlA 71 5 g.M g.pv g.T.length (sys g.T) g.ps
  Ar : g.pv ≠ .ro g.T.length (sys g.T)
  nd : (g.M.map fun p => p.1).Nodup
  lt : ∀ p ∈ g.M, p.1 < g.n
  d1 : ∀ k ∈ g.nd, k ∉ c :: q :: g.ns
  d2 : ∀ k ∈ g.hs, k ∉ g.nd
  d3 : ∀ k ∈ g.ps, k ∉ c :: q :: g.ns
  d4 : ∀ k ∈ g.ps, k ∉ g.nd
  d5 : ∀ k ∈ g.hs, k ∉ g.ps
  d6 : ∀ k ∈ [c2, q2], k ∉ c :: q :: g.ns
  d7 : ∀ k ∈ [c2, q2], k ∉ g.nd
  d8 : ∀ k ∈ [c2, q2], k ∉ g.ps
  d9 : ∀ k ∈ g.hs, k ∉ [c2, q2]
  R : RelE g.e g.s
  C : MCok g.C
  t : (g.P, g.s) = told rencM (cmdA C0 b g.T) P0 newR
  w : (g.C, g.h) = walkS C0 b g.T
  f : fitA C0 b g.T
  rg : ∀ z ∈ g.T, rngS z
  tl : g.T.length ≤ i
  b1 : encB g.e (24 * (60 - i) + 24)
  b2 : rencB g.s (24 * (60 - i) + 24)
  hl : g.h.length ≤ 500 + 273 * i
theorem byS40 : bytesT Try.prog 71 = some 40 := by kernel_rfl
def z5 : List AV := zfill [AV.int IntKind.i64 0, AV.int IntKind.u8 0, AV.int IntKind.i64 0, AV.int IntKind.i64 0, AV.int IntKind.i64 0] 5
theorem tk5y (z : Sy) : List.take 5 (syL z) = syL z := rfl
theorem sl5 (z : Sy) : (syL z).length = 5 := rfl
theorem sm5 (z : Sy) : setMany (zfill [AV.int IntKind.i64 0, AV.int IntKind.u8 0, AV.int IntKind.i64 0, AV.int IntKind.i64 0, AV.int IntKind.i64 0] 5) 0 (syL z) = syL z := rfl
theorem zl5 : (zfill [AV.int IntKind.i64 0, AV.int IntKind.u8 0, AV.int IntKind.i64 0, AV.int IntKind.i64 0, AV.int IntKind.i64 0] 5).length = 5 := rfl
theorem so5 (z : Sy) : (syL z).all one1 = true := rfl
theorem sys_app (T U : List Sy) : sys (T ++ U) = sys T ++ sys U := List.flatMap_append
theorem CoAt.frm {c q : Nat} {C : MC} {P : List (BitVec 16)} {m m' : Mem} {X : List Nat} (h : CoAt c q C P m) (hx : ∀ k ∈ [c, q], k ∉ X) (kp : ∀ k o, k ∉ X → Eng.look m k = some o → Eng.look m' k = some o) : CoAt c q C P m' :=
  h.ext (fun o => kp _ _ (hx c (.head _))) (fun o => kp _ _ (hx q (.tail _ (.head _))))
set_option maxHeartbeats 8000000 in
theorem modelBackOk (lc : Int) (l0 : -9223372036854775808 ≤ lc) (r0 : lc < 9223372036854775808) (lp : Int) (l1 : -9223372036854775808 ≤ lp) (r1 : lp < 9223372036854775808) (pb : Int) (l2 : -9223372036854775808 ≤ pb) (r2 : pb < 9223372036854775808) (b : List (BitVec 8)) (hb : b.length ≤ maxLen) (L : List SyE) (hL : L.length ≤ maxLen ∧ ∀ z ∈ L, (-9223372036854775808 ≤ z.1 ∧ z.1 < 9223372036854775808) ∧ True ∧ (-9223372036854775808 ≤ z.2.2.1 ∧ z.2.2.1 < 9223372036854775808) ∧ (-9223372036854775808 ≤ z.2.2.2.1 ∧ z.2.2.2.1 < 9223372036854775808) ∧ (-9223372036854775808 ≤ z.2.2.2.2.1 ∧ z.2.2.2.2.1 < 9223372036854775808) ∧ True) :
    CallOk Try.prog 9 [.int .i64 lc, .int .i64 lp, .int .i64 pb, .ro b.length (bvs .u8 b), .ro L.length (L.flatMap syC)] (fun _ => true) [] 0 fun v _ _ => v = .bool true := by
  refine fn_ok Try.func9 rfl (by show 5 ≤ _; decide) ?_
  have fin : ∀ {m : Mem} {nx : Nat}, Eng.Fin 0 (fun _ => true) m nx (fun v _ _ => v = .bool true) (.bool true) := Fin.flatv (fun _ => rfl) (fun _ => rfl) rfl
  obtain ⟨Y, hY⟩ : ∃ Y, Y = syE L := ⟨_, rfl⟩
  have hYl : L.length = Y.length := by rw [hY, syE_len]
  have hYr : ∀ z ∈ Y, rngS z := fun z hz => by
    rw [hY] at hz
    obtain ⟨p, hp, rfl⟩ := List.mem_map.1 hz
    obtain ⟨a1, a2, a3, a4, a5, a6⟩ := hL.2 p hp
    exact ⟨a1, a3, a4, a5⟩
  rw [syE_sys, ← hY, hYl]
  have D : Rdm (fun _ => true) ([] : Mem) 0 := rdmT nd0
  by_cases h1 : 500 < b.length
  · have e1 : decide ((b.length : Int) > 500) = true := decide_eq_true (by omega)
    simp (maxSteps := 1000000) -implicitDefEqProofs only [go_sem, seval, -List.reduceReplicate, Try.results9, Try.ntmps9, e1]
    refine kn07 ?_
    simp (maxSteps := 1000000) -implicitDefEqProofs only [go_sem, seval, -List.reduceReplicate]
    exact fin
  have e1 : decide ((b.length : Int) > 500) = false := decide_eq_false (by omega)
  by_cases h2 : 60 < Y.length
  · have e2 : decide ((Y.length : Int) > 60) = true := decide_eq_true (by omega)
    simp (maxSteps := 1000000) -implicitDefEqProofs only [go_sem, seval, -List.reduceReplicate, Try.results9, Try.ntmps9, e1, e2]
    refine kn07 ?_
    simp (maxSteps := 1000000) -implicitDefEqProofs only [go_sem, seval, -List.reduceReplicate]
    exact fin
  have e2 : decide ((Y.length : Int) > 60) = false := decide_eq_false (by omega)
  have hk0 := kmay D lc lp pb
  simp (maxSteps := 1000000) -implicitDefEqProofs only [go_sem, seval, -List.reduceReplicate, Try.results9, Try.ntmps9, e1, e2]
  refine CallG.any (CallG.pk hk0 ?_)
  cases hm : mayB lc lp pb with
  | false =>
    simp (maxSteps := 1000000) -implicitDefEqProofs only [go_sem, seval, -List.reduceReplicate]
    refine kn07 ?_
    simp (maxSteps := 1000000) -implicitDefEqProofs only [go_sem, seval, -List.reduceReplicate]
    exact fin
  | true =>
    obtain ⟨A, B, E, rfl, rfl, rfl, hAB, hE⟩ : ∃ A B E : Nat, lc = (A : Int) ∧ lp = (B : Int) ∧ pb = (E : Int) ∧ A + B ≤ 4 ∧ E ≤ 4 := by
      unfold mayB at hm
      simp only [Bool.and_eq_true, decide_eq_true_eq] at hm
      exact ⟨lc.toNat, lp.toNat, pb.toNat, by omega, by omega, by omega, by omega, by omega⟩
    simp (maxSteps := 1000000) -implicitDefEqProofs only [go_sem, seval, -List.reduceReplicate]
    have n1 := rnewY D lt0 A B E hm
    rw [Int.toNat_natCast, Int.toNat_natCast, Int.toNat_natCast] at n1
    refine CallG.any (CallG.weak n1 ?_)
    rintro v m1 nx1 ⟨rfl, g1, co1⟩
    have co1 : CoAt 1 0 (newC A B E) (newP A B) m1 := co1
    have D1 := g1.rdm D
    simp (maxSteps := 1000000) -implicitDefEqProofs only [go_sem, seval, -List.reduceReplicate]
    have n2 := rnewY D1 g1.lt A B E hm
    rw [Int.toNat_natCast, Int.toNat_natCast, Int.toNat_natCast] at n2
    refine CallG.any (CallG.weak n2 ?_)
    rintro v m2 nx2 ⟨rfl, g2, co2⟩
    have D2 := g2.rdm D1
    simp (maxSteps := 1000000) -implicitDefEqProofs only [go_sem, seval, -List.reduceReplicate]
    refine CallG.any (CallG.weak (enewOk D2 g2.lt) ?_)
    rintro v m3 nx3 ⟨rfl, hm3, rfl⟩
    have g3 := Gr.cons g2.nd g2.lt (eO .nils newS)
    rw [← hm3] at g3
    have D3 := g3.rdm D2
    have en3 : EncAt nx2 m3 newS [nx2] := by rw [hm3]; exact encAt_new m2 nx2
    simp (maxSteps := 1000000) -implicitDefEqProofs only [go_sem, seval, -List.reduceReplicate]
    refine CallG.any (CallG.weak (knew D3 g3.lt A B E hAB hE) ?_)
    rintro v m4 nx4 ⟨rfl, g4, q', qc, qs, hd4, hq'⟩
    have cl1 := look_ltm g1.lt co1.co
    have cl2 := look_ltm g2.lt co2.co
    have cl2' := look_ltm g2.lt co2.li
    have le2 := g2.le
    have le4 := g4.le
    have ql4 := look_ltm g4.lt hd4.ch
    have g24 := g3.trans g4
    have g14 := g2.trans g24
    have S0 : MS (encIo nx2) 1 0 (.ro b.length (bvs .u8 b)) b [] (newC A B E) (newP A B) newS [nx2] m4 := ⟨co1.ext (fun o h => g14.kp _ _ h) (fun o h => g14.kp _ _ h), en3.ext fun k _ o ho => g4.kp _ _ ho, .ro _ _, (fun h => by cases List.mem_singleton.1 h; omega), (fun h => by cases List.mem_singleton.1 h; omega), (fun h => by cases h), (fun h => by cases h), fun k h => by cases h⟩
    have W0 : CoAt (nx1 + 1) nx1 (newC A B E) (newP A B) m4 := co2.ext (fun o h => g24.kp _ _ h) (fun o h => g24.kp _ _ h)
    have K0 : KD noR (nx2 + 1 + 1) (newC A B E) m4 (newP A B) [nx2 + 1 + 1, nx2 + 1, q'] := ⟨nx2 + 1, 4, q', qc, [], qs, [], rfl, hd4, rfl, (fun h => by cases h), (fun h => by cases h), fun h => by cases h⟩
    simp (maxSteps := 1000000) -implicitDefEqProofs only [go_sem, seval, -List.reduceReplicate]
    refine LoopOk.upX (BI 1 0 nx2 (nx2 + 1 + 1) (nx1 + 1) nx1 (newC A B E) (newP A B) b (newP A B)) Y.length
      (fun i g => ([(19, .int .i64 (i : Nat)), (18, g.pv), (17, g.hv), (16, .ptr (nx2 + 1 + 1) 0), (15, .ptr nx2 0), (13, .ptr (nx1 + 1) 0), (11, .ptr 1 0), (10, .bool false), (3, .ro b.length (bvs .u8 b)), (0, .int .i64 (A : Nat)), (1, .int .i64 (B : Nat)), (2, .int .i64 (E : Nat)), (4, .ro Y.length (sys Y))], g.M, g.n)) ⟨newC A B E, newP A B, newS, newR, b, .ro b.length (bvs .u8 b), [], [nx2], [nx2 + 1 + 1, nx2 + 1, q'], m4, nx4, [], .nils, []⟩
      ⟨S0, K0, W0, .nil _ _ _, (fun e => by cases e), g4.nd, g4.lt, (by simp; omega), (fun k hk => by cases hk), (fun k hk => by cases hk), (fun k hk => by cases hk), (fun k hk => by cases hk), (by simp; omega), (by simp; omega), (by simp), (fun k hk => by cases hk), newRel, CoAt.mok A B E hAB hE, rfl, rfl, trivial, (fun k hk => by cases hk), Nat.le_refl _, encB_new _ (by decide), rencB_new _ (by decide), by show b.length ≤ 500 + 273 * 0; omega⟩ ((rdmT g4.nd).leN (Nat.zero_le _) ⟨rfl, rfl, rfl, rfl, rfl, rfl, rfl, rfl, rfl, rfl, rfl, rfl, rfl, trivial⟩) ?_
    rintro i g ⟨hi, I⟩
    have D := rdmT I.nd (nx := g.n)
    have wi : IntKind.i64.wrap ((i : Int) + 1) = ((i + 1 : Nat) : Int) := by rw [wrap_i64] <;> omega
    have hlen := I.hl
    rcases Nat.lt_or_ge i Y.length with h | h
    · have c1 : decide ((i : Int) < (Y.length : Int)) = true := decide_eq_true (by omega)
      obtain ⟨q1, q2, q3, q4, q5⟩ := I.S.hi.facts
      obtain ⟨y, hy⟩ : ∃ y, y = Y.getD i syZ := ⟨_, rfl⟩
      have hyr : rngS y := by
        rw [hy, List.getD_eq_getElem?_getD, List.getElem?_eq_getElem h]
        exact hYr _ (List.getElem_mem h)
      have s5 := sys_take Y i h
      rw [← hy] at s5
      have s6 : i * 5 < (sys Y).length := by rw [sys_len]; omega
      have s7 : 5 ≤ (List.drop (i * 5) (sys Y)).length := by rw [List.length_drop, sys_len]; omega
      have s8 : (i : Int) < (Y.length : Int) := by omega
      have hw : ∀ k ∈ 1 :: 0 :: g.ns, (fun _ : Nat => true) k = true := fun _ _ => rfl
      have b24 : encB g.e 24 := encBud.less _ _ 24 I.b1 (by omega)
      obtain ⟨r, rc, qq, qc', rs, qs', ne, e0, hd5, he5⟩ := id I.K
      have hfit := kfits D I.lt hd5 I.S.hi (by omega) y
      simp (maxSteps := 1000000) -implicitDefEqProofs only [go_sem, seval, -List.reduceReplicate, c1, q1, q2, q3, q4, q5, s5]
      refine ⟨s8, s6, s7, ?_⟩
      refine CallG.any (CallG.weak hfit ?_)
      rintro v m5 n5 ⟨rfl, g5⟩
      cases hf : fitsB g.C g.h.length y with
      | false =>
        simp (maxSteps := 1000000) -implicitDefEqProofs only [go_sem, seval, -List.reduceReplicate, wi]
        exact UpX_normal h { g with M := m5, n := n5 } ⟨I.S.gr g5, I.K.ext (fun k _ => g5.kp k), I.W.ext (fun o => g5.kp _ _) (fun o => g5.kp _ _), I.A.grow g5, I.Ar, g5.nd, g5.lt, I.d1, I.d2, I.d3, I.d4, I.d5, I.d6, I.d7, I.d8, I.d9, I.R, I.C, I.t, I.w, I.f, I.rg, by have := I.tl; show g.T.length ≤ i + 1; omega, encBud.less _ _ _ I.b1 (by omega), rencBud.less _ _ _ I.b2 (by omega), by show g.h.length ≤ _; omega⟩ ((rdmT g5.nd).leN (Nat.zero_le _) ⟨rfl, rfl, rfl, rfl, rfl, rfl, rfl, rfl, rfl, rfl, rfl, rfl, rfl, trivial⟩)
      | true =>
        obtain ⟨dq, hkd, hkr⟩ := distN_eq I.C hf
        obtain ⟨hC', kc1, kc2, kc3⟩ := becC_ok I.C hf (by omega)
        obtain ⟨zf, zp, zb, zd, zg, zc⟩ := plain_same I.C hf
        obtain ⟨z1, z2, z3, z4⟩ := put_rel (C := g.C) (h := g.h) (P := g.P) I.R y (j := 24 * (60 - (i + 1)) + 24) (encBud.less _ _ _ I.b1 (by omega)) (rencBud.less _ _ _ I.b2 (by omega))
        have D5 := g5.rdm D
        have S5 := I.S.gr g5
        have K5 := I.K.ext (fun k _ => g5.kp k)
        have W5 : CoAt (nx1 + 1) nx1 (newC A B E) (newP A B) m5 := I.W.ext (fun o => g5.kp _ _) (fun o => g5.kp _ _)
        have A5 := I.A.grow g5
        simp (maxSteps := 1000000) -implicitDefEqProofs only [go_sem, seval, -List.reduceReplicate, q1, q2, q3, q4, q5, s5]
        refine ⟨s8, s6, s7, ?_⟩
        refine CallG.any (CallG.weak (rputY D5 g5.lt S5 I.C (by omega) hw b24 y hf) ?_)
        rintro v m6 n6 ⟨rfl, fr6, ns6, S6, hn6⟩
        have D6 := fr6.rdm D5 hw
        have K6 := K5.ext (fun k hk o ho => fr6.kp k o (I.d1 k hk) ho)
        have W6 := W5.frm I.d6 fr6.kp
        have A6 := A5.ext (fun k hk o ho => fr6.kp k o (I.d3 k hk) ho)
        have h6 := sub3 (c := 1) (q := 0) hn6
        have d1 := dis_step I.d1 h6 (K5.lt g5.lt)
        have d3 := dis_step I.d3 h6 (A5.lt g5.lt)
        have wlt : ∀ {m : Mem} {n : Nat}, CoAt (nx1 + 1) nx1 (newC A B E) (newP A B) m → (∀ p ∈ m, p.1 < n) → ∀ k ∈ [nx1 + 1, nx1], k < n := fun W lt k hk => by
          rcases List.mem_cons.1 hk with rfl | hk
          · exact look_ltm lt W.co
          · cases List.mem_singleton.1 hk; exact look_ltm lt W.li
        have d6 := dis_step I.d6 h6 (wlt W5 g5.lt)
        obtain ⟨r, rc, qq, qc', rs, qs', ne, e0, hd6, he6⟩ := id K6
        simp (maxSteps := 1000000) -implicitDefEqProofs only [go_sem, seval, -List.reduceReplicate, q1, q2, q3, q4, q5, s5]
        refine ⟨s8, s6, s7, ?_⟩
        refine CallG.any (CallG.weak (kdist D6 fr6.lt hd6 y hkr) ?_)
        rintro v m7 n7 ⟨rfl, g7⟩
        rw [dq]
        have D7 := g7.rdm D6
        have S7 := S6.gr g7
        have K7 := K6.ext (fun k _ => g7.kp k)
        have W7 : CoAt (nx1 + 1) nx1 (newC A B E) (newP A B) m7 := W6.ext (fun o => g7.kp _ _) (fun o => g7.kp _ _)
        have A7 := A6.grow g7
        simp (maxSteps := 1000000) -implicitDefEqProofs only [go_sem, seval, -List.reduceReplicate, q1, q2, q3, q4, q5, s5]
        refine ⟨s8, s6, s7, ?_⟩
        refine CallG.any (CallG.weak (kbecD D7 g7.lt K7 (fun _ _ => rfl) I.C y hf) ?_)
        rintro v m8 n8 ⟨rfl, fr8, nd8, K8, hn8⟩
        have D8 := fr8.rdm D7 (fun _ _ => rfl)
        have d1s := dis_sym d1
        obtain ⟨x1, x2, x3, x4⟩ := S7.live g7.lt
        have S8 := S7.frm fr8 (d1s _ (.head _)) (d1s _ (.tail _ (.head _))) (fun k hk => d1s k (.tail _ (.tail _ hk))) I.d2
        have W8 := W7.frm I.d7 fr8.kp
        have A8 := A7.ext (fun k hk o ho => fr8.kp k o (I.d4 k hk) ho)
        have d1' : ∀ k ∈ 1 :: 0 :: ns6, k ∉ nd8 := dis_step d1s hn8 (fun k hk => by
          rcases List.mem_cons.1 hk with rfl | hk
          · exact x1
          rcases List.mem_cons.1 hk with rfl | hk
          · exact x2
          · exact x3 k hk)
        have d2' := dis_step I.d2 hn8 x4
        have d4' := dis_step I.d4 hn8 (A7.lt g7.lt)
        have d7' := dis_step I.d7 hn8 (wlt W7 g7.lt)
        simp (maxSteps := 1000000) -implicitDefEqProofs only [go_sem, seval, -List.reduceReplicate, q1, q2, q3, q4, q5, s5]
        refine ⟨s8, s6, s7, ?_⟩
        refine CallG.any (CallG.weak (kgrow D8 fr8.lt S8.hi (by omega) y (distN g.C y) hkd) ?_)
        rintro hv9 m9 n9 ⟨g9, hv9r, hs9, hi9, hn9⟩
        have D9 := g9.rdm D8
        obtain ⟨p1, p2, p3, p4, p5⟩ := hi9.facts
        obtain ⟨o1, o2, o3, o4, o5⟩ := I.A.facts
        have tk5 : ∀ z : Sy, List.take 5 (syL z) = syL z := fun _ => rfl
        simp (maxSteps := 1000000) -implicitDefEqProofs only [go_sem, seval, -List.reduceReplicate, q1, q2, q3, q4, q5, s5, p1, p2, p3, p4, p5, o1, o2, o3, o4, o5]
        refine ⟨s8, s6, s7, ?_⟩
        refine CallG.any (CallG.weak (kplainS D9 g9.lt y) ?_)
        rintro v m10 n10 ⟨rfl, g10⟩
        simp (maxSteps := 1000000) -implicitDefEqProofs only [go_sem, seval, -List.reduceReplicate, q1, q2, q3, q4, q5, s5, p1, p2, p3, p4, p5, o1, o2, o3, o4, o5, tk5, sl5, sm5, zl5, so5, byS40]
        refine ⟨.inr trivial, ?_⟩
        have gA : Gr m9 n9 ((n10, .cells (syL (plainS y)) 71) :: m10) (n10 + 1) := g10.trans (Gr.cons g10.nd g10.lt (.cells (syL (plainS y)) 71))
        have g8A := g9.trans gA
        have A11 := A8.grow g8A
        refine appk_sl (j := 1) (Y := syL (plainS y)) A11 I.Ar gA.nd gA.lt (fun _ _ => rfl) rfl rfl (by decide) (by have := I.tl; omega) ?_
        intro pv' m11 n11 ps' c1' c2' c3' c4' c5' c6' c7' c8'
        have S11 := S8.gr g8A
        have n8l := fr8.le
        have g9l := g9.le
        have gAl := gA.le
        have hs9n : ∀ k ∈ hs9, n8 ≤ k := hn9
        have psl := A8.lt fr8.lt
        have hs9p : ∀ k ∈ hs9, k ∉ g.ps := fun k hk hm => by have := hn9 k hk; have := psl k hm; omega
        obtain ⟨y1, y2, y3, y4⟩ := S8.live fr8.lt
        have F11 : Fr g.ps ((n10, .cells (syL (plainS y)) 71) :: m10) (n10 + 1) m11 n11 := ⟨c3', c5', c6', c7'⟩
        have d3s := dis_sym d3
        have hi11 := hi9.grow gA
        have S12 := (S11.his hi11 (fun h => by have := hn9 _ h; omega) (fun h => by have := hn9 _ h; omega) (fun k hk hm => by have := hn9 k hk; have := y3 k hm; omega)).frm F11 (d3s _ (.head _)) (d3s _ (.tail _ (.head _))) (fun k hk => d3s k (.tail _ (.tail _ hk))) hs9p
        have K12 := (K8.ext (fun k _ => g8A.kp k)).ext (fun k hk o ho => c7' k o (fun hm => d4' k hm hk) ho)
        have W12 : CoAt (nx1 + 1) nx1 (newC A B E) (newP A B) m11 := (W8.ext (fun o => g8A.kp _ _) (fun o => g8A.kp _ _)).frm I.d8 c7'
        have le12 : ∀ k, k < n8 → k < n10 + 1 := fun k h => by omega
        have psn : ∀ k ∈ ps', k ∈ g.ps ∨ n8 ≤ k := fun k hk => (c4' k hk).imp id fun h => by omega
        have eT : sys g.T ++ syL (plainS y) = sys (g.T ++ [plainS y]) := by rw [sys_app]; rfl
        have eL : g.T.length + 1 = (g.T ++ [plainS y]).length := by rw [List.length_append]; rfl
        rw [eT, eL] at c1' c2'
        have hw2 : walkS (newC A B E) b (g.T ++ [plainS y]) = (becC g.C y, growS g.h y (distN g.C y)) := by
          rw [walk_app, ← I.w]
          show (becC g.C (plainS y), growS g.h (plainS y) (distN g.C (plainS y))) = _
          rw [zb, zd, zg]
        have ht2 : told rencM (cmdA (newC A B E) b (g.T ++ [plainS y])) (newP A B) newR = told rencM (cmds (symP g.C g.h y)).2 g.P g.s := by
          rw [cmdA_app, told_app, ← I.t, ← I.w]
          show told rencM ((cmds (symP g.C g.h (plainS y))).2 ++ []) g.P g.s = _
          rw [List.append_nil, zc]
        have hhl : (growS g.h y (distN g.C y)).length ≤ 500 + 273 * (i + 1) := by
          unfold growS
          split
          · rw [List.length_append]; show _ + 1 ≤ _; omega
          · rename_i h0
            have := hkd.resolve_left h0
            rw [growN_len]; omega
        simp (maxSteps := 1000000) -implicitDefEqProofs only [go_sem, seval, -List.reduceReplicate, wi]
        refine UpX_normal h ⟨becC g.C y, (run encM (symP g.C g.h y) g.P g.e).2.1, (run encM (symP g.C g.h y) g.P g.e).2.2, (told rencM (cmds (symP g.C g.h y)).2 g.P g.s).2, growS g.h y (distN g.C y), hv9, hs9, ns6, nd8, m11, n11, g.T ++ [plainS y], pv', ps'⟩ ⟨S12, K12, W12, c1', c2', c5', c6', dis_sym d1', (fun k hk hm => by have := hn9 k hk; have := K8.lt fr8.lt k hm; omega), dis_sym (dis_step d3s psn (fun k hk => by
            rcases List.mem_cons.1 hk with rfl | hk
            · exact y1
            rcases List.mem_cons.1 hk with rfl | hk
            · exact y2
            · exact y3 k hk)), dis_sym (dis_step (dis_sym d4') psn (K8.lt fr8.lt)), ?_, d6, d7', dis_step I.d8 psn (wlt W8 fr8.lt), (fun k hk hm => by have := hn9 k hk; have := wlt W8 fr8.lt k hm; omega), z2, hC', by rw [ht2, z1], hw2.symm, ?_, ?_, by have := I.tl; rw [List.length_append]; show _ + 1 ≤ _; omega, z3, z4, hhl⟩ ((rdmT c5').leN (Nat.zero_le _) ⟨rfl, rfl, rfl, rfl, rfl, rfl, rfl, rfl, rfl, rfl, rfl, rfl, rfl, trivial⟩)
        · intro k hk hm
          rcases c4' k hm with h | h
          · exact hs9p k hk h
          · have := hi9.lt g9.lt k hk; omega
        · rw [fitA_app, ← I.w]
          exact ⟨I.f, zf, zp, trivial⟩
        · intro z hz
          rcases List.mem_append.1 hz with hz | hz
          · exact I.rg z hz
          · cases List.mem_singleton.1 hz; exact plain_rng hyr
    · have hil : i = Y.length := by omega
      have c1 : decide ((i : Int) < (Y.length : Int)) = false := decide_eq_false (by omega)
      obtain ⟨q1, q2, q3, q4, q5⟩ := I.S.hi.facts
      have heq : bytE g.e = 0#8 :: g.s.low := bytE_eq I.R.1 (by have := I.R.2; omega)
      have hlow := I.R.1.len
      have hbd := I.b2.2.2
      have hx := bytEOk D I.lt (show EncAt nx2 g.M g.e g.ns from I.S.io) (by have := I.b1.2; omega)
      rw [heq] at hx
      obtain ⟨F, hF⟩ : ∃ F, F = g.s.low := ⟨_, rfl⟩
      rw [← hF] at hx hlow hbd
      have hFt : (told rencM (cmdA (newC A B E) b g.T) (newP A B) newR).2.low = F := by rw [← I.t, hF]
      obtain ⟨hsyn, hdone⟩ := told_read (cmdA (newC A B E) b g.T) (newP A B) (cmdA_bound _ _ _) hFt (by omega)
      have hDD : (F.drop 4).length ≤ 1000000 := by rw [List.length_drop]; omega
      simp (maxSteps := 1000000) -implicitDefEqProofs only [go_sem, seval, -List.reduceReplicate, c1, q1, q2, q3, q4, q5]
      refine CallG.any (CallG.weak hx ?_)
      rintro v5 m5 n5 ⟨ns5, b5, b5r, b5n, g5⟩
      obtain ⟨p1, p2, p3, p4, p5⟩ := b5.facts
      simp (maxSteps := 1000000) -implicitDefEqProofs only [go_sem, seval, -List.reduceReplicate, p1, p2, p3, p4, p5]
      have hnE : newE (0#8 :: F) = 0 := by
        rw [newE, if_neg (by rw [List.length_cons]; omega), if_neg (fun e => e rfl)]
      refine CallG.weak (dnewBy (by rw [List.length_cons]; omega) g5.nd g5.lt b5) ?_
      rintro v6 m6 n6 ⟨g6, hif⟩
      rw [if_pos hnE] at hif
      obtain ⟨a, an, rfl, ha, han, hd6⟩ := hif
      have g56 := g5.trans g6
      have D6 := rdmT g6.nd (nx := n6)
      simp (maxSteps := 1000000) -implicitDefEqProofs only [go_sem, seval, -List.reduceReplicate]
      refine CallG.any (CallG.weak (knew D6 g6.lt A B E hAB hE) ?_)
      rintro v7 m7 n7 ⟨rfl, g7, q7, qc7, qs7, hd7, hq7⟩
      have g57 := g56.trans g7
      have W7 : CoAt (nx1 + 1) nx1 (newC A B E) (newP A B) m7 := I.W.ext (fun o => g57.kp _ _) (fun o => g57.kp _ _)
      have wl := look_ltm I.lt I.W.co
      have wl2 := look_ltm I.lt I.W.li
      have l5 := g5.le
      have l6 := g6.le
      have l7 := g7.le
      have al := hd6.live a (.head _)
      have anl := hd6.live an (.tail _ (.head _))
      obtain ⟨oa, hoa⟩ := al
      obtain ⟨oan, hoan⟩ := anl
      have al := look_ltm g6.lt hoa
      have anl := look_ltm g6.lt hoan
      have psl := I.A.lt I.lt
      have hsl := I.S.hi.lt I.lt
      have hdrop : (0#8 :: F).drop 5 = F.drop 4 := rfl
      rw [hdrop] at hd6
      have S7 : MS (decIo a (F.drop 4) hDD) (nx1 + 1) nx1 (.ro b.length (bvs .u8 b)) b [] (newC A B E) (newP A B) (start (0#8 :: F)) [a, an] m7 := ⟨W7, hd6.ext fun k _ => g7.kp k, .ro _ _, (by simp; omega), (by simp; omega), (fun h => by cases h), (fun h => by cases h), fun k h => by cases h⟩
      have K7 : KD noR (n6 + 1) (newC A B E) m7 (newP A B) [n6 + 1, n6, q7] := ⟨n6, 4, q7, qc7, [], qs7, [], rfl, hd7, rfl, (fun h => by cases h), (fun h => by cases h), fun h => by cases h⟩
      have hwT : walkS (newC A B E) b g.T = (g.C, g.h) := I.w.symm
      simp (maxSteps := 1000000) -implicitDefEqProofs only [go_sem, seval, -List.reduceReplicate]
      refine LoopOk.upX (CI (nx1 + 1) nx1 a (n6 + 1) (F.drop 4) hDD (newC A B E) (newP A B) b g.T (start (0#8 :: F)) (newP A B) g.pv g.ps g.hv g.hs) g.T.length
        (fun i z => ([(25, .int .i64 (i : Nat)), (24, z.hv), (23, .ptr (n6 + 1) 0), (21, .ptr a 0), (18, g.pv), (17, g.hv), (13, .ptr (nx1 + 1) 0), (10, .bool false)], z.M, z.n)) ⟨.ro b.length (bvs .u8 b), [], [a, an], [n6 + 1, n6, q7], m7, n7⟩
        ⟨S7, K7, I.A.grow g57, by rw [hwT]; exact I.S.hi.grow g57, g7.nd, g7.lt, (by simp; omega), (fun k hk => by cases hk), (fun k hk => by have := psl k hk; have := I.d8; simp; exact ⟨fun e => I.d8 _ (.head _) (by rw [← e]; exact hk), fun e => I.d8 _ (.tail _ (.head _)) (by rw [← e]; exact hk), by omega, by omega⟩), (fun k hk => by have := psl k hk; simp; omega), (fun k hk => by have := hsl k hk; have h9 := I.d9 k hk; simp at h9 ⊢; omega), (fun k hk => by have := hsl k hk; simp; omega), CoAt.mok A B E hAB hE, start_ok _, by show b.length ≤ 500 + 273 * 0; omega⟩ ((rdmT g7.nd).leN (Nat.zero_le _) ⟨rfl, rfl, rfl, rfl, rfl, rfl, rfl, rfl, trivial⟩) ?_
      rintro i z ⟨hi2, J⟩
      have D := rdmT J.nd (nx := z.n)
      have wi : IntKind.i64.wrap ((i : Int) + 1) = ((i + 1 : Nat) : Int) := by rw [wrap_i64] <;> (have := I.tl; omega)
      have hiv := J.S.hi
      obtain ⟨q1, q2, q3, q4, q5⟩ := hiv.facts
      have a6 := J.A.len Try.prog 58
      obtain ⟨a1, a2, a3, a4, a5⟩ := J.A.facts
      rcases Nat.lt_or_ge i g.T.length with h' | h'
      · have c2 : decide ((i : Int) < (g.T.length : Int)) = true := decide_eq_true (by omega)
        obtain ⟨f1, f2, f3, f4⟩ := read_one hsyn I.f i h' syZ
        have S := J.S
        have K := J.K
        have hlJ := J.hl
        have okJ := J.ok
        have CJ := J.C
        have rz : rngS (g.T.getD i syZ) := by
          rw [List.getD_eq_getElem?_getD, List.getElem?_eq_getElem h']
          exact I.rg _ (List.getElem_mem h')
        generalize walkS (newC A B E) b (List.take i g.T) = X at S K f1 f3 f4 hlJ CJ hiv
        generalize chs (cmdA (newC A B E) b (List.take i g.T)) (newP A B) = Px at S f4
        obtain ⟨y, hy⟩ : ∃ y, y = g.T.getD i syZ := ⟨_, rfl⟩
        rw [← hy] at f1 f2 f3 f4 rz
        have hlX : X.2.length ≤ 50000 := by have := I.tl; omega
        have hcode : CallG false Try.prog 56 [.ptr (nx1 + 1) 0, .iface (decIo a (F.drop 4) hDD).ty (decIo a (F.drop 4) hDD).rc, z.hv, .agg (syL syZ)] (fun _ => true) z.M z.n (MK (decIo a (F.drop 4) hDD) (nx1 + 1) nx1 z.hv X.2 z.hs (becC X.1 y) (.agg (syL y)) (chs (cmdA (newC A B E) b (List.take (i + 1) g.T)) (newP A B)) ((deeds (cmdA (newC A B E) b (List.take (i + 1) g.T)) (newP A B)).foldl (stepD (F.drop 4)) (start (0#8 :: F))) z.ns z.M z.n) := by
          have h0 := rcode D J.lt S CJ (by omega) (fun _ _ => rfl) (show (decIo a (F.drop 4) hDD).Ok ((deeds (cmdA (newC A B E) b (List.take i g.T)) (newP A B)).foldl (stepD (F.drop 4)) (start (0#8 :: F))) 24 from okJ) syZ (.inl ⟨by decide, by decide, by decide, by decide⟩)
          have key : ∀ (r r' : (Sy × MC) × List (BitVec 16) × DS), r = r' → CallG false Try.prog 56 [.ptr (nx1 + 1) 0, .iface (decIo a (F.drop 4) hDD).ty (decIo a (F.drop 4) hDD).rc, z.hv, .agg (syL syZ)] (fun _ => true) z.M z.n (CK (decIo a (F.drop 4) hDD) (nx1 + 1) nx1 z.hv X.2 z.hs (fun y => .agg (syL y)) r z.ns z.M z.n) → CallG false Try.prog 56 [.ptr (nx1 + 1) 0, .iface (decIo a (F.drop 4) hDD).ty (decIo a (F.drop 4) hDD).rc, z.hv, .agg (syL syZ)] (fun _ => true) z.M z.n (CK (decIo a (F.drop 4) hDD) (nx1 + 1) nx1 z.hv X.2 z.hs (fun y => .agg (syL y)) r' z.ns z.M z.n) := fun _ _ e h => e ▸ h
          exact key _ _ f4 h0
        have ok2 : okS (F.drop 4) ((deeds (cmdA (newC A B E) b (List.take (i + 1) g.T)) (newP A B)).foldl (stepD (F.drop 4)) (start (0#8 :: F))) := by
          have := (decBud (F.drop 4)).run 24 0 (symP X.1 X.2 syZ) Px ((deeds (cmdA (newC A B E) b (List.take i g.T)) (newP A B)).foldl (stepD (F.drop 4)) (start (0#8 :: F))) (symP_le _ _ _) okJ
          rw [f4] at this
          exact this
        simp (maxSteps := 1000000) -implicitDefEqProofs only [go_sem, seval, -List.reduceReplicate, c2, q1, q2, q3, q4, q5, a1, a2, a3, a4, a5, a6]
        refine CallG.any (CallG.weak hcode ?_)
        rintro v m8 n8 ⟨rfl, fr8, ns8, S8, hn8⟩
        have D8 := fr8.rdm D (fun _ _ => rfl)
        have sp5 : spl [AV.int IntKind.i64 0, AV.int IntKind.u8 0, AV.int IntKind.i64 0, AV.int IntKind.i64 0, AV.int IntKind.i64 0] 0 (syL y) = syL y := rfl
        simp (maxSteps := 1000000) -implicitDefEqProofs only [go_sem, seval, -List.reduceReplicate, q1, q2, q3, q4, q5, a1, a2, a3, a4, a5, a6, tk5y, sp5]
        refine ⟨rfl, Nat.le_refl _, rfl, ?_⟩
        have h8 := sub3 (c := nx1 + 1) (q := nx1) hn8
        have d1 := dis_step J.d1 h8 (K.lt J.lt)
        have d3 := dis_step J.d3 h8 (J.A.lt J.lt)
        have d5 := dis_step J.d5 h8 (J.H.lt J.lt)
        have K8 := K.ext (fun k hk o ho => fr8.kp k o (J.d1 k hk) ho)
        have A8 := J.A.ext (fun k hk o ho => fr8.kp k o (J.d3 k hk) ho)
        have H8 := J.H.ext (fun k hk o ho => fr8.kp k o (J.d5 k hk) ho)
        have g9 := Gr.cons D8.nd fr8.lt (.cells (syL y) 71)
        have D9 := g9.rdm D8
        have S9 := S8.gr g9
        have K9 := K8.ext (fun k _ => g9.kp k)
        have A9 := A8.grow g9
        have H9 := H8.grow g9
        have n8l := fr8.le
        obtain ⟨p, hp1, hp2⟩ := slA_agg A9 i h' (by decide) elS szS knS agS
        rw [sys_take g.T i h', ← hy] at hp2
        have bx9 : Eng.look ((n8, AObj.cells (syL y) 71) :: m8) n8 = some (.cells (syL y) 71) := look_c0 _ _ _
        have lit := symLits y rz
        have rdA : ∀ n ∈ g.ps, Rd (wrD ((n8, AObj.cells (syL y) 71) :: m8) (n8 + 1) []) n = true := fun n hn => by
          obtain ⟨o, ho⟩ := A9.live n hn
          have h1 := A9.lt g9.lt n hn
          have h2 : decide (n8 + 1 ≤ n) = false := decide_eq_false (by omega)
          simp [Rd, wrD, ho, h2]
        have fd8 : decide (n8 + 1 ≤ n8) = false := decide_eq_false (by omega)
        refine ⟨Fx.mixed, .inl ⟨[(0, false), (1, false), (2, false), (3, false), (4, false), (5, false)], [], by kernel_rfl, (fun n hn => by cases hn), ?_⟩⟩
        simp (maxSteps := 1000000) -implicitDefEqProofs only [go_sem, seval, -List.reduceReplicate, q1, q2, q3, q4, q5, a1, a2, a3, a4, a5, a6, tk5y, sl5, fd8]
        refine hp1 _ ?_
        simp (maxSteps := 1000000) -implicitDefEqProofs only [go_sem, seval, -List.reduceReplicate, q1, q2, q3, q4, q5, a1, a2, a3, a4, a5, a6, tk5y, sl5, fd8]
        refine hp2 _ _ rdA ?_
        simp (maxSteps := 1000000) -implicitDefEqProofs only [go_sem, seval, -List.reduceReplicate, q1, q2, q3, q4, q5, a1, a2, a3, a4, a5, a6, tk5y, sl5, fd8, lit, litEq_self]
        obtain ⟨dq, hkd, hkr⟩ := distN_eq CJ f1
        obtain ⟨hC', kc1, kc2, kc3⟩ := becC_ok CJ f1 (by omega)
        obtain ⟨r, rc, qq, qc', rs, qs', ne, e0, hd9, he9⟩ := id K9
        have nn9 : n8 ∉ z.nd := fun hm => by have := K.lt J.lt n8 hm; omega
        refine CallG.any (CallG.weak (kdist D9 g9.lt hd9 y hkr) ?_)
        rintro v m10 n10 ⟨rfl, g10⟩
        rw [dq]
        have D10 := g10.rdm D9
        have K10 := K9.ext (fun k _ => g10.kp k)
        have bx10 := g10.kp _ _ bx9
        simp (maxSteps := 1000000) -implicitDefEqProofs only [go_sem, seval, -List.reduceReplicate, tk5y, sl5, bx10]
        refine CallG.any (CallG.weak (kbecD D10 g10.lt K10 (fun _ _ => rfl) CJ y f1) ?_)
        rintro v m11 n11 ⟨rfl, fr11, nd11, K11, hn11⟩
        have D11 := fr11.rdm D10 (fun _ _ => rfl)
        have S10 := S9.gr g10
        have A10 := A9.grow g10
        have H10 := H9.grow g10
        have d1s := dis_sym d1
        obtain ⟨x1, x2, x3, x4⟩ := S10.live g10.lt
        have S11 := S10.frm fr11 (d1s _ (.head _)) (d1s _ (.tail _ (.head _))) (fun k hk => d1s k (.tail _ (.tail _ hk))) J.d2
        have A11 := A10.ext (fun k hk o ho => fr11.kp k o (J.d4 k hk) ho)
        have H11 := H10.ext (fun k hk o ho => fr11.kp k o (J.d6 k hk) ho)
        have bx11 := fr11.kp _ _ nn9 bx10
        have xs : ∀ k ∈ (nx1 + 1) :: nx1 :: ns8, k < n10 := fun k hk => by
          rcases List.mem_cons.1 hk with rfl | hk
          · exact x1
          rcases List.mem_cons.1 hk with rfl | hk
          · exact x2
          · exact x3 k hk
        have d1' : ∀ k ∈ (nx1 + 1) :: nx1 :: ns8, k ∉ nd11 := dis_step d1s hn11 xs
        have d4' := dis_step J.d4 hn11 (A10.lt g10.lt)
        have d6' := dis_step J.d6 hn11 (H10.lt g10.lt)
        obtain ⟨q1, q2, q3, q4, q5⟩ := S11.hi.facts
        simp (maxSteps := 1000000) -implicitDefEqProofs only [go_sem, seval, -List.reduceReplicate, tk5y, sl5, bx11, q1, q2, q3, q4, q5]
        refine CallG.any (CallG.weak (kgrow D11 fr11.lt S11.hi (by omega) y (distN X.1 y) hkd) ?_)
        rintro hv12 m12 n12 ⟨g12, hv12r, hs12, hi12, hn12⟩
        have D12 := g12.rdm D11
        have S12 := S11.gr g12
        have K12 := K11.ext (fun k _ => g12.kp k)
        obtain ⟨r9, rc9, qq9, qc9, rs9, qs9, ne9, e9, hd12, he12⟩ := id K12
        have co12 := hd12.co
        have dl12 := look_ltm g12.lt co12
        have fd12 : decide (n12 ≤ n6 + 1) = false := decide_eq_false (by omega)
        have DW := D12.drawn []
        obtain ⟨p1, p2, p3, p4, p5⟩ := hi12.facts
        have hst : CallG false Try.prog 48 [.ptr (nx1 + 1) 0] (wrD m12 n12 []) m12 n12 (PK (.int .i64 ((becC X.1 y).st : Nat)) m12 n12) := rstate DW S12.co
        simp (maxSteps := 1000000) -implicitDefEqProofs only [go_sem, seval, -List.reduceReplicate, p1, p2, p3, p4, p5]
        refine ⟨Fx.mixed, .inl ⟨[(0, false), (2, false), (3, false), (4, false), (5, false), (1, true), (6, false), (7, false), (8, false), (10, false), (11, false), (12, false), (13, false), (9, true), (14, true), (15, false), (16, false)], [], by kernel_rfl, (fun n hn => by cases hn), ?_⟩⟩
        simp (maxSteps := 1000000) -implicitDefEqProofs only [go_sem, seval, -List.reduceReplicate, co12, fd12]
        refine CallG.any (CallG.pk hst ?_)
        simp (maxSteps := 1000000) -implicitDefEqProofs only [go_sem, seval, -List.reduceReplicate, co12, fd12]
        refine CallG.any (CallG.weak (rrepeats DW g12.lt S12.co) ?_)
        rintro v m13 n13 ⟨rfl, g13⟩
        have re13 := g13.kp _ _ hd12.re
        simp (maxSteps := 1000000) -implicitDefEqProofs only [go_sem, seval, -List.reduceReplicate, co12, fd12]
        refine CallG.any (CallG.weak (kreps (g13.rdm DW) g13.lt (becC X.1 y) re13) ?_)
        rintro v m14 n14 ⟨rfl, g14⟩
        simp (maxSteps := 1000000) -implicitDefEqProofs only [go_sem, seval, -List.reduceReplicate, wi]
        have g24' := g13.trans g14
        have n11l := fr11.le
        have hnew : ∀ k ∈ hs12, k ∉ nd11 := fun k hk hm => by
          have := K11.lt fr11.lt k hm
          have := hn12 k hk
          omega
        have S13 := (S12.his hi12 (fun h => by have := hn12 _ h; omega) (fun h => by have := hn12 _ h; omega) (fun k hk hm => by have := hn12 k hk; have := x3 k hm; omega)).gr g24'
        have hhl : (growS X.2 y (distN X.1 y)).length ≤ 500 + 273 * (i + 1) := by
          unfold growS
          split
          · rw [List.length_append]; show _ + 1 ≤ _; omega
          · rename_i h0
            have := hkd.resolve_left h0
            rw [growN_len]; omega
        refine UpX_normal h' ⟨hv12, hs12, ns8, nd11, m14, n14⟩ ⟨by rw [f3]; exact S13, by rw [f3]; exact K12.ext (fun k _ => g24'.kp k), (A11.grow g12).grow g24', (H11.grow g12).grow g24', g24'.nd, g24'.lt, dis_sym d1', hnew, d3, d4', d5, d6', by rw [f3]; exact hC', ok2, by rw [f3]; exact hhl⟩ ((rdmT g24'.nd).leN (Nat.zero_le _) ⟨rfl, rfl, rfl, rfl, rfl, rfl, rfl, rfl, trivial⟩)
      · have hil2 : i = g.T.length := by omega
        have c2 : decide ((i : Int) < (g.T.length : Int)) = false := decide_eq_false (by omega)
        have hH := J.H
        have okJ := J.ok
        have hS := J.S.hi
        have hio := J.S.io
        rw [hil2, List.take_length] at hS
        have hio' : DcAt a (F.drop 4) z.M ((deeds (cmdA (newC A B E) b (List.take i g.T)) (newP A B)).foldl (stepD (F.drop 4)) (start (0#8 :: F))) z.ns := hio
        rw [hil2, List.take_length] at hio' okJ
        obtain ⟨rn, rcap, rsp, _, hdec⟩ := hio'
        have hdn : CallG false Try.prog 57 [.ptr a 0] (fun _ => true) z.M z.n (PK (.bool true) z.M z.n) := by
          have := ddoneOk D hdec okJ.1
          rw [hdone] at this
          exact this
        obtain ⟨b1, b2, b3, b4, b5⟩ := hH.facts
        simp (maxSteps := 1000000) -implicitDefEqProofs only [go_sem, seval, -List.reduceReplicate, c2, q1, q2, q3, q4, q5, a1, a2, a3, a4, a5, a6]
        refine CallG.any (CallG.pk hdn ?_)
        simp (maxSteps := 1000000) -implicitDefEqProofs only [go_sem, seval, -List.reduceReplicate, q1, q2, q3, q4, q5]
        rw [hS.cvx elBy inBy stBy]
        simp (maxSteps := 1000000) -implicitDefEqProofs only [go_sem, seval, -List.reduceReplicate, b1, b2, b3, b4, b5]
        rw [hH.cvx elBy inBy stBy]
        simp (maxSteps := 1000000) -implicitDefEqProofs only [go_sem, seval, -List.reduceReplicate, strEq]
        refine kn07 ?_
        simp (maxSteps := 1000000) -implicitDefEqProofs only [go_sem, seval, -List.reduceReplicate]
        exact fin
end Go.Proofs.Ytmdeoikpiiambaa
end
